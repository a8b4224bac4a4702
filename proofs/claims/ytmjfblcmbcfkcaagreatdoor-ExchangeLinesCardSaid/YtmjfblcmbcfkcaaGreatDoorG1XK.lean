/- The reference's Parse of a memory: the loop. No conditions. The reference's Parse of a memory. No conditions. The law ExchangeParses. No conditions. The reference's Format of a memory. No conditions. The law's memories out of numbers, long lists; the law ExchangeRoundTrips. No conditions. The law ExchangeCounts. No conditions. The law ExchangeReads. No conditions. The law ExchangeLines: the loop. No conditions. The law ExchangeLines. No conditions. -/
import Derived.Test.YtmjfblcmbcfkcaaGreatDoorG1XJ
import Derived.Test.YtmjfblcmbcfkcaaGreatDoorG1XI
open List
set_option linter.unusedSimpArgs false
set_option linter.unusedVariables false
set_option linter.unusedSectionVars false
set_option maxRecDepth 100000
set_option maxHeartbeats 16000000
namespace Go.Av
open Go.Nt
def F41L (L:List Bs) (cp:Bool) (N:Int) (b:Bool) (m:List En) (last:Int) (i:Nat):List (Nat × AV):=[(5,.sl .no 1 (strs L)),(6,.bool cp),(9,.int .i64 N),(11,.sl (md b) 8 (ens m)),(12,.ptr 0 0),(13,.int .i64 last),(14,.int .i64 i),(25,.bool false),(42,.bool false),(60,.bool false)]
theorem l41s (L:List Bs) (cp:Bool) (N:Int) (b x y:Bool) (r:Rd) (e:En) (i:Nat) (t:Bs) (hg:L[i]?=some t) (ht:t.length<=50000) (hL:L.length<=100000) (hc:((((i:Int)=(L.length:Int) - 1)=True)/\cp=true)\/(((i:Int)=(L.length:Int) - 1)=False)) (hR:RB x y r e) (hm:r.m.length<=100000) :
  ((lineR r t).1=0->∃ b' x' y' e',RB x' y' (lineR r t).2 e'/\(lineR r t).2.m.length<=r.m.length+1/\execX G0 L41_1 (ST (F41L L cp N b r.m ((r.k:Int) - 1) i) [] [Oe x y e])=execX G0 L41_1 (ST (F41L L cp N b' (lineR r t).2.m (((lineR r t).2.k:Int) - 1) (i+1)) [] [Oe x' y' e'])) /\
  ((lineR r t).1≠0->∃ l' sh',execX G0 L41_1 (ST (F41L L cp N b r.m ((r.k:Int) - 1) i) [] [Oe x y e])=some (.ret,ST l' [] sh')/\look .any l' 2=.sl .full 8 []/\look .any l' 3=.int .i64 ((i:Int)+1)/\look .any l' 4=.int .i64 (lineR r t).1):=by
 have hil:i < L.length:=(List.getElem?_eq_some_iff.1 hg).1;have h1:(i:Int) < (L.length:Int):=by omega
 have h0:(0:Int)<=(i:Int):=by omega
 have hw:IntKind.i64.wrap ((i:Int)+1)=((i+1:Nat):Int):=by rw[w64 (by omega) (by omega)];rfl
 have hw1:IntKind.i64.wrap ((L.length:Int) - 1)=(L.length:Int) - 1:=by rw[w64 (by omega) (by omega)]
 have hi2:((i+1:Nat):Int)=(i:Int)+1:=rfl;have c40:=c40';have hfl:fnm.length=8:=rfl;have ec0:((0:Nat):Int)=0:=rfl;have ec8:((8:Nat):Int)=8:=rfl;obtain⟨hb,hBm,hx,hy,hn,hz⟩:=hR;have hin:=fun sh=>l41a L t cp N ((r.k:Int) - 1) b r.m i hg sh 8 0 (-1,[]) rfl
 simp only[] at hin;rw[ec0] at hin;have hn1:((-1:Int) < 0)=True:=eq_true (by decide);cases hf:fld t with
 | none =>
  have hr:=lineR_n (r:=r) hf;rw[hr];refine⟨fun h=>(by cases h),fun _=>?_⟩;rw[finG_no hf _ 8 0 rfl] at hin;simp only[] at hin;rcases hc with ⟨q,rfl⟩ | q <;>
  ·refine Exists.intro ?_ (Exists.intro ?_ (And.intro ?_ ?_))
   rotate_left 2
   ·rw[Y_loop (L:=L41_1) rfl]
    simp only[go_sem,F41L,strs_len,h0,h1,hw,hw1,q,c40,hfl,ec8,hin,int_eqb,hn1,decide_true,decide_false];rfl
   ·exact⟨rfl,rfl,rfl⟩
 | some p =>
  obtain⟨k,v⟩:=p;have hk:k < 8:=(fld_some hf).1;have hv:v.length<=50000:=by
   have:=(fld_some hf).2
   rw[this] at ht;unfold lnK at ht;rw[length_append,length_cons] at ht;omega
  rw[finG_at hf 8 0 _ rfl (fun z=>absurd z (by omega))] at hin;simp only[] at hin;have hk0:((k:Int) < 0)=False:=eq_false (by omega);by_cases hfit:(if r.k < 2 then k=r.k else r.k<=k)
  case neg =>
   have hr:=lineR_f hf hfit;rw[hr];refine⟨fun h=>(by cases h),fun _=>?_⟩;by_cases g:r.k < 2
   ·rw[if_pos g] at hfit
    have g1:((r.k:Int) - 1 < 1)=True:=eq_true (by omega);have g2:((k:Int)=(r.k:Int))=False:=eq_false (by omega);have hwk:IntKind.i64.wrap ((r.k:Int) - 1+1)=(r.k:Int):=by rw[w64 (by omega) (by omega)];omega
    rcases hc with ⟨q,rfl⟩ | q <;>
    ·refine Exists.intro ?_ (Exists.intro ?_ (And.intro ?_ ?_))
     rotate_left 2
     ·rw[Y_loop (L:=L41_1) rfl]
      simp only[go_sem,F41L,strs_len,h0,h1,hw,hw1,hwk,q,g1,g2,c40,hfl,ec8,hin,int_eqb,hk0,decide_true,decide_false,not_false_eq_true];rfl
     ·exact⟨rfl,rfl,rfl⟩
   ·rw[if_neg g] at hfit
    have g1:((r.k:Int) - 1 < 1)=False:=eq_false (by omega);have g2:((1:Int)<=(r.k:Int) - 1)=True:=eq_true (by omega);have g3:((k:Int)<=(r.k:Int) - 1)=True:=eq_true (by omega);rcases hc with ⟨q,rfl⟩ | q <;>
    ·refine Exists.intro ?_ (Exists.intro ?_ (And.intro ?_ ?_))
     rotate_left 2
     ·rw[Y_loop (L:=L41_1) rfl]
      simp only[go_sem,F41L,strs_len,h0,h1,hw,hw1,q,g1,g2,g3,c40,hfl,ec8,hin,int_eqb,hk0,decide_true,decide_false,not_false_eq_true];rfl
     ·exact⟨rfl,rfl,rfl⟩
  have hz0:(((r.k:Nat):Int) - 1 < 0)=(r.k=0):=propext (by omega);have hfit':((((r.k:Int) - 1 < 1)=True)/\((k:Int)=(r.k:Int))=True/\(((1:Int)<=(r.k:Int) - 1)=False)/\IntKind.i64.wrap ((r.k:Int) - 1+1)=(r.k:Int))\/((((r.k:Int) - 1 < 1)=False)/\(((1:Int)<=(r.k:Int) - 1)=True)/\(((k:Int)<=(r.k:Int) - 1)=False)/\(0:Nat)=0):=by
   by_cases g:r.k < 2
   ·rw[if_pos g] at hfit
    exact .inl ⟨eq_true (by omega),eq_true (by omega),eq_false (by omega),by rw[w64 (by omega) (by omega)];omega⟩
   ·rw[if_neg g] at hfit
    exact .inr ⟨eq_false (by omega),eq_true (by omega),eq_false (by omega),rfl⟩
  have h7:k=7->2<=r.k:=fun z=>by
   by_cases g:r.k < 2
   ·rw[if_pos g] at hfit;omega
   ·omega
  obtain⟨x1,y1,hx1,hy1,hO⟩:∃ x1 y1:Bool,(1<=r.k->x1=true)/\(2<=r.k->y1=true)/\(((r.k=0)=True/\x1=true/\y1=true/\r.e=zE)\/((r.k=0)=False/\x1=x/\y1=y/\r.e=e)):=by
   by_cases g:r.k=0
   ·exact⟨true,true,fun _=>rfl,fun _=>rfl,.inl ⟨eq_true g,rfl,rfl,hz g⟩⟩
   ·exact⟨x,y,hx,hy,.inr ⟨eq_false g,rfl,rfl,(hn g).symm⟩⟩
  obtain⟨e',x',y',hS,hS0⟩:=kSet x1 y1 r.e v hv k hk;have hr1:=lineR_s hf hfit;have hzz:tks []=[]:=rfl;have mF:mdn true=.no:=rfl;by_cases hse:sE k v r.e=0
  case neg =>
   rw[if_pos hse] at hr1;rw[hr1];refine⟨fun z=>absurd z hse,fun _=>?_⟩;generalize sE k v r.e=er at *;rcases hO with ⟨o1,rfl,rfl,o2⟩ | ⟨o1,rfl,rfl,o2⟩<;>rw[o2] at hS<;>simp only[Oe,zE,hzz,mF] at hS<;>rcases hfit' with ⟨a1,a2,a3,a4⟩ | ⟨a1,a2,a3,a4⟩<;>rcases hc with ⟨q,rfl⟩ | q <;>
   ·refine Exists.intro ?_ (Exists.intro ?_ (And.intro ?_ ?_))
    rotate_left 2
    ·rw[Y_loop (L:=L41_1) rfl]
     simp only[go_sem,F41L,Oe,strs_len,h0,h1,hw,hw1,q,a1,a2,a3,a4,hz0,o1,hS,hse,c40,hfl,ec8,hin,int_eqb,hk0,decide_true,decide_false,not_false_eq_true];rfl
    ·exact⟨rfl,rfl,rfl⟩
  rw[if_neg (by simp [hse])] at hr1;obtain⟨he1,hx2,hy2⟩:=hS0 hse;subst he1;have hseq:(setE k v r.e).1=0:=by
   unfold sE at hse;by_cases z:v=[]/\2<=k
   ·rw[if_pos z] at hse;cases hse
   ·rwa [if_neg z] at hse
  obtain⟨b1,_⟩:=set_be hk hb hv hseq;rw[hse] at hS;by_cases h7k:k=7
  case neg =>
   rw[if_neg h7k] at hr1;refine⟨fun _=>?_,fun z=>absurd hr1 z⟩;have hr2:=(lineR_z hf hr1).2.2;rw[if_neg h7k] at hr2;rw[hr2];have k7:((k:Int)=7)=False:=eq_false (by omega);have hk1:((k+1:Nat):Int) - 1=(k:Int):=by omega
   refine⟨b,x',y',(setE k v r.e).2,⟨b1,hBm,fun z=>?_,fun z=>?_,fun _=>rfl,fun z=>absurd z (by show ¬ k+1=0;omega)⟩,Nat.le_succ _,?_⟩
   ·rw[hx2]
    by_cases g:k=0
    ·rw[decide_eq_true g,Bool.or_true]
    ·rw[hx1 (by by_cases w:r.k < 2<;>simp [w] at hfit<;>omega)];rfl
   ·rw[hy2]
    have z:2<=k+1:=z;by_cases g:k=1
    ·rw[decide_eq_true g,Bool.or_true]
    ·rw[hy1 (by by_cases w:r.k < 2<;>simp [w] at hfit<;>omega)];rfl
   ·generalize (setE k v r.e).2=e1 at *
    clear hx2 hy2
    rcases hO with ⟨o1,rfl,rfl,o2⟩ | ⟨o1,rfl,rfl,o2⟩<;>rw[o2] at hS<;>simp only[Oe,zE,hzz,mF] at hS<;>rcases hfit' with ⟨a1,a2,a3,a4⟩ | ⟨a1,a2,a3,a4⟩<;>rcases hc with ⟨q,rfl⟩ | q <;>
    ·conv=>lhs;rw[Y_loop (L:=L41_1) rfl]
     simp only[go_sem,F41L,Oe,strs_len,h0,h1,hw,hw1,q,a1,a2,a3,a4,hz0,o1,hS,k7,hk1,c40,hfl,ec8,hin,int_eqb,hk0,not_true_eq_false,decide_true,decide_false,not_false_eq_true]
  subst h7k;rw[if_pos rfl] at hr1;have g2:=h7 rfl;have g3:(r.k=0)=False:=eq_false (by omega);have e7:((7:Nat):Int)=7:=rfl;obtain⟨o1,rfl,rfl,o2⟩:((r.k=0)=False/\x1=x/\y1=y/\r.e=e):=by
   rcases hO with ⟨o1,_⟩ | o
   ·rw[g3] at o1;exact absurd o1 (by simp)
   ·exact o
  have a5:(((r.k:Int) - 1 < 1)=False):=eq_false (by omega);have a6:(((1:Int)<=(r.k:Int) - 1)=True):=eq_true (by omega)
  have a7:(((7:Int)<=(r.k:Int) - 1)=False):=eq_false (by
   by_cases w:r.k < 2
   ·omega
   ·rw[if_neg w] at hfit;omega)
  have hx3:=hx (by omega);have hy3:=hy g2;subst hx3;subst hy3;have hx4:x'=true:=hx2;have hy4:y'=true:=hy2;subst hx4;subst hy4;have hB:=kBeh r.m (by omega) hBm (setE 7 v r.e).2 b1;have ha:=app_e b r.m (setE 7 v r.e).2 (by omega);have mT:mdn true=.no:=rfl;have hrz:=lineR_z (r:=r) hf;rw[if_pos rfl] at hrz;generalize (setE 7 v r.e).2=e1 at *;simp only[rowE] at hB ha;rw[o2] at hS;simp only[Oe,mT] at hS;rw[e7] at hS hin;by_cases hb0:behE r.m e1=0
  ·rw[hb0] at hr1 hB
   refine⟨fun _=>?_,fun z=>absurd hr1 z⟩;rw[(hrz hr1).2.2];refine⟨true,true,true,e1,⟨zE_be,fun f hf=>?_,fun z=>rfl,fun z=>rfl,fun z=>absurd rfl z,fun _=>rfl⟩,by simp,?_⟩
   ·rcases mem_append.1 hf with z | z
    ·exact hBm f z
    ·rw[mem_singleton.1 z];exact b1
   ·have mO:md true=.own:=rfl
    rcases hc with ⟨q,rfl⟩ | q <;>
    ·conv=>lhs;rw[Y_loop (L:=L41_1) rfl]
     simp only[go_sem,F41L,Oe,strs_len,h0,h1,hw,hw1,q,a5,a6,a7,hz0,o1,hS,hB,ha,mT,mO,mks8,ldV_md,demV_md,c40,hfl,ec8,hin,int_eqb,not_true_eq_false,decide_true,decide_false,not_false_eq_true]
  ·rw[hr1]
   refine⟨fun z=>absurd z hb0,fun _=>?_⟩;rcases hc with ⟨q,rfl⟩ | q <;>
   ·refine Exists.intro ?_ (Exists.intro ?_ (And.intro ?_ ?_))
    rotate_left 2
    ·rw[Y_loop (L:=L41_1) rfl]
     simp only[go_sem,F41L,Oe,strs_len,h0,h1,hw,hw1,q,a5,a6,a7,hz0,o1,hS,hB,hb0,mT,ldV_md,demV_md,c40,hfl,ec8,hin,int_eqb,not_true_eq_false,decide_true,decide_false,not_false_eq_true];rfl
    ·exact⟨rfl,rfl,rfl⟩
end Go.Av
namespace Go.Av
open Go.Nt
theorem lp41 (L:List Bs) (cp:Bool) (N:Int) (tl:List Bs) (hL:L.length<=100000) (htl:(cp=true/\tl.length=0)\/(cp=false/\tl.length=1)):∀ (ls:List Bs) (i:Nat) (b x y:Bool) (r:Rd) (e:En),L.drop i=ls++tl->i+ls.length+tl.length=L.length->(∀ t∈ls,t.length<=50000)->RB x y r e->r.m.length+ls.length<=100000 ->
  ((runL ls r i).1=0/\cp=true->∃ b' x' y' e',execX G0 L41_1 (ST (F41L L cp N b r.m ((r.k:Int) - 1) i) [] [Oe x y e])=some (.ex 0,ST (F41L L cp N b' (runL ls r i).2.2.m (((runL ls r i).2.2.k:Int) - 1) L.length++[(64,.bool false)]) [] [Oe x' y' e'])/\(runL ls r i).2.1=L.length) /\
  (¬ ((runL ls r i).1=0/\cp=true)->∃ l' sh',execX G0 L41_1 (ST (F41L L cp N b r.m ((r.k:Int) - 1) i) [] [Oe x y e])=some (.ret,ST l' [] sh')/\look .any l' 2=.sl .full 8 []/\look .any l' 3=.int .i64 (if (runL ls r i).1≠0 then ((runL ls r i).2.1:Int) else ((runL ls r i).2.1:Int)+1)/\look .any l' 4=.int .i64 (if (runL ls r i).1≠0 then (runL ls r i).1 else 2))
 | [],i,b,x,y,r,e,hd,hi,ht,hR,hm=>by
  have e0:runL [] r i=(0,i,r):=rfl;rw[e0];simp only[length_nil,Nat.add_zero] at hi;rcases htl with ⟨rfl,h0⟩ | ⟨rfl,h0⟩
  ·have:i=L.length:=by omega
   subst this;refine⟨fun _=>⟨b,x,y,e,?_,rfl⟩,fun h=>absurd ⟨rfl,rfl⟩ h⟩;rw[Y_loop (L:=L41_1) rfl];simp only[go_sem,F41L,strs_len,Int.lt_irrefl]
  ·refine⟨fun h=>absurd h.2 (by decide),fun _=>?_⟩
   have h1:(i:Int) < (L.length:Int):=by omega
   have hw:IntKind.i64.wrap ((i:Int)+1)=(i:Int)+1:=by rw[w64 (by omega) (by omega)]
   have hw1:IntKind.i64.wrap ((L.length:Int) - 1)=(L.length:Int) - 1:=by rw[w64 (by omega) (by omega)]
   have q:((i:Int)=(L.length:Int) - 1)=True:=eq_true (by omega);refine Exists.intro ?_ (Exists.intro ?_ (And.intro ?_ ?_))
   rotate_left 2
   ·rw[Y_loop (L:=L41_1) rfl]
    simp only[go_sem,F41L,strs_len,h1,hw,hw1,q,int_eqb,decide_true];rfl
   ·exact⟨rfl,rfl,rfl⟩
 | t :: ls,i,b,x,y,r,e,hd,hi,ht,hR,hm=>by
  rw[length_cons] at hi hm;have hg:L[i]?=some t:=by
   have:=getElem?_drop (xs:=L) (i:=i) (j:=0)
   rw[hd] at this;simpa using this.symm
  have hd2:L.drop (i+1)=ls++tl:=by
   rw[<- drop_drop,hd];rfl
  have hc:((((i:Int)=(L.length:Int) - 1)=True)/\cp=true)\/(((i:Int)=(L.length:Int) - 1)=False):=by
   by_cases g:(i:Int)=(L.length:Int) - 1
   ·rcases htl with ⟨a,_⟩ | ⟨_,a⟩
    ·exact .inl ⟨eq_true g,a⟩
    ·omega
   ·exact .inr (eq_false g)
  obtain⟨s1,s2⟩:=l41s L cp N b x y r e i t hg (ht t mem_cons_self) hL hc hR (by omega);rw[runL_c];by_cases h0:(lineR r t).1=0
  ·rw[if_neg (by simp [h0])]
   obtain⟨b',x',y',e',hR',hm',step⟩:=s1 h0;rw[step];exact lp41 L cp N tl hL htl ls (i+1) b' x' y' (lineR r t).2 e' hd2 (by omega) (fun t h=>ht t (mem_cons_of_mem _ h)) hR' (by omega)
  ·rw[if_pos h0]
   refine⟨fun h=>absurd h.1 h0,fun _=>?_⟩;obtain⟨l',sh',y1,y2,y3,y4⟩:=s2 h0;refine⟨l',sh',y1,y2,?_,?_⟩
   ·rw[if_pos h0];exact y3
   ·rw[if_pos h0];exact y4
theorem kParseR (s:Bs) (hs:s.length<=50000):G0 41 [.str s] []=some (.tup [.sl .no 8 (ens (pM s).1),.int .i64 ((pM s).2.1:Nat),.int .i64 (pM s).2.2],[]):=by
 have hz:¬ (1048576:Int) < (s.length:Int):=by omega
 have e1:(((1:Nat)):Int)=1:=rfl;have e0:(((0:Nat)):Int)=0:=rfl;have ec:((1024:Nat):Int)=1024:=rfl;have en:ens []=[]:=rfl;have hL:=kLines s (by omega);have hj:=lns_join s;have hjl:=jn_len (lns s).1;have hsl:s.length=(jn (lns s).1).length+(lns s).2.length:=by rw[<- length_append,hj]
 refine contract F41 rfl rfl rfl ?_;unfold lnR at hL;cases hl:(lns s).1 with
 | nil =>
  rw[pM_n (rr:=(lns s).2) (by omega) (by rw[<- hl])];rw[hl] at hL;by_cases q:(lns s).2=[]
  ·rw[if_pos q,decide_eq_true q] at hL
   have hL1:G0 20 [.str s] []=some (.tup [.sl .no 1 [],.bool true],[]):=hL;simp only[F41,go_sem,hz,hL1,e1,en]
  ·rw[if_neg q,decide_eq_false q] at hL
   have hL1:G0 20 [.str s] []=some (.tup [.sl .no 1 [[.str (lns s).2]],.bool false],[]):=hL;simp only[F41,go_sem,hz,hL1,e1,en]
 | cons h ls =>
  rw[hl] at hL hjl hsl;have hpc:=pM_c (s:=s) (h:=h) (ls:=ls) (rr:=(lns s).2) (by omega) (by rw[<- hl]);rw[hpc];generalize hrr:(lns s).2=rr at hL hsl ⊢;obtain⟨tl,cp,ht1,ht2,ht3⟩:∃ (tl:List Bs) (cp:Bool),(if rr=[] then ([]:List Bs) else [rr])=tl/\decide (rr=[])=cp/\((cp=true/\tl.length=0/\rr=[])\/(cp=false/\tl.length=1/\rr≠[])):=by
   by_cases q:rr=[]
   ·exact⟨[],true,if_pos q,decide_eq_true q,.inl ⟨rfl,rfl,q⟩⟩
   ·exact⟨[rr],false,if_neg q,decide_eq_false q,.inr ⟨rfl,rfl,q⟩⟩
  rw[ht1,ht2] at hL;have hLl:(h :: ls++tl).length=ls.length+1+tl.length:=by rw[length_append,length_cons]
  have hrl:tl.length<=1/\(tl.length=1->1<=rr.length):=by
   rcases ht3 with ⟨_,a,_⟩ | ⟨_,a,q⟩
   ·omega
   ·have:rr.length≠0:=fun z=>q (length_eq_zero_iff.1 z)
    omega
  rw[length_cons] at hjl;have hLd:(h :: ls++tl).drop 1=ls++tl:=rfl;have hL0:(h :: ls++tl)[0]?=some h:=rfl;have hte:∀ t∈ls,t.length<=50000:=fun t h=>by
   have h1:∀ {l:List Bs},t∈l->t.length<=(jn l).length:=fun {l}=>by
    induction l with
    | nil=>intro h;cases h
    | cons a l ih =>
     intro h;rw[jn_cons,length_append,length_cons];rcases mem_cons.1 h with z | z
     ·rw[z];omega
     ·have:=ih z;omega
   have:=h1 h
   rw[jn_cons,length_append,length_cons] at hsl;omega
  have hLq:(((h :: ls++tl).length:Int)=1)=True/\cp=true\/(((h :: ls++tl).length:Int)=1)=False:=by
   by_cases g:((h :: ls++tl).length:Int)=1
   ·refine .inl ⟨eq_true g,?_⟩
    rcases ht3 with ⟨a,_⟩ | ⟨_,a,_⟩
    ·exact a
    ·omega
   ·exact .inr (eq_false g)
  generalize h :: ls++tl=L at *;have hl0:((L.length:Int)=0)=False:=eq_false (by omega);have hr:=strs_at hL0;obtain⟨p1,p2⟩:=kAft h hdB;cases ha:after hdB h with
  | none =>
   have p2:=p2 ha;have hh:hdN h=none:=by unfold hdN;rw[ha];rfl
   obtain⟨k,b,g1,g2,_⟩:=kn72 [] 1024;rw[ec] at g1;simp only[hdB] at p2;rw[pL_n hh];rcases hLq with ⟨q,rfl⟩ | q <;>
   ·simp only[F41,go_sem,hz,hL,strs_len,hl0,q,hr,p2,g1,e1,en,decide_true,decide_false]
  | some v =>
   have p1:=p1 v ha;have hh:hdN h=numX v 1024:=by unfold hdN;rw[ha];rfl
   obtain⟨k,b,g1,g2,g3⟩:=kn72 v 1024;rw[ec] at g1;simp only[hdB] at p1;cases hn:numX v 1024 with
   | none =>
    rw[hn] at g2 hh;rw[pL_n hh];have g2:b=false:=g2;subst g2;rcases hLq with ⟨q,rfl⟩ | q <;>
    ·simp only[F41,go_sem,hz,hL,strs_len,hl0,q,hr,p1,g1,e1,en,decide_true,decide_false]
   | some cn =>
    rw[hn] at g2 hh;rw[pL_s hh];unfold finP;have g2:b=true:=g2;subst g2;have g3:=g3 cn hn;subst g3;obtain⟨x1,x2⟩:=lp41 L cp cn tl (by omega) (by rcases ht3 with ⟨a,b,_⟩ | ⟨a,b,_⟩;exact .inl ⟨a,b⟩;exact .inr ⟨a,b⟩) ls 1 false false false ⟨[],zE,0⟩ zE hLd (by omega) hte ⟨zE_be,by simp,fun h=>absurd (show 1<=0 from h) (by decide),fun h=>absurd (show 2<=0 from h) (by decide),fun _=>rfl,fun _=>rfl⟩ (by simp;omega);have r0:ST (F41L L cp cn false [] (((0:Nat):Int) - 1) 1) [] [Oe false false zE]=ST [(5,.sl .no 1 (strs L)),(6,.bool cp),(9,.int .i64 cn),(11,.sl .full 8 []),(12,.ptr 0 0),(13,.int .i64 (-1)),(14,.int .i64 1),(25,.bool false),(42,.bool false),(60,.bool false)] [] [[.sl .full 3 [],.sl .full 3 [],.str [],.str [],.str [],.str [],.int .i64 0,.int .i64 0]]:=rfl;simp only[] at x1 x2;rw[r0] at x1 x2;by_cases hq:(runL ls ⟨[],zE,0⟩ 1).1=0/\cp=true
    ·obtain⟨b',x',y',e',y1,y2⟩:=x1 hq
     have hrr0:rr=[]:=by
      rcases ht3 with ⟨_,_,a⟩ | ⟨a,_⟩
      ·exact a
      ·rw[hq.2] at a;cases a
     obtain⟨hq1,rfl⟩:=hq;rw[if_neg (by simp [hq1])];generalize runL ls ⟨[],zE,0⟩ 1=q at hq1 y1 y2 ⊢;obtain⟨qe,qn,qm,qE,qk⟩:=q;simp only[F41L,cons_append,nil_append] at hq1 y1 y2 ⊢;by_cases h1:qk=0
     ·have h1':((0:Int)<=(qk:Int) - 1)=False:=eq_false (by omega)
      rw[if_neg (by simp [h1,hrr0])];by_cases h2:qm.length=cn
      ·have h2':((qm.length:Int)=(cn:Int))=True:=eq_true (by omega)
       rw[if_neg (by simp [h2])];rcases hLq with ⟨q,_⟩ | q <;>
       ·simp only[F41,go_sem,hz,hL,strs_len,hl0,q,hr,p1,g1,y1,h1',h2',ldV_md,demV_md,demV_mdn,ens_len,e0,not_true_eq_false,decide_false,decide_true]
      ·have h2':((qm.length:Int)=(cn:Int))=False:=eq_false (by omega)
       rw[if_pos h2];rcases hLq with ⟨q,_⟩ | q <;>
       ·simp only[F41,go_sem,hz,hL,strs_len,hl0,q,hr,p1,g1,y1,h1',h2',ldV_md,demV_md,demV_mdn,ens_len,e1,en,not_true_eq_false,not_false_eq_true,decide_true,decide_false]
     ·have h1':((0:Int)<=(qk:Int) - 1)=True:=eq_true (by omega)
      have hw:IntKind.i64.wrap ((L.length:Int)+1)=((L.length+1:Nat):Int):=by rw[w64 (by omega) (by omega)];rfl
      rw[if_pos (.inr h1),y2];rcases hLq with ⟨q,_⟩ | q <;>
      ·simp only[F41,go_sem,hz,hL,strs_len,hl0,q,hr,p1,g1,y1,h1',hw,en,not_false_eq_true,decide_true,decide_false]
    ·obtain⟨l',sh',y1,y2,y3,y4⟩:=x2 hq
     have hx:∀ z:Int,(if (runL ls ⟨[],zE,0⟩ 1).1≠0 then (([]:List En),(runL ls ⟨[],zE,0⟩ 1).2.1,(runL ls ⟨[],zE,0⟩ 1).1) else if rr≠[]\/(runL ls ⟨[],zE,0⟩ 1).2.2.k≠0 then ([],(runL ls ⟨[],zE,0⟩ 1).2.1+1,2) else if (runL ls ⟨[],zE,0⟩ 1).2.2.m.length≠cn then ([],1,2) else ((runL ls ⟨[],zE,0⟩ 1).2.2.m,0,0))=if (runL ls ⟨[],zE,0⟩ 1).1≠0 then (([]:List En),(runL ls ⟨[],zE,0⟩ 1).2.1,(runL ls ⟨[],zE,0⟩ 1).1) else ([],(runL ls ⟨[],zE,0⟩ 1).2.1+1,2):=fun z=>by
      by_cases hq1:(runL ls ⟨[],zE,0⟩ 1).1=0
      ·have hc:cp=false:=by cases cp with
        | false=>rfl
        | true=>exact absurd ⟨hq1,rfl⟩ hq
       have hrr0:rr≠[]:=by
        rcases ht3 with ⟨a,_⟩ | ⟨_,_,a⟩
        ·rw[hc] at a;cases a
        ·exact a
       rw[if_neg (by simp [hq1]),if_pos (.inl hrr0),if_neg (by simp [hq1])]
      ·rw[if_pos hq1,if_pos hq1]
     rw[hx 0];rcases hLq with ⟨q,rfl⟩ | q <;>
     ·simp only[F41,go_sem,hz,hL,strs_len,hl0,q,hr,p1,g1,y1,y2,y3,y4,decide_true,decide_false]
      by_cases hq1:(runL ls ⟨[],zE,0⟩ 1).1=0
      ·rw[if_neg (by simp [hq1]),if_neg (by simp [hq1]),if_neg (by simp [hq1])]
       rfl
      ·rw[if_pos hq1,if_pos hq1,if_pos hq1]
       rfl
end Go.Av
namespace Go.Av
open Go.Nt
theorem finP_e (n:Nat) (rr:Bs) (q:Int × Nat × Rd) (h:(finP n rr q).2.2≠0):(finP n rr q).1=[]:=by
 unfold finP at h ⊢;by_cases q1:q.1≠0
 ·rw[if_pos q1]
 ·rw[if_neg q1] at h ⊢
  by_cases q2:rr≠[]\/q.2.2.k≠0
  ·rw[if_pos q2]
  ·rw[if_neg q2] at h ⊢
   by_cases q3:q.2.2.m.length≠n
   ·rw[if_pos q3]
   ·rw[if_neg q3] at h;exact absurd rfl h
theorem pM_e {s:Bs} (h:(pM s).2.2≠0):(pM s).1=[]:=by
 by_cases hs:1048576 < s.length
 ·unfold pM;rw[if_pos hs]
 obtain⟨ls,rr⟩:List Bs × Bs:=lns s;cases hl:(lns s).1 with
 | nil=>rw[pM_n (rr:=(lns s).2) (by omega) (by rw[<- hl])]
 | cons a l =>
  have e:=pM_c (s:=s) (h:=a) (ls:=l) (rr:=(lns s).2) (by omega) (by rw[<- hl]);rw[e] at h ⊢;unfold pL at h ⊢
  cases q:hdN a with
  | none=>rfl
  | some n =>
   rw[q] at h;exact finP_e _ _ _ h
theorem pM_be (s:Bs):(pM s).1.length<=1024/\Mem (pM s).1:=by
 by_cases h:(pM s).2.2=0
 ·obtain⟨_,h2,h3,_⟩:=pM_some (s:=s) (m:=(pM s).1) (k:=(pM s).2.1) (by rw[<- h])
  exact⟨h3,h2⟩
 ·rw[pM_e h]
  exact⟨by simp,mem_nil⟩
theorem memBe {m:List En} (h:Mem m):∀ e∈m,BE e:=fun e he=>VE.be (h.1 e he)
theorem k19 (s:Bs) (hs:s.length<=50000):G0 19 [.str s] []=some (.bool true,[]):=by
 have a:=kParse s hs;have b:=kParseR s hs;obtain⟨h1,h2⟩:=pM_be s;have c:=k28 (pM s).1 (by omega) (memBe h2);refine contract F19 rfl rfl rfl ?_;generalize pM s=q at *;obtain⟨m,n,e⟩:=q;simp only[F19,go_sem,a,b,c,int_eqb,decide_true]
def em:En:=⟨[(1,[97],0)],[(1,[98],0)],[],[],[],[],0,1⟩
theorem em_v:vE em=0:=by decide +kernel
theorem em_ge:GE em:=⟨(vE_iff em).1 em_v,by decide,by decide +kernel,by decide,by decide +kernel,by decide,by decide,by decide,by decide⟩
def kT:Bs:=[98,105,116,101,120,116,45,109,101,109,111,114,121,32,49,10,115,111,117,114,99,101,32,97,10,116,97,114,103,101,116,32,98,10,111,114,105,103,105,110,32,104,117,109,97,110,10]
theorem em_tx:txM [em]=kT:=by
 have h:dcN 1=[49]:=by rw[dcN_lt (by decide)];rfl
 have h1:hdT [em].length=hdB++[49]:=by show hdB++dcN 1=_;rw[h]
 have h2:([em].flatMap linE)=[[115,111,117,114,99,101,32,97],[116,97,114,103,101,116,32,98],[111,114,105,103,105,110,32,104,117,109,97,110]]:=by decide +kernel
 unfold txM;rw[h1,h2];rfl
theorem em_m:Mem [em]:=(mg1 em_ge).1
theorem em_fm:fmM [em]=(kT,0):=by
 rw[fmM_ok em_m (by decide) (by rw[em_tx];decide),em_tx]
theorem em_pm:pM kT=([em],0,0):=by
 rw[<- em_tx];exact pM_txM em_m (by decide) (by rw[em_tx];decide)
theorem em_fok:FOK [em]:=⟨by decide,(memBe em_m),fun _=>⟨fun e h=>by rw[mem_singleton.1 h];decide,by rw[em_tx];decide⟩⟩
theorem k12:G9 12 [] []=some (.bool true,[]):=by
 have a:=k17 em_fok;have b:=up (kParse kT (by decide)) (by decide) rfl;have c:=up (k28 [em] (by decide) (memBe em_m)) (by decide) rfl;rw[em_fm] at a;rw[em_pm] at b;have e1:ens [em]=[[.sl .no 3 [[.int .i64 1,.str [97],.int .i64 0]],.sl .no 3 [[.int .i64 1,.str [98],.int .i64 0]],.str [],.str [],.str [],.str [],.int .i64 0,.int .i64 1]]:=rfl;have ec0:((0:Nat):Int)=0:=rfl;simp only[e1,kT] at a b c;refine contract F12 rfl rfl rfl ?_;simp only[F12,go_sem,a,b,c,mks8,ec0,int_eqb,decide_true,beq_self_eq_true]
end Go.Av
namespace Go.Av
open Go.Nt
def vlL (e:En):List Bs:=[vlE e 0,vlE e 1,vlE e 2,vlE e 3,vlE e 4,vlE e 5,vlE e 6,vlE e 7]
theorem vlL_at (e:En) {k:Nat} (hk:k < 8):(vlL e)[k]?=some (vlE e k):=by
 match k,hk with
 | 0,_ | 1,_ | 2,_ | 3,_ | 4,_ | 5,_ | 6,_ | 7,_=>rfl
theorem orn_at {o:Int} (h1:1<=o) (h3:o<=3):orn[(o - 1).toNat]?=some (orn.getD (o - 1).toNat []):=by
 have:(o - 1).toNat < 3:=by omega
 match (o - 1).toNat,this with
 | 0,_ | 1,_ | 2,_=>rfl
def DOK (n:Nat):Prop:=G0 23 [.int .i64 n] []=some (.str (dcN n),[])
theorem dok {n:Nat} (h:n<=999):DOK n:=by
 have:=c79 n h
 rw[dec_dc h] at this;exact this
theorem kVal (e:En) (h:VE e) (hd:DOK e.c.toNat):G0 39 [.agg (rowE e)] []=some (.sl .no 1 (strs (vlL e)),[]):=by
 obtain⟨l1,l2,l3⟩:=(VE.be h).lS;obtain⟨l4,l5,l6⟩:=(VE.be h).lT;have a:=c33 e.S (by omega) l3;have b:=c33 e.T (by omega) l6;rw[h.vS,fmE_eq] at a;rw[h.vT,fmE_eq] at b;have c71:=c71';have h1:=h.o1;have h3:=h.o3;have ho:=strs_at (orn_at h1 h3);have hw:IntKind.i64.wrap (e.o - 1)=e.o - 1:=w64 (by omega) (by omega);have h0:(0:Int)<=e.o - 1:=by omega
 have e7:vlE e 7=orn.getD (e.o - 1).toNat []:=rfl;have hm:∀ a b c d e f g h:Bs,mksA 1 [.str []] 8 [0,1,2,3,4,5,6,7] [.str a,.str b,.str c,.str d,.str e,.str f,.str g,.str h]=some (.sl .full 1 [[.str a],[.str b],[.str c],[.str d],[.str e],[.str f],[.str g],[.str h]]):=fun _ _ _ _ _ _ _ _=>rfl
 have hc0:=h.c0;have hv:strs (vlL e)=[[.str (fmE e.S)],[.str (fmE e.T)],[.str e.p],[.str e.n],[.str e.a],[.str e.j],[.str (vlE e 6)],[.str (vlE e 7)]]:=rfl;rw[hv];refine contract F39 rfl rfl rfl ?_;by_cases hz:e.c=0
 ·have h6:vlE e 6=[]:=if_pos hz
  have g:(0 < e.c)=False:=eq_false (by omega);rw[h6];simp only[F39,rowE,go_sem,a,b,c71,ho,hw,h0,hm,g,e7]
 ·have h6:vlE e 6=dcN e.c.toNat:=if_neg hz
  have g:(0 < e.c)=True:=eq_true (by omega);have d:G0 23 [.int .i64 e.c] []=some (.str (vlE e 6),[]):=by
   have:=hd
   unfold DOK at this;rw[show ((e.c.toNat:Nat):Int)=e.c by omega,<- h6] at this;exact this
  simp only[F39,rowE,go_sem,a,b,c71,ho,hw,h0,hm,g,d,e7]
theorem l18a (m:List En) (i:Nat) (e:En) (h:VE e) (A:Bs) (hA:A.length<=1000000000):∀ (d k:Nat),k+d=8 ->
  execX G0 L18_0 (ST [(0,.sl .no 8 (ens m)),(4,.int .i64 0),(5,.str (A++jn (linK e k))),(6,.int .i64 i),(12,.bool false),(22,.bool true),(29,.sl .no 1 (strs (vlL e))),(30,.int .i64 8),(31,.int .i64 k)] [] [])=some (.ex 2,ST [(0,.sl .no 8 (ens m)),(4,.int .i64 0),(5,.str (A++jn (linE e))),(6,.int .i64 i),(12,.bool false),(22,.bool true),(29,.sl .no 1 (strs (vlL e))),(30,.int .i64 8),(31,.int .i64 8),(32,.bool false)] [] [])
 | 0,k,hk=>by
  have:k=8:=by omega
  subst this;have ec:((8:Nat):Int)=8:=rfl;have el:linE e=linK e 8:=rfl;rw[Y_loop (L:=L18_0) rfl,el];simp only[go_sem,ec,Int.lt_irrefl]
 | d+1,k,hk=>by
  have hi:k < 8:=by omega
  have h0:(0:Int)<=(k:Int):=by omega
  have h1:(k:Int) < 8:=by omega
  have hw:IntKind.i64.wrap ((k:Int)+1)=((k+1:Nat):Int):=by rw[w64 (by omega) (by omega)];rfl
  have hr:=strs_at (vlL_at e hi);have hf:=strs_at (fnm_at hi);have c40:=c40';have hl1:=fnm_ln k;have hl2:(vlE e k).length<=60000:=by
   have:=vs_len h k
   have q:vsF (fmE e.S) (fmE e.T) e.p e.n e.a e.j (vlE e 6) (orn.getD (e.o - 1).toNat []) k=vlE e k:=by
    match k,hi with
    | 0,_ | 1,_ | 2,_ | 3,_ | 4,_ | 5,_ | 6,_ | 7,_=>rfl
   rwa [q] at this
  have hl3:(jn (linK e k)).length<=k*60010:=by
   have:=lin_len (vs_len h) k
   have q:linV (vsF (fmE e.S) (fmE e.T) e.p e.n e.a e.j (vlE e 6) (orn.getD (e.o - 1).toNat [])) k=linK e k:=by
    match k,hi with
    | 0,_ | 1,_ | 2,_ | 3,_ | 4,_ | 5,_ | 6,_ | 7,_=>rfl
   rwa [q] at this
  have ih:=l18a m i e h A hA d (k+1) (by omega);have hs:linK e (k+1)=linK e k++lnE k (vlE e k):=rfl;generalize vlE e k=v at *;by_cases hq:2<=k/\v=[]
  ·have hv:lnE k v=[]:=if_pos hq
   rw[hs,hv,append_nil] at ih;rw[<- ih];have g:((k:Int) < 2)=False:=eq_false (by omega);have g2:(v == [])=true:=by rw[hq.2];rfl
   have g3:(v != [])=false:=by rw[hq.2];rfl
   conv=>lhs;rw[Y_loop (L:=L18_0) rfl]
   simp only[go_sem,h0,h1,hr,hw,g,g2,g3]
  ·have hv:lnE k v=[lnK k v]:=if_neg hq
   rw[hs,hv,jn_app,<- append_assoc] at ih;have hj:jn [lnK k v]=(fnm.getD k []++[32]++v)++[10]:=by simp [jn,lnK]
   rw[hj] at ih;have hT:(A++jn (linK e k)).length<=1001000000:=by rw[length_append];omega
   rw[<- ih]
   clear ih hs hv hl3 hj
   generalize A++jn (linK e k)=T at hT ⊢;have g1:(fnm.getD k []).length<=140737488355327:=by omega
   have g2:(fnm.getD k []++[32]).length+v.length<=140737488355328:=by rw[length_append,length_singleton];omega
   have g3:(fnm.getD k []++[32]++v).length<=140737488355327:=by rw[length_append,length_append,length_singleton];omega
   have g4:T.length+(fnm.getD k []++[32]++v++[10]).length<=140737488355328:=by rw[length_append,length_append,length_append,length_singleton,length_singleton];omega
   generalize fnm.getD k []=q at hf g1 g2 g3 g4 ⊢;by_cases hk2:k < 2
   ·have g:((k:Int) < 2)=True:=eq_true (by omega)
    conv=>lhs;rw[Y_loop (L:=L18_0) rfl]
    simp only[go_sem,h0,h1,hr,hf,hw,g,c40,g1,g2,g3,g4]
   ·have g:((k:Int) < 2)=False:=eq_false (by omega)
    have hne:v≠[]:=fun z=>hq ⟨by omega,z⟩
    have g5:(v == [])=false:=by simpa using hne
    have g6:(v != [])=true:=by simpa using hne
    conv=>lhs;rw[Y_loop (L:=L18_0) rfl]
    simp only[go_sem,h0,h1,hr,hf,hw,g,g5,g6,c40,g1,g2,g3,g4]
theorem l18b (m:List En) (hm:m.length<=1024) (hV:∀ e∈m,VE e/\DOK e.c.toNat) (hK:∀ i,(txK m i).length<=1000000000):∀ (d i:Nat),i+d=m.length ->
  execX G0 L18_1 (ST [(0,.sl .no 8 (ens m)),(4,.int .i64 0),(5,.str (txK m i)),(6,.int .i64 i),(12,.bool false)] [] [])=some (.ex 0,ST [(0,.sl .no 8 (ens m)),(4,.int .i64 0),(5,.str (txK m m.length)),(6,.int .i64 m.length),(12,.bool false),(22,.bool false)] [] [])
 | 0,i,hi=>by
  have:i=m.length:=by omega
  subst this;rw[Y_loop (L:=L18_1) rfl];simp only[go_sem,ens_len,Int.lt_irrefl]
 | d+1,i,hi=>by
  have hl:i < m.length:=by omega
  have h0:(0:Int)<=(i:Int):=by omega
  have h1:(i:Int) < (m.length:Int):=by omega
  have hw:IntKind.i64.wrap ((i:Int)+1)=((i+1:Nat):Int):=by rw[w64 (by omega) (by omega)];rfl
  have hg:m[i]?=some m[i]:=getElem?_eq_getElem hl;obtain⟨hv,hd⟩:=hV _ (getElem_mem hl);generalize m[i]=e at hg hv hd;have hr:=ens_at hg;have a:=kVal e hv hd;have hl8:(strs (vlL e)).length=8:=rfl;have ec0:((0:Nat):Int)=0:=rfl;have ec8:((8:Nat):Int)=8:=rfl;have l:=l18a m i e hv (txK m i) (hK i) 8 0 rfl;rw[ec0,show linK e 0=[] from rfl,jn_nil,append_nil,<- txK_s hg] at l;have ih:=l18b m hm hV hK d (i+1) (by omega);rw[<- ih];simp only[rowE] at a
  conv=>lhs;rw[Y_loop (L:=L18_1) rfl]
  simp only[go_sem,ens_len,h0,h1,hr,hw,a,hl8,ec8,l]
structure FOR (m:List En):Prop where
 l:m.length<=100
 b:∀ e∈m,BE e
 c:chkM m=0->∀ e∈m,DOK e.c.toNat
theorem txK_all (m:List En):txK m m.length=txM m:=by
 unfold txK;rw[take_length,txM_eq]
theorem kFmtR (m:List En) (h:FOR m):G0 18 [.sl .no 8 (ens m)] []=some (.tup [.str (fmM m).1,.int .i64 (fmM m).2],[]):=by
 obtain⟨hl,hb,hc⟩:=h;have a:=kChkR m (by omega) hb;refine contract F18 rfl rfl rfl ?_;unfold fmM;by_cases q:chkM m=0
 case neg =>
  rw[if_pos q];simp only[F18,go_sem,a,q,decide_true,decide_false,not_false_eq_true]
 rw[if_neg (fun z=>z q)];rw[q] at a;have hM:=((chkM_0 m).1 q).2;have hd:=dok (n:=m.length) (by omega);unfold DOK at hd;have hK:∀ i,(txK m i).length<=1000000000:=fun i=>Nat.le_trans (txK_len hl hM.1 i) (by decide)
 have l:=l18b m (by omega) (fun e he=>⟨hM.1 e he,hc q e he⟩) hK m.length 0 (by omega);have e0:((0:Nat):Int)=0:=rfl;have g1:(dcN m.length).length<=1000:=by
  have:=(dcN_p 9 m.length (by omega)).2.2.2.1
  omega
 have g2:14+(dcN m.length).length<=140737488355328:=by omega
 have g3:(dcN m.length).length<=140737488355313:=by omega
 have ht:txK m 0=98 :: 105 :: 116 :: 101 :: 120 :: 116 :: 45 :: 109 :: 101 :: 109 :: 111 :: 114 :: 121 :: 32 :: (dcN m.length++[10]):=by
  unfold txK hdT;rw[take_zero,flatMap_nil,append_assoc];rfl
 rw[e0,ht,txK_all] at l;by_cases h4:1048576 < (txM m).length
 ·have h4':(1048576:Int) < ((txM m).length:Int):=by omega
  rw[if_pos h4];simp only[F18,go_sem,ens_len,a,hd,g2,g3,l,h4',decide_true,decide_false,not_true_eq_false]
 ·have h4':¬ (1048576:Int) < ((txM m).length:Int):=by omega
  rw[if_neg h4];simp only[F18,go_sem,ens_len,a,hd,g2,g3,l,h4',decide_true,decide_false,not_true_eq_false]
end Go.Av
namespace Go.Av
open Go.Nt
def MS (m:List En):Prop:=MG m/\∀ e∈m,szE e<=4700/\e.c<=49
theorem MS.nil:MS []:=⟨MG.nil,by simp⟩
theorem MS.put {m:List En} (h:MS m) {e:En} (he:GE e) (hs:szE e<=4700/\e.c<=49):MS (putM m e):=by
 refine⟨h.1.put he,fun z hz=>?_⟩;rcases mem_put.1 hz with q | q
 ·rw[q];exact hs
 ·exact h.2 z q.1
theorem l13k (l:List Int):∀ (k n:Nat) (m:List En) (md:Own),MS m->m.length+k<=100->n+1000*k<=50000 ->
  ∃ n' m' md',MS m'/\m'.length<=m.length+k/\execX G0 L13_0 (ST [(0,.ptr 0 0),(5,.sl md 8 (ens m)),(6,.int .i64 k)] [] [num l n])=some (.ex 0,ST [(0,.ptr 0 0),(5,.sl md' 8 (ens m')),(6,.int .i64 0),(14,.bool false)] [] [num l n'])
 | 0,n,m,md,h,h1,h2=>by
  refine⟨n,m,md,h,by omega,?_⟩;have ec:((0:Nat):Int)=0:=rfl;rw[Y_loop (L:=L13_0) rfl];simp only[go_sem,ec,Int.lt_irrefl]
 | k+1,n,m,md,h,h1,h2=>by
  obtain⟨n1,e,a1,a2,a8,a3⟩:=k55 l n (by omega);have b1:=k30 m (by omega) h.1.be e a2.2;rw[(h.1.putE (by omega) a2).1,(h.1.putE (by omega) a2).2] at b1;have hp:=putM_len m h.1.1.2 e;obtain⟨n',m',md',c1,c2,c3⟩:=l13k l k n1 (putM m e) .no (h.put a2 a8) (by omega) (by omega);refine⟨n',m',md',c1,by omega,?_⟩;have hk:(0:Int) < ((k+1:Nat):Int):=by omega
  have hwk:IntKind.i64.wrap (((k+1:Nat):Int) - 1)=(k:Int):=by rw[w64 (by omega) (by omega)];omega
  simp only[rowE] at a3 b1;rw[Y_loop (L:=L13_0) rfl];simp only[go_sem,hk,hwk,a3,b1];exact c3
theorem k13 (l:List Int) (N:Nat) (hN:N<=20):∃ n' m,MS m/\m.length<=N/\G0 13 [.ptr 0 0,.int .i64 N] [num l 0]=some (.sl .no 8 (ens m),[num l n']):=by
 have hb:=nxt_bd l 0 ((N:Int)+1) (by omega);have h36:=c41 l 0 ((N:Int)+1) (by omega) (by omega) (by omega);have hc:(((nxt l 0 ((N:Int)+1)).toNat:Nat):Int)=nxt l 0 ((N:Int)+1):=by omega
 obtain⟨n',m,md,a1,a2,a3⟩:=l13k l (nxt l 0 ((N:Int)+1)).toNat 1 [] .full MS.nil (by simp;omega) (by omega);rw[hc,ens_nil] at a3;refine⟨n',m,a1,by simp at a2;omega,?_⟩;have hw:IntKind.i64.wrap ((N:Int)+1)=(N:Int)+1:=w64 (by omega) (by omega);have h0:(0:Nat)+1=1:=rfl;rw[h0] at h36;refine contract F13 rfl rfl rfl ?_;simp only[F13,go_sem,hw,h36,a3,num_ok]
theorem k14 (l:List Int):G9 14 [.sl .no 1 (ints l)] []=some (.ptr 0 0,[num l 0]):=by
 refine contract F14z rfl rfl rfl ?_;simp only[F14z,go_sem,num]
theorem k11 (l:List Int):G0 11 [.sl .no 1 [[.sl .no 1 (ints l)]]] []=some (.bool (decide (160 < IntKind.i64.wrap (l.length:Int))),[]):=by
 refine contract F11 rfl rfl rfl ?_;have x:∀ b:Bool,execX G0 L11_0 (ST [(3,.int .i64 0),(6,.sl .no 1 [[.sl .no 1 (ints l)]]),(7,.int .i64 1),(8,.int .i64 0)] [] [])=some (.ex 0,ST [(3,.int .i64 (IntKind.i64.wrap (l.length:Int))),(6,.sl .no 1 [[.sl .no 1 (ints l)]]),(7,.int .i64 1),(8,.int .i64 1),(9,.bool false)] [] []):=fun _=>by
  rw[Y_loop (L:=L11_0) rfl];simp only[go_sem,ints_length];rw[Y_loop (L:=L11_0) rfl];simp only[go_sem,Int.lt_irrefl]
 simp only[F11,go_sem,x true]
theorem MS.tx {m:List En} (h:MS m) (hl:m.length<=8):Mem m/\fmM m=(txM m,0)/\(txM m).length<=45000/\FOK m/\FOR m:=by
 have hM:=h.1.1;have h1:=txM_len (B:=4700) (m:=m) (by omega) (fun e he=>⟨hM.1 e he,(h.2 e he).1⟩);have h2:m.length*(4700+100)<=8*(4700+100):=Nat.mul_le_mul_right _ hl;have h3:(txM m).length<=45000:=by omega
 have hc:∀ e∈m,e.c<=999:=fun e he=>by have:=(h.2 e he).2;omega
 exact⟨hM,fmM_ok hM (by omega) (by omega),h3,⟨by omega,memBe hM,fun _=>⟨hc,by omega⟩⟩,⟨by omega,memBe hM,fun _ e he=>dok (by have:=hc e he;omega)⟩⟩
theorem pM_self {m:List En} (h:MS m) (hl:m.length<=8):pM (txM m)=(m,0,0):=by
 obtain⟨h1,_,h3,_⟩:=h.tx hl;exact pM_txM h1 (by omega) (by omega)
theorem k8 (l:List Int):G9 8 [.sl .no 1 (ints l)] []=some (.bool true,[]):=by
 have g1:=up (k11 l) (by decide) rfl;have g2:=k12;refine contract F8z rfl rfl rfl ?_;by_cases h:160 < IntKind.i64.wrap (l.length:Int)
 ·simp only[F8z,go_sem,g1,g2,h,decide_true]
 ·obtain⟨n',m,a1,a2,a3⟩:=k13 l 8 (by decide)
  obtain⟨hM,t1,t2,t3,t4⟩:=a1.tx a2;have g3:=k14 l;have g4:=up a3 (by decide) rfl;have g5:=k17 t3;have g6:=up (kParse (txM m) (by omega)) (by decide) rfl;have g7:=up (k28 m (by omega) (memBe hM)) (by decide) rfl;rw[t1] at g5;rw[pM_self a1 a2] at g6;have e0:((0:Nat):Int)=0:=rfl;have e8:((8:Nat):Int)=8:=rfl;rw[e8] at g4;simp only[] at g5 g6;simp only[F8z,go_sem,g1,g2,g3,g4,g5,g6,g7,h,e0,int_eqb,decide_true,decide_false]
end Go.Av
namespace Go.Av
open Go.Nt
abbrev hdS (s:Bs):Bs:=98 :: 105 :: 116 :: 101 :: 120 :: 116 :: 45 :: 109 :: 101 :: 109 :: 111 :: 114 :: 121 :: 32 :: s
theorem txN_eq (m:List En) (n:Nat):txN m n=hdS (dcN n++[10]++jn (m.flatMap linE)):=by
 unfold txN hdT;rw[jn_cons,append_assoc,append_assoc];rfl
theorem k7 (l:List Int) (n:Int):G9 7 [.sl .no 1 (ints l),.int .i64 n] []=some (.bool true,[]):=by
 have g1:=up (k11 l) (by decide) rfl;have g2:=k12;refine contract F7z rfl rfl rfl ?_;by_cases h:160 < IntKind.i64.wrap (l.length:Int)
 ·simp only[F7z,go_sem,g1,g2,h,decide_true]
 ·obtain⟨n',m,a1,a2,a3⟩:=k13 l 5 (by decide)
  obtain⟨hM,t1,t2,t3,t4⟩:=a1.tx (by omega);have g3:=k14 l;have g4:=up a3 (by decide) rfl;have g5:=up (kFmtR m t4) (by decide) rfl;have g6:=up (dok (n:=m.length) (by omega)) (by decide) rfl;have hq:∃ q:Nat,q<=6/\n % 7=(q:Int):=⟨(n % 7).toNat,by omega,by omega⟩
  obtain⟨q,hq6,hqe⟩:=hq;have g7:=up (c18 n 7 (by decide) (by decide)) (by decide) rfl;rw[hqe] at g7;have g8:=up (dok (n:=q) (by omega)) (by decide) rfl;have hT:txM m=hdS (dcN m.length++[10]++jn (m.flatMap linE)):=txN_eq m m.length
  have g9:=up ((kAft (txM m) (hdS (dcN m.length++[10]))).1 (jn (m.flatMap linE)) (by
   rw[hT]
   exact after_app (hdS (dcN m.length++[10])) (jn (m.flatMap linE)))) (by decide) rfl
  have d1:=(dcN_p 9 m.length (by omega)).2.2.2.1;have d2:=(dcN_p 9 q (by omega)).2.2.2.1;have hlen:(txN m q).length<=45100:=by
   rw[hT] at t2;rw[txN_eq];simp only[length_cons,length_append] at t2 ⊢;omega
  have g10:=up (kParse (txN m q) (by omega)) (by decide) rfl;have g11:=up (k28 m (by omega) (memBe hM)) (by decide) rfl;rw[pM_txN hM (by omega) (by omega) (by omega),txN_eq] at g10;rw[t1] at g5;have e0:((0:Nat):Int)=0:=rfl;have e1:((1:Nat):Int)=1:=rfl;have e5:((5:Nat):Int)=5:=rfl;rw[e5] at g4;simp only[] at g5;have hjl:(jn (m.flatMap linE)).length<=45000:=by
   rw[hT] at t2;simp only[length_cons,length_append] at t2;omega
  have u1:14+(dcN m.length).length<=140737488355328:=by omega
  have u2:14+(dcN q).length<=140737488355328:=by omega
  have u4:(dcN m.length).length<=140737488355313:=by omega
  have u5:(dcN q).length<=140737488355313:=by omega
  have u3:(dcN q++[10]).length+1+1+1+1+1+1+1+1+1+1+1+1+1+1+(jn (m.flatMap linE)).length<=140737488355328:=by rw[length_append,length_singleton];omega
  have en:ens []=[]:=rfl;by_cases hm:q=m.length
  ·subst hm
   rw[if_pos rfl] at g10;simp only[hdS] at g9 g10;simp only[F7z,go_sem,g1,g2,g3,g4,g5,g6,g7,g8,g9,g10,g11,h,e0,u1,u2,u3,u4,u5,ens_len,int_eqb,decide_true,decide_false]
  ·have hm':¬ (q:Int)=(m.length:Int):=by omega
   rw[if_neg hm] at g10;simp only[hdS,e1,en] at g9 g10;simp only[F7z,go_sem,g1,g2,g3,g4,g5,g6,g7,g8,g9,g10,g11,h,hm',u1,u2,u3,u4,u5,ens_len,int_eqb,decide_true,decide_false]
end Go.Av
namespace Go.Av
open Go.Nt
theorem k5 (l:List Int) (z w:Int) (ct:Bool):G9 5 [.sl .no 1 (ints l),.int .i64 z,.int .u8 w,.bool ct] []=some (.bool true,[]):=by
 have g1:=up (k11 l) (by decide) rfl;have g2:=k12;refine contract F5z rfl rfl rfl ?_;by_cases h:160 < IntKind.i64.wrap (l.length:Int)
 ·simp only[F5z,go_sem,g1,g2,h,decide_true]
 ·obtain⟨n',m,a1,a2,a3⟩:=k13 l 5 (by decide)
  obtain⟨hM,t1,t2,t3,t4⟩:=a1.tx (by omega);have g3:=k14 l;have g4:=up a3 (by decide) rfl;have g5:=up (kFmtR m t4) (by decide) rfl;rw[t1] at g5;have hpos:1<=(txM m).length:=by
   rw[txM_eq,length_append,length_cons];omega
  simp only[] at g5;have hb:(z % ((txM m).length:Int)) < ((txM m).length:Int):=Int.emod_lt_of_pos _ (by omega);have hb0:0<=(z % ((txM m).length:Int)):=Int.emod_nonneg _ (by omega);obtain⟨k,hk⟩:∃ k:Nat,z % ((txM m).length:Int)=(k:Int):=⟨(z % ((txM m).length:Int)).toNat,by omega⟩
  have g6:=up (c18 z ((txM m).length:Int) (by omega) (by omega)) (by decide) rfl;rw[hk] at g6 hb;have e5:((5:Nat):Int)=5:=rfl;rw[e5] at g4;have g7:=up (k19 (txM m) (by omega)) (by decide) rfl;generalize txM m=s at *;have g8:=up (k19 (s.take k++[UInt8.ofNat w.toNat]++s.drop (k+1)) (by simp;omega)) (by decide) rfl;have g9:=up (k19 (s.take k) (by simp;omega)) (by decide) rfl;have h0:(0:Int)<=(k:Int):=by omega
  have h1:(k:Int)<=(s.length:Int):=by omega
  have h2:(0:Int)<=((k+1:Nat):Int):=by omega
  have h3:((k+1:Nat):Int)<=(s.length:Int):=by omega
  have hw:IntKind.i64.wrap ((k:Int)+1)=((k+1:Nat):Int):=by rw[w64 (by omega) (by omega)];rfl
  have hs:bytesOfR [[.int .u8 w]]=some [UInt8.ofNat w.toNat]:=by rw[bR];rfl
  have u1:(s.take k).length<=140737488355327:=by simp;omega
  have u2:(s.take k++[UInt8.ofNat w.toNat]).length+(s.drop (k+1)).length<=140737488355328:=by simp;omega
  cases ct with
  | true=>simp only[F5z,go_sem,g1,g2,g3,g4,g5,g6,g7,g8,g9,h,h0,h1,h2,h3,hw,hs,u1,u2,int_eqb,mks1b,not_true_eq_false,decide_true,decide_false]
  | false=>simp only[F5z,go_sem,g1,g2,g3,g4,g5,g6,g7,g8,g9,h,h0,h1,h2,h3,hw,hs,u1,u2,int_eqb,mks1b,not_true_eq_false,decide_true,decide_false]
end Go.Av
namespace Go.Av
open Go.Nt
def F6L (L:List Bs) (w:Int) (i k:Nat) (s:Bs) (n:Nat):List (Nat × AV):=[(3,.int .i64 w),(11,.sl .no 1 (strs L)),(13,.int .i64 i),(14,.int .i64 k),(15,.str s),(25,.bool false),(41,.bool false),(51,.sl .no 1 (strs L)),(52,.int .i64 L.length),(53,.int .i64 n)]
theorem jn1 (x:Bs):jn [x]=x++[10]:=by simp [jn]
theorem jn2 (x y:Bs):jn [x,y]=x++([10]++(y++[10])):=by simp [jn]
theorem l6s (sh:LL) (L:List Bs) (w h:Int) (hh:w % 3=h) (i k n:Nat) (a x:Bs) (ha:L[i]?=some a) (hx:L[n]?=some x) (hl:L.length<=1000) (s:Bs) (hs:s.length<=1000000) (hal:a.length<=1000000) (hxl:x.length<=1000000) :
  execX G9 L6_0z (ST (F6L L w i k s n) [] sh)=execX G9 L6_0z (ST (F6L L w i k (s++jn ((if (n:Int)=(k:Int)/\h=2 then [a] else [])++((if ¬ (n:Int)=(i:Int)\/h=1 then [x] else [])++(if (n:Int)=(i:Int)/\h=1 then [x] else [])))) (n+1)) [] sh):=by
 have hnl:n < L.length:=(List.getElem?_eq_some_iff.1 hx).1;have h0:(0:Int)<=(n:Int):=by omega
 have hi0:(0:Int)<=(i:Int):=by omega
 have h1:(n:Int) < (L.length:Int):=by omega
 have hw:IntKind.i64.wrap ((n:Int)+1)=((n+1:Nat):Int):=by rw[w64 (by omega) (by omega)];rfl
 have ra:=strs_at ha;have rx:=strs_at hx;have g:=up (c18 w 3 (by decide) (by decide)) (by decide) rfl;rw[hh] at g;have c0:((n:Int)=(k:Int))=True\/((n:Int)=(k:Int))=False:=by
  by_cases q:(n:Int)=(k:Int);exact .inl (eq_true q);exact .inr (eq_false q)
 have c1:((n:Int)=(i:Int))=True\/((n:Int)=(i:Int))=False:=by
  by_cases q:(n:Int)=(i:Int);exact .inl (eq_true q);exact .inr (eq_false q)
 have u1:a.length<=140737488355327:=by omega
 have u2:x.length<=140737488355327:=by omega
 have u3:s.length+(a++[10]).length<=140737488355328:=by rw[length_append,length_singleton];omega
 have u4:s.length+(x++[10]).length<=140737488355328:=by rw[length_append,length_singleton];omega
 have u5:(s++(a++[10])).length+(x++[10]).length<=140737488355328:=by simp only[length_append,length_singleton];omega
 have u6:(s++(x++[10])).length+(x++[10]).length<=140737488355328:=by simp only[length_append,length_singleton];omega
 conv=>lhs;rw[Y_loop (L:=L6_0z) rfl]
 by_cases q1:h=1
 ·subst q1
  have e1:((1:Int)=2)=False:=eq_false (by decide);rcases c0 with c0 | c0<;>rcases c1 with c1 | c1 <;>
  ·simp only[go_sem,F6L,strs_len,h0,hi0,h1,hw,ra,rx,g,c0,c1,e1,u1,u2,u3,u4,u5,u6,int_eqb,decide_true,decide_false,and_true,true_and,and_false,false_and,or_true,true_or,not_true_eq_false,not_false_eq_true,jn_app,jn1,jn2,jn_nil,append_nil,nil_append]
   try simp only[append_assoc,cons_append,nil_append]
 ·by_cases q2:h=2
  ·subst q2
   have e1:((2:Int)=1)=False:=eq_false (by decide);rcases c0 with c0 | c0<;>rcases c1 with c1 | c1 <;>
   ·simp only[go_sem,F6L,strs_len,h0,hi0,h1,hw,ra,rx,g,c0,c1,e1,u1,u2,u3,u4,u5,u6,int_eqb,decide_true,decide_false,and_true,true_and,and_false,false_and,or_true,true_or,or_false,not_true_eq_false,not_false_eq_true,jn_app,jn1,jn2,jn_nil,append_nil,nil_append]
    try simp only[append_assoc,cons_append,nil_append]
  ·have e1:(h=1)=False:=eq_false q1
   have e2:(h=2)=False:=eq_false q2;rcases c0 with c0 | c0<;>rcases c1 with c1 | c1 <;>
   ·simp only[go_sem,F6L,strs_len,h0,hi0,h1,hw,ra,rx,g,c0,c1,e1,e2,u1,u2,u3,u4,u5,u6,int_eqb,decide_true,decide_false,and_true,true_and,and_false,false_and,or_true,true_or,or_false,not_true_eq_false,not_false_eq_true,jn_app,jn1,jn2,jn_nil,append_nil,nil_append]
    try simp only[append_assoc,cons_append,nil_append]
theorem jn_t (L:List Bs) {n:Nat} {x:Bs} (h:L[n]?=some x):jn (L.take (n+1))=jn (L.take n)++(x++[10]):=by
 rw[take_add_one,h,jn_app];simp [jn]
theorem l6 (sh:LL) (L:List Bs) (w h:Int) (hh:w % 3=h) (i k:Nat) (a:Bs) (ha:L[i]?=some a) (hl:L.length<=1000) (hS:(jn L).length<=100000) (hx:∀ x∈L,x.length<=100000):∀ (d n:Nat) (T:List Bs) (fl:Bool),n+d=L.length->(∀ x∈T,x∈L)->T.length<=n+fl.toNat->(jn T).length<=(jn (L.take n)).length+(if fl=true then a.length+1 else 0)->(fl=true->(h=2/\k < n)\/(h=1/\i < n)) ->
  ∃ T':List Bs,(∀ x∈T',x∈L)/\T'.length<=L.length+1/\(jn T').length<=(jn L).length+(a.length+1)/\execX G9 L6_0z (ST (F6L L w i k (jn T) n) [] sh)=some (.ex 0,ST (F6L L w i k (jn T') L.length++[(54,.bool false)]) [] sh)
 | 0,n,T,fl,hn,h1,h2,h3,h4=>by
  have:n=L.length:=by omega
  subst this;rw[take_length] at h3;refine⟨T,h1,by cases fl<;>simp at h2<;>omega,by split at h3<;>omega,?_⟩;rw[Y_loop (L:=L6_0z) rfl];simp only[go_sem,F6L,Int.lt_irrefl]
 | d+1,n,T,fl,hn,h1,h2,h3,h4=>by
  have hnl:n < L.length:=by omega
  have hg:L[n]?=some L[n]:=getElem?_eq_getElem hnl;have hm:L[n]∈L:=getElem_mem hnl;have hxl:=hx _ hm;have ham:a∈L:=mem_of_getElem? ha;have hal:=hx _ ham;generalize L[n]=x at hg hm hxl;have ht:(jn (L.take n)).length<=(jn L).length:=by
   conv=>rhs;rw[<- take_append_drop n L,jn_app]
   rw[length_append];omega
  have hjt:=jn_t L hg;have st:=l6s sh L w h hh i k n a x ha hg hl (jn T) (by split at h3<;>omega) (by omega) (by omega);have hjl:=congrArg List.length hjt;rw[length_append,length_append,length_singleton] at hjl;by_cases b1:(n:Int)=(k:Int)/\h=2
  ·have hnf:fl=false:=by
    cases fl with
    | false=>rfl
    | true=>rcases h4 rfl with ⟨_,q⟩ | ⟨q,_⟩<;>omega
   subst hnf;have b2:¬ ((n:Int)=(i:Int)/\h=1):=fun q=>by omega
   rw[if_pos b1,if_neg b2,append_nil] at st;by_cases b3:¬ (n:Int)=(i:Int)\/h=1
   ·rw[if_pos b3,<- jn_app] at st
    rw[st];refine l6 sh L w h hh i k a ha hl hS hx d (n+1) _ true (by omega) (fun y hy=>?_) ?_ ?_ (fun _=>.inl ⟨b1.2,by omega⟩)
    ·rcases mem_append.1 hy with q | q
     ·exact h1 y q
     ·rcases mem_append.1 q with q | q
      ·rw[mem_singleton.1 q];exact ham
      ·rw[mem_singleton.1 q];exact hm
    ·simp at h2 ⊢;omega
    ·rw[jn_app,jn_app,jn1,jn1];simp at h3 ⊢;omega
   ·rw[if_neg b3,append_nil,<- jn_app] at st
    rw[st];refine l6 sh L w h hh i k a ha hl hS hx d (n+1) _ true (by omega) (fun y hy=>?_) ?_ ?_ (fun _=>.inl ⟨b1.2,by omega⟩)
    ·rcases mem_append.1 hy with q | q
     ·exact h1 y q
     ·rw[mem_singleton.1 q];exact ham
    ·simp at h2 ⊢;omega
    ·rw[jn_app,jn1];simp at h3 ⊢;omega
  rw[if_neg b1,nil_append] at st;by_cases b2:(n:Int)=(i:Int)/\h=1
  ·have hnf:fl=false:=by
    cases fl with
    | false=>rfl
    | true=>rcases h4 rfl with ⟨q,_⟩ | ⟨_,q⟩<;>omega
   subst hnf;have hax:a=x:=by
    have:n=i:=by omega
    subst this;rw[ha] at hg;exact Option.some.inj hg
   subst hax;rw[if_pos b2,if_pos (.inr b2.2),<- jn_app] at st;rw[st];refine l6 sh L w h hh i k a ha hl hS hx d (n+1) _ true (by omega) (fun y hy=>?_) ?_ ?_ (fun _=>.inr ⟨b2.2,by omega⟩)
   ·rcases mem_append.1 hy with q | q
    ·exact h1 y q
    ·rcases mem_append.1 q with q | q
     ·rw[mem_singleton.1 q];exact ham
     ·rw[mem_singleton.1 q];exact ham
   ·simp at h2 ⊢;omega
   ·rw[jn_app,jn_app,jn1];simp at h3 ⊢;omega
  rw[if_neg b2,append_nil] at st;have h4':fl=true->(h=2/\k < n+1)\/(h=1/\i < n+1):=fun q=>by rcases h4 q with ⟨q1,q2⟩ | ⟨q1,q2⟩<;>omega
  by_cases b3:¬ (n:Int)=(i:Int)\/h=1
  ·rw[if_pos b3,<- jn_app] at st
   rw[st];refine l6 sh L w h hh i k a ha hl hS hx d (n+1) _ fl (by omega) (fun y hy=>?_) ?_ ?_ h4'
   ·rcases mem_append.1 hy with q | q
    ·exact h1 y q
    ·rw[mem_singleton.1 q];exact hm
   ·rw[length_append,length_singleton];omega
   ·rw[jn_app,jn1,length_append,length_append,length_singleton];omega
  ·rw[if_neg b3,jn_nil,append_nil] at st
   rw[st];refine l6 sh L w h hh i k a ha hl hS hx d (n+1) T fl (by omega) h1 (by omega) (by omega) h4'
end Go.Av
namespace Go.Av
open Go.Nt
theorem lnE_one (k:Nat) (v:Bs):(lnE k v).length<=1:=by unfold lnE;split<;>simp
theorem linK_len (e:En):∀ k,(linK e k).length<=k
 | 0=>Nat.le_refl _
 | k+1=>by
  have h1:=linK_len e k;have h2:=lnE_one k (vlE e k);show (linK e k++lnE k (vlE e k)).length<=_;rw[length_append];omega
theorem linK_mem {e:En} {x:Bs}:∀ {k:Nat},x∈linK e k↔∃ j,j < k/\x∈lnE j (vlE e j)
 | 0=>⟨fun h=>(by cases h),fun ⟨j,h,_⟩=>absurd h (by omega)⟩
 | k+1=>by
  have ih:=linK_mem (e:=e) (x:=x) (k:=k);show x∈linK e k++lnE k (vlE e k)↔_;rw[mem_append,ih];constructor
  ·rintro (⟨j,h1,h2⟩ | h)
   ·exact⟨j,by omega,h2⟩
   ·exact⟨k,by omega,h⟩
  ·rintro ⟨j,h1,h2⟩
   by_cases q:j=k
   ·subst q;exact .inr h2
   ·exact .inl ⟨j,by omega,h2⟩
theorem lnE_mem {k:Nat} {v x:Bs} (h:x∈lnE k v):x=lnK k v:=by
 unfold lnE at h
 split at h
 ·cases h
 ·exact mem_singleton.1 h
theorem lin_pos (e:En):1<=(linE e).length:=by
 have:lnK 0 (vlE e 0)∈linE e:=linK_mem.2 ⟨0,by omega,by unfold lnE;rw[if_neg (by omega)];simp⟩
 exact length_pos_of_mem this
theorem flat_pos (m:List En):m.length<=(m.flatMap linE).length:=by
 induction m with
 | nil=>simp
 | cons e m ih =>
  have:=lin_pos e
  rw[flatMap_cons,length_append,length_cons];omega
theorem flat_8 (m:List En):(m.flatMap linE).length<=m.length*8:=by
 induction m with
 | nil=>simp
 | cons e m ih =>
  have:=linK_len e 8
  have e8:linE e=linK e 8:=rfl;rw[flatMap_cons,length_append,length_cons,e8];omega
theorem dcN_inj {a b:Nat} (ha:a < 10000000000) (hb:b < 10000000000) (h:dcN a=dcN b):a=b:=by
 have h1:=(dcN_p 9 a ha).2.1;have h2:=(dcN_p 9 b hb).2.1;rw[h,h2] at h1;exact h1.symm
theorem c_from {m m':List En} (hM':Mem m') (hs:∀ e∈m,e.c<=49) (hsub:∀ x∈m'.flatMap linE,x∈hdT m.length :: m.flatMap linE):∀ e∈m',e.c<=49:=fun e he=>by
 by_cases hz:e.c=0
 ·omega
 have hV:=hM'.1 e he;have c0:=hV.c0;have c1:=hV.c1;have hv:vlE e 6=dcN e.c.toNat:=if_neg hz;have hd:=dcN_p 9 e.c.toNat (by omega);have hne:dcN e.c.toNat≠[]:=fun q=>by have:=hd.2.2.1;rw[q] at this;simp at this
 have hx:lnK 6 (dcN e.c.toNat)∈linE e:=linK_mem.2 ⟨6,by omega,by rw[hv];unfold lnE;rw[if_neg (fun q=>hne q.2)];simp⟩;rcases mem_cons.1 (hsub _ (mem_flatMap.2 ⟨e,he,hx⟩)) with q | q
 ·have:(lnK 6 (dcN e.c.toNat)).head?=(hdT m.length).head?:=by rw[q]
  exact absurd this (by simp [lnK,hdT,hdB,fnm])
 ·obtain⟨f,hf,hxf⟩:=mem_flatMap.1 q
  obtain⟨j,hj,hxj⟩:=linK_mem.1 hxf;have e1:=lnE_mem hxj;have e2:=fld_ln (k:=6) (by decide) (dcN e.c.toNat);rw[e1,fld_ln hj] at e2;obtain⟨rfl,e3⟩:=Prod.mk.inj (Option.some.inj e2);have hf49:=hs f hf;by_cases hfz:f.c=0
  ·have:vlE f 6=[]:=if_pos hfz
   rw[this] at e3;exact absurd e3.symm hne
  ·have:vlE f 6=dcN f.c.toNat:=if_neg hfz
   rw[this] at e3;by_cases hneg:f.c < 0
   ·have h0:f.c.toNat=0:=by omega
    rw[h0] at e3
    have:=dcN_inj (by omega) (by omega) e3
    omega
   ·have:=dcN_inj (by omega) (by omega) e3
    omega
theorem k6 (l:List Int) (z y w:Int):G9 6 [.sl .no 1 (ints l),.int .i64 z,.int .i64 y,.int .i64 w] []=some (.bool true,[]):=by
 have g1:=up (k11 l) (by decide) rfl;have g2:=k12;refine contract F6z rfl rfl rfl ?_;by_cases h:160 < IntKind.i64.wrap (l.length:Int)
 ·simp only[F6z,go_sem,g1,g2,h,decide_true]
 obtain⟨n',m,a1,a2,a3⟩:=k13 l 5 (by decide);obtain⟨hM,t1,t2,t3,t4⟩:=a1.tx (by omega);have t2:(txM m).length<=24100:=by
  have h1:=txM_len (B:=4700) (m:=m) (by omega) (fun e he=>⟨hM.1 e he,(a1.2 e he).1⟩);have h2:m.length*(4700+100)<=5*(4700+100):=Nat.mul_le_mul_right _ a2;omega
 have g3:=k14 l;have g4:=up a3 (by decide) rfl;have g5:=up (kFmtR m t4) (by decide) rfl;rw[t1] at g5;simp only[] at g5;have e5:((5:Nat):Int)=5:=rfl;rw[e5] at g4;have g6:=up (kLines (txM m) (by omega)) (by decide) rfl;have hln:=lns_txM hM (by omega);have hR:lnR (txM m)=hdT m.length :: m.flatMap linE:=by unfold lnR;rw[hln,if_pos rfl,append_nil]
 have hten:=ten_txM hM (by omega);have hjL:jn (hdT m.length :: m.flatMap linE)=txM m:=rfl;have hLl:(hdT m.length :: m.flatMap linE).length<=41:=by
  have:=flat_8 m
  rw[length_cons];omega
 have hLp:1<=(hdT m.length :: m.flatMap linE).length:=by rw[length_cons];omega
 have hsub0:∀ x∈hdT m.length :: m.flatMap linE,x∈hdT m.length :: m.flatMap linE:=fun x h=>h
 rw[hR,hln] at g6;simp only[decide_true] at g6;generalize hLe:hdT m.length :: m.flatMap linE=L at *;have hx1:∀ {T:List Bs} {x:Bs},x∈T->x.length+1<=(jn T).length:=fun {T}=>by
  induction T with
  | nil=>intro x h;cases h
  | cons a T ih =>
   intro x h;rw[jn_cons,length_append,length_cons];rcases mem_cons.1 h with q | q
   ·rw[q];omega
   ·have:=ih q;omega
 have hx:∀ x∈L,x.length<=100000:=fun x h=>by have:=hx1 h;rw[hjL] at this;omega
 have pl:∀ q:Int,∃ i:Nat,i < L.length/\G9 15 [.int .i64 q,.int .i64 L.length] []=some (.int .i64 i,[]):=fun q=>by
  have g:=up (c18 q (L.length:Int) (by omega) (by omega)) (by decide) rfl;have hb:q % (L.length:Int) < (L.length:Int):=Int.emod_lt_of_pos _ (by omega);have hb0:0<=q % (L.length:Int):=Int.emod_nonneg _ (by omega);refine⟨(q % (L.length:Int)).toNat,by omega,?_⟩;rw[g,show (((q % (L.length:Int)).toNat:Nat):Int)=q % (L.length:Int) by omega]
 obtain⟨i,hi,g7⟩:=pl z;obtain⟨k,hk,g8⟩:=pl y;have ha:L[i]?=some L[i]:=getElem?_eq_getElem hi;have haL:=getElem_mem hi;generalize L[i]=a at ha haL;obtain⟨T,p1,p2,p3,p4⟩:=l6 [num l n'] L w (w % 3) rfl i k a ha (by omega) (by rw[hjL];omega) hx L.length 0 [] false (by omega) (by simp) (by simp) (by simp [jn_nil]) (by simp);have hal:=hx1 haL;rw[hjL] at hal p3;have hTl:(jn T).length<=48300:=by omega
 have g9:=up (kParse (jn T) (by omega)) (by decide) rfl;have g10:=up (k19 (jn T) (by omega)) (by decide) rfl;have e0:((0:Nat):Int)=0:=rfl;rw[jn_nil] at p4;simp only[F6L,cons_append,nil_append,e0] at p4;have hl0:¬ (L.length:Int)=0:=by omega
 by_cases he:(pM (jn T)).2.2=0
 ·obtain⟨q1,q2,q3,_,_⟩:=pM_some (s:=jn T) (m:=(pM (jn T)).1) (k:=(pM (jn T)).2.1) (by rw[<- he])
  generalize hpm:(pM (jn T)).1=m' at *;have hT:T=hdT m'.length :: m'.flatMap linE:=by
   have w1:=lns_txM q2 (by omega);have w2:=lns_app (ls:=T) (r:=[]) (fun l hm=>hten l (p1 l hm)) (by simp);rw[append_nil,q1,w1] at w2;exact (Prod.mk.inj w2).1.symm
  have hml:m'.length<=41:=by
   have w1:=flat_pos m';rw[hT,length_cons] at p2;omega
  have hc:∀ e∈m',e.c<=49:=c_from q2 (fun e he=>(a1.2 e he).2) (fun x hxm=>by
   rw[hLe]
   exact p1 x (by rw[hT];exact mem_cons_of_mem _ hxm))
  have hF:FOK m':=⟨by omega,memBe q2,fun _=>⟨fun e he=>by have:=hc e he;omega,by rw[<- q1];omega⟩⟩
  have g11:=k17 hF;rw[fmM_ok q2 (by omega) (by rw[<- q1];omega),<- q1] at g11;simp only[] at g11;have b1:(jn T != jn T)=false:=by simp
  rw[he] at g9;simp only[F6z,go_sem,g1,g2,g3,g4,g5,g6,g7,g8,strs_len,hl0,p4,g9,g10,g11,b1,h,int_eqb,decide_true,decide_false,not_true_eq_false]
 ·simp only[F6z,go_sem,g1,g2,g3,g4,g5,g6,g7,g8,strs_len,hl0,p4,g9,g10,he,h,int_eqb,decide_true,decide_false,not_true_eq_false]
end Go.Av
