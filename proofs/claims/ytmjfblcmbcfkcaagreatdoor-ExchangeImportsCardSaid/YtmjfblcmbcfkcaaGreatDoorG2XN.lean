/- The reader of exchange: fields, lines, ends of entries. No conditions. The reader of exchange: a line, the end of an entry. No conditions. exchange.Parse. No conditions. The reference's lines and fields. No conditions. The reference's lines. No conditions. The reference's Parse of a memory. No conditions. The reference's Parse of a memory: the loop. No conditions. The reference's Parse of a memory. No conditions. -/
import Derived.Test.YtmjfblcmbcfkcaaGreatDoorG2XM
import Derived.Test.YtmjfblcmbcfkcaaGreatDoorG2XL
import Derived.Test.YtmjfblcmbcfkcaaGreatDoorG2XI
import Derived.Test.YtmjfblcmbcfkcaaGreatDoorG2XC
open List
set_option linter.unusedSimpArgs false
set_option linter.unusedVariables false
set_option linter.unusedSectionVars false
set_option maxRecDepth 100000
set_option maxHeartbeats 16000000
namespace Go.Av
open Go.Nt
def Ro (b x y:Bool) (r:Rd) (last:Bs):List AV:=[.sl (md b) 8 (ens r.m),.sl (mdn x) 3 (tks r.e.S),.sl (mdn y) 3 (tks r.e.T),.str r.e.p,.str r.e.n,.str r.e.a,.str r.e.j,.int .i64 r.e.c,.int .i64 r.e.o,.str last,.int .i64 (r.k:Int)]
theorem dW (m1 m2 m3:Own) (l1 l2 l3:LL) (a b c d e:Bs) (i j k:Int):eY false 1 [[.sl m1 8 l1,.sl m2 3 l2,.sl m3 3 l3,.str a,.str b,.str c,.str d,.int .i64 i,.int .i64 j,.str e,.int .i64 k]]=true:=rfl
theorem zED (b x y:Bool) (r:Rd) (last:Bs) (k:Nat):G0 76 [.ptr 0 0,.int .i64 k] [Ro b x y r last]=some (.bool (if r.k < 2 then decide (k=r.k) else decide (r.k<=k)),[Ro b x y r last]):=by
 refine aA F76 rfl rfl rfl ?_;by_cases h:r.k < 2
 ·have h':(r.k:Int) < 2:=by omega
  have e:decide ((k:Int)=(r.k:Int))=decide (k=r.k):=by by_cases q:k=r.k<;>simp [q];omega
  rw[if_pos h];simp only[F76,go_sem,Ro,h',e,cL,dW]
 ·have h':¬ (r.k:Int) < 2:=by omega
  have e:decide ((r.k:Int)<=(k:Int))=decide (r.k<=k):=by by_cases q:r.k<=k<;>simp [q]
  rw[if_neg h];simp only[F76,go_sem,Ro,h',e,cL,dW]
theorem c67':G0 67 [] []=some (.agg [.str [104,117,109,97,110],.str [97,108,105,103,110,101,100],.str [109,97,99,104,105,110,101]],[]):=by
 refine aA F67 rfl rfl rfl ?_;simp only[F67,go_sem]
def bfr:List (Nat × AV):=[(34,.bool false),(46,.bool false),(58,.bool false),(71,.bool false),(84,.bool false),(91,.bool false),(98,.bool false)]
theorem WY (b x y:Bool) (m:List En) (e:En) (k:Nat) (last v:Bs) (i:Nat) (hi:i < 3) (a13:List AV) (h13:a13=[.str [104,117,109,97,110],.str [97,108,105,103,110,101,100],.str [109,97,99,104,105,110,101]]) :
  aC G0 zS (ST ((0,.ptr 0 0) :: (2,.str v) :: (7,.int .i64 0) :: (13,.agg a13) :: (14,.int .i64 i) :: bfr) [] [Ro b x y ⟨m,e,k⟩ last])=aC G0 zS (ST ((0,.ptr 0 0) :: (2,.str v) :: (7,.int .i64 0) :: (13,.agg a13) :: (14,.int .i64 ((i+1:Nat):Int)) :: bfr) [] [Ro b x y ⟨m,if orn.getD i []=v then { e with o:=(i:Int)+1 } else e,k⟩ last]):=by
 have h0:(0:Int)<=(i:Int):=by omega
 have h1:(i:Int) < 3:=by omega
 have hw:=wI (i:=i) (by omega)
 have hw2:IntKind.i64.wrap (1+(i:Int))=(i:Int)+1:=by rw[w64 (by omega) (by omega)];omega
 have ht:gI false (i*1) 1 a13=some (.str (orn.getD i [])):=by
  subst h13
  match i,hi with
  | 0,_ | 1,_ | 2,_=>rfl
 have hl:a13.length=3:=by rw[h13];rfl
 generalize orn.getD i []=q at ht
 conv=>lhs;rw[aB (L:=zS) rfl]
 by_cases hq:q=v
 ·have hq':(q == v)=true:=by simpa using hq
  rw[if_pos hq];simp only[go_sem,bfr,Ro,h0,h1,hl,ht,hq',hw,hw2]
 ·have hq':(q == v)=false:=by simpa using hq
  rw[if_neg hq];simp only[go_sem,bfr,Ro,h0,h1,hl,ht,hq',hw]
theorem XR {l:List Bs} {a:Bs} (h:idx l a=none):∀ x∈l,x≠a:=by
 induction l with
 | nil=>intro x hx;cases hx
 | cons z l ih =>
  unfold idx at h;by_cases q:z=a
  ·rw[if_pos q] at h;cases h
  ·rw[if_neg q] at h
   intro x hx;rcases mem_cons.1 hx with r | r
   ·rw[r];exact q
   ·exact ih (by simpa using h) x r
theorem l77 (b x y:Bool) (m:List En) (e:En) (k:Nat) (last v:Bs) (a13:List AV) (h13:a13=[.str [104,117,109,97,110],.str [97,108,105,103,110,101,100],.str [109,97,99,104,105,110,101]]) (ho:e.o=0) :
  aC G0 zS (ST ((0,.ptr 0 0) :: (2,.str v) :: (7,.int .i64 0) :: (13,.agg a13) :: (14,.int .i64 0) :: bfr) [] [Ro b x y ⟨m,e,k⟩ last])=some (.ex 1,ST ((0,.ptr 0 0) :: (2,.str v) :: (7,.int .i64 0) :: (13,.agg a13) :: (14,.int .i64 3) :: (15,.bool false) :: bfr) [] [Ro b x y ⟨m,(cG 7 v e).2,k⟩ last]):=by
 have s0:=WY b x y m e k last v 0 (by decide) a13 h13;have s1:=WY b x y m (if orn.getD 0 []=v then { e with o:=((0:Nat):Int)+1 } else e) k last v 1 (by decide) a13 h13;have s2:=WY b x y m (if orn.getD 1 []=v then { (if orn.getD 0 []=v then { e with o:=((0:Nat):Int)+1 } else e) with o:=((1:Nat):Int)+1 } else (if orn.getD 0 []=v then { e with o:=((0:Nat):Int)+1 } else e)) k last v 2 (by decide) a13 h13;refine s0.trans (s1.trans (s2.trans ?_));have hE:(if orn.getD 2 []=v then { (if orn.getD 1 []=v then { (if orn.getD 0 []=v then { e with o:=((0:Nat):Int)+1 } else e) with o:=((1:Nat):Int)+1 } else (if orn.getD 0 []=v then { e with o:=((0:Nat):Int)+1 } else e)) with o:=((2:Nat):Int)+1 } else (if orn.getD 1 []=v then { (if orn.getD 0 []=v then { e with o:=((0:Nat):Int)+1 } else e) with o:=((1:Nat):Int)+1 } else (if orn.getD 0 []=v then { e with o:=((0:Nat):Int)+1 } else e)))=(cG 7 v e).2:=by
  show _=(match idx orn v with | some i=>((0:Int),{ e with o:=(i:Int)+1 }) | none=>((2:Int),e)).2;have n0:¬ orn.getD 0 []=orn.getD 1 []:=by decide
  have n1:¬ orn.getD 0 []=orn.getD 2 []:=by decide
  have n2:¬ orn.getD 1 []=orn.getD 2 []:=by decide
  by_cases q0:orn.getD 0 []=v
  ·subst q0
   rw[vP 0 (by decide),if_neg (fun h=>n1 h.symm),if_neg (fun h=>n0 h.symm),if_pos rfl]
  ·by_cases q1:orn.getD 1 []=v
   ·subst q1
    rw[vP 1 (by decide),if_neg (fun h=>n2 h.symm),if_pos rfl,if_neg q0]
   ·by_cases q2:orn.getD 2 []=v
    ·subst q2
     rw[vP 2 (by decide),if_pos rfl,if_neg q1,if_neg q0]
    ·have:idx orn v=none:=by
      cases h:idx orn v with
      | none=>rfl
      | some i =>
       have h5:=tZ h;have hi:=(List.getElem?_eq_some_iff.1 h5).1
       match i,hi,h5 with
       | 0,_,h5=>exact absurd (Option.some.inj h5) q0
       | 1,_,h5=>exact absurd (Option.some.inj h5) q1
       | 2,_,h5=>exact absurd (Option.some.inj h5) q2
     rw[this,if_neg q2,if_neg q1,if_neg q0]
 rw[hE];have e3:(((2+1:Nat)):Int)=3:=rfl;rw[e3,aB (L:=zS) rfl];simp only[go_sem,bfr]
theorem set7 (v:Bs) (e:En) (ho:e.o=0):((cG 7 v e).1=0/\¬ (cG 7 v e).2.o=0)\/((cG 7 v e).1=2/\(cG 7 v e).2.o=0):=by
 show ((match idx orn v with | some i=>((0:Int),{ e with o:=(i:Int)+1 }) | none=>((2:Int),e)).1=0/\¬ (match idx orn v with | some i=>((0:Int),{ e with o:=(i:Int)+1 }) | none=>((2:Int),e)).2.o=0)\/_;cases h:idx orn v with
 | some i=>exact .inl ⟨rfl,by show ¬ (i:Int)+1=0;omega⟩
 | none=>exact .inr ⟨by show (match idx orn v with | some i=>((0:Int),{ e with o:=(i:Int)+1 }) | none=>((2:Int),e)).1=2;rw[h],by show (match idx orn v with | some i=>((0:Int),{ e with o:=(i:Int)+1 }) | none=>((2:Int),e)).2.o=0;rw[h];exact ho⟩
theorem XE (b x y:Bool) (m:List En) (e:En) (kk:Nat) (last v:Bs) (hv:v.length<=50000) (ho:e.o=0) (k:Nat) (hk:k < 8) :
  G0 77 [.ptr 0 0,.int .i64 k,.str v] [Ro b x y ⟨m,e,kk⟩ last]=some (.int .i64 (cG k v e).1,[Ro b (x || decide (k=0)) (y || decide (k=1)) ⟨m,(cG k v e).2,kk⟩ last]):=by
 have p:=c35 v (by omega);have mT:mdn true=.no:=rfl;refine aA F77 rfl rfl rfl ?_
 match k,hk with
 | 0,_ =>
  simp only[F77,go_sem,Ro,p,dW,cG,Bool.or_true,Bool.or_false,mT]
 | 1,_ =>
  simp only[F77,go_sem,Ro,p,dW,cG,Bool.or_true,Bool.or_false,mT]
 | 2,_ =>
  simp only[F77,go_sem,Ro,p,dW,cG,Bool.or_true,Bool.or_false,mT]
 | 3,_ =>
  simp only[F77,go_sem,Ro,p,dW,cG,Bool.or_true,Bool.or_false,mT]
 | 4,_ =>
  simp only[F77,go_sem,Ro,p,dW,cG,Bool.or_true,Bool.or_false,mT]
 | 5,_ =>
  simp only[F77,go_sem,Ro,p,dW,cG,Bool.or_true,Bool.or_false,mT]
 | 6,_ =>
  obtain⟨n,bb,g1,g2,g3⟩:=M1 v 1073741824;have ec:((1073741824:Nat):Int)=1073741824:=rfl;rw[ec] at g1;have hs:cG 6 v e=(match eZ v 1073741824 with | some n=>if n=0 then ((2:Int),e) else (0,{ e with c:=(n:Int) }) | none=>((2:Int),e)):=rfl;cases hn:eZ v 1073741824 with
  | none =>
   rw[hn] at g2 hs;have g2:bb=false:=g2;subst g2;rw[hs];simp only[F77,go_sem,Ro,g1,dW,Bool.or_false]
  | some k =>
   rw[hn] at g2 hs;have g2:bb=true:=g2;subst g2;have g3:=g3 k hn;subst g3;rw[hs];by_cases q:k=0
   ·subst q
    have q':(((0:Nat):Int) == 0)=true:=rfl;simp only[F77,go_sem,Ro,g1,dW,q',Bool.or_false,if_true]
   ·have q':¬ (k:Int)=0:=by omega
    simp only[F77,go_sem,Ro,g1,dW,cL,q,q',decide_false,Bool.or_false,if_false]
 | 7,_ =>
  have l:=l77 b x y m e kk last v _ rfl ho;simp only[bfr,Ro] at l;rcases set7 v e ho with ⟨h1,h2⟩ | ⟨h1,h2⟩
  ·rw[h1]
   simp only[F77,go_sem,Ro,c67',l,dW,cL,h2,decide_false,Bool.or_false]
  ·rw[h1]
   simp only[F77,go_sem,Ro,c67',l,dW,cL,h2,decide_true,Bool.or_false]
end Go.Av
namespace Go.Av
open Go.Nt
def lsK (m:List En):Bs:=match m.getLast? with
 | some f=>aG f
 | none=>[]
theorem UI (m:List En) (e:En):lsK (m++[e])=aG e:=by unfold lsK;rw[getLast?_concat]
theorem UK (b:Bool) (l:LL) (c1 c2 c3 c4 c5 c6 c7 c8 c9 c10:AV):MZ (sh:=[[.sl (md b) 8 l,c1,c2,c3,c4,c5,c6,c7,c8,c9,c10]]) 0 0 [.sl (md b) 8 l,c1,c2,c3,c4,c5,c6,c7,c8,c9,c10] (.sl (md b) 8 l)=some (.sl (md b) 8 l,[[.sl (mdn b) 8 l,c1,c2,c3,c4,c5,c6,c7,c8,c9,c10]]):=by
 cases b<;>rfl
theorem U4 (b:Bool) (m:List En) (e:En) (h:m.length<=1000000):jL false 8 128 (.sl (md b) 8 (ens m)) (.sl .full 8 [aN e])=some (.sl .own 8 (ens (m++[e]))):=by
 have ha:cU 128 (m.length+1)=true:=bU (by decide) (by omega);rw[dP (md b) .full (G2 b) 8 128 (by decide),aK,length_singleton,if_pos ha];simp [ens]
theorem kEnd (b:Bool) (m:List En) (e:En) (k:Nat) (he:BE e) (hm:m.length<=1000000):G0 78 [.ptr 0 0] [Ro b true true ⟨m,e,k⟩ (lsK m)]=some (.int .i64 (iL m e),[if iL m e=0 then Ro true true true ⟨m++[e],zE,0⟩ (aG e) else Ro b true true ⟨m,e,k⟩ (lsK m)]):=by
 have a1:=k23 e he;have a2:=k24 e he;have mT:mdn true=.no:=rfl;have mF:md true=.own:=rfl;have ha:=U4 b m e hm;simp only[aN] at a1 a2 ha;refine aA F78 rfl rfl rfl ?_;by_cases q:vE e=0
 case neg =>
  rw[OB q,if_neg q];simp only[F78,go_sem,Ro,mT,a1,q,dW,decide_false,not_false_eq_true,decide_true]
 rw[q] at a1;have hz:tks zE.S=[]:=rfl;have hz2:tks zE.T=[]:=rfl;rcases eq_nil_or_concat m with rfl | ⟨g,f,hp⟩
 ·rw[OD q,if_pos rfl]
  have hl:(ens []).length=0:=rfl;have ec0:((0:Nat):Int)=0:=rfl;simp only[F78,go_sem,Ro,mT,mF,a1,a2,ha,hl,bP,dA,cE,UK,wX,dW,hz,hz2,zE,eB,not_true_eq_false,decide_false,Int.lt_irrefl,ec0]
 ·have hp:m=g++[f]:=by rw[hp,concat_eq_append]
  subst hp;have hl:(0:Int) < (((g++[f]).length:Nat):Int):=by rw[length_append];simp only[length_singleton];omega
  have hk:=UI g f;have ho:=kOrd (aG f) (aG e);rw[<- OC q (p:=g++[f]) (f:=f) (by simp),<- hk] at ho;by_cases hb:iL (g++[f]) e=0
  ·rw[hb] at ho ⊢
   rw[if_pos rfl];simp only[F78,go_sem,Ro,mT,mF,a1,a2,ha,aK,hl,ho,bP,dA,cE,UK,wX,dW,hz,hz2,zE,eB,not_true_eq_false,decide_false]
  ·rw[if_neg hb]
   simp only[F78,go_sem,Ro,mT,mF,a1,a2,aK,hl,ho,hb,bP,dA,cE,dW,not_true_eq_false,not_false_eq_true,decide_true,decide_false]
def nms:List AV:=[.str [115,111,117,114,99,101],.str [116,97,114,103,101,116],.str [112,114,101,118,105,111,117,115],.str [110,101,120,116],.str [97,117,116,104,111,114],.str [112,114,111,106,101,99,116],.str [99,114,101,97,116,101,100],.str [111,114,105,103,105,110]]
theorem u7:G0 68 [] []=some (.agg nms,[]):=by
 refine aA F68 rfl rfl rfl ?_;simp only[F68,go_sem,nms]
theorem WL (i:Nat) (hi:i < 8):gI false (i*1) 1 nms=some (.str (fnm.getD i [])):=by
 match i,hi with
 | 0,_ | 1,_ | 2,_ | 3,_ | 4,_ | 5,_ | 6,_ | 7,_=>rfl
def FE (a:Bs):Nat->Nat->Int->Int
 | 0,_,k=>k
 | d+1,i,k=>FE a d (i+1) (if fnm.getD i []=a then (i:Int) else k)
theorem SA:∀ j,j < 8->FE (fnm.getD j []) 8 0 (-1)=(j:Int):=by decide
theorem R9 {a:Bs} (h:idx fnm a=none):FE a 8 0 (-1) = -1:=by
 have h:=XR h
 have hn:∀ i,i < 8->¬ fnm.getD i []=a:=fun i hi=>h _ (by
  match i,hi with
  | 0,_ | 1,_ | 2,_ | 3,_ | 4,_ | 5,_ | 6,_ | 7,_=>decide)
 simp only[FE];rw[if_neg (hn 0 (by decide)),if_neg (hn 1 (by decide)),if_neg (hn 2 (by decide)),if_neg (hn 3 (by decide)),if_neg (hn 4 (by decide)),if_neg (hn 5 (by decide)),if_neg (hn 6 (by decide)),if_neg (hn 7 (by decide))]
theorem l45 (a v:Bs) (fd:Bool) (sh:LL):∀ (d i:Nat) (k:Int),i+d=8 ->
  aC G0 IP (ST [(0,.ptr 0 0),(5,.str a),(6,.str v),(7,.bool fd),(8,.int .i64 k),(18,.agg nms),(19,.int .i64 i)] [] sh)=some (.ex 0,ST [(0,.ptr 0 0),(5,.str a),(6,.str v),(7,.bool fd),(8,.int .i64 (FE a d i k)),(18,.agg nms),(19,.int .i64 8),(20,.bool false)] [] sh)
 | 0,i,k,h=>by
  have:i=8:=by omega
  subst this;have ec:((8:Nat):Int)=8:=rfl;rw[aB (L:=IP) rfl];simp only[go_sem,ec,FE,Int.lt_irrefl]
 | d+1,i,k,h=>by
  have hi:i < 8:=by omega
  have h0:(0:Int)<=(i:Int):=by omega
  have h1:(i:Int) < 8:=by omega
  have hw:=wI (i:=i) (by omega)
  have ht:=WL i hi;have hl:nms.length=8:=rfl;have ih:=l45 a v fd sh d (i+1) (if fnm.getD i []=a then (i:Int) else k) (by omega);show _=some (AX.ex 0,ST [(0,.ptr 0 0),(5,.str a),(6,.str v),(7,.bool fd),(8,.int .i64 (FE a d (i+1) (if fnm.getD i []=a then (i:Int) else k))),(18,.agg nms),(19,.int .i64 8),(20,.bool false)] [] sh);rw[<- ih]
  conv=>lhs;rw[aB (L:=IP) rfl]
  generalize fnm.getD i []=q at ht;by_cases hq:q=a
  ·have hq':(q == a)=true:=by simpa using hq
   rw[if_pos hq];simp only[go_sem,h0,h1,hl,ht,hq',hw]
  ·have hq':(q == a)=false:=by simpa using hq
   rw[if_neg hq];simp only[go_sem,h0,h1,hl,ht,hq',hw]
theorem VE.be {e:En} (h:VE e):BE e:=by
 have u1:=gE h.vS;have u2:=gE h.vT;have u3:=tU h.na;have u4:=tU h.nj;have len:∀ {s:Bs},kG s=0->s.length<=50000:=fun {s} hp=>by
  obtain⟨c1,c2,_⟩:=eV (s:=s) (g:=(aM s).1) (b:=(aM s).2.1) (by rw[<- hp];rfl)
  have:=kW (f:=(aM s).1)
  unfold fmE at this;rw[if_pos c1,c2] at this;exact this
 exact⟨by omega,by omega,by omega,by omega,len h.pp,len h.pn,by omega,by omega⟩
theorem LD {k:Nat} {v:Bs} {e:En} (hk:k < 8) (hb:BE e) (hv:v.length<=50000) (h:(cG k v e).1=0):BE (cG k v e).2/\(k < 7->(cG k v e).2.o=e.o):=by
 have hp:∀ h:(aM v).2.2=0,(aM v).1.length<=600/\tot (aM v).1<=50000:=fun h=>by
  have c:=(eV (s:=v) (g:=(aM v).1) (b:=(aM v).2.1) (by rw[<- h])).1
  have:=gE c
  omega
 match k,hk with
 | 0,_=>exact⟨⟨(hp h).1,Nat.le_trans (hp h).2 (by decide),hb.T,hb.tT,hb.p,hb.n,hb.a,hb.j⟩,fun _=>rfl⟩
 | 1,_=>exact⟨⟨hb.S,hb.sT,(hp h).1,Nat.le_trans (hp h).2 (by decide),hb.p,hb.n,hb.a,hb.j⟩,fun _=>rfl⟩
 | 2,_=>exact⟨⟨hb.S,hb.sT,hb.T,hb.tT,hv,hb.n,hb.a,hb.j⟩,fun _=>rfl⟩
 | 3,_=>exact⟨⟨hb.S,hb.sT,hb.T,hb.tT,hb.p,hv,hb.a,hb.j⟩,fun _=>rfl⟩
 | 4,_=>exact⟨⟨hb.S,hb.sT,hb.T,hb.tT,hb.p,hb.n,Nat.le_trans hv (by decide),hb.j⟩,fun _=>rfl⟩
 | 5,_=>exact⟨⟨hb.S,hb.sT,hb.T,hb.tT,hb.p,hb.n,hb.a,Nat.le_trans hv (by decide)⟩,fun _=>rfl⟩
 | 6,_ =>
  have hs:(cG 6 v e).2=(match eZ v 1073741824 with | some n=>if n=0 then ((2:Int),e) else (0,{ e with c:=(n:Int) }) | none=>((2:Int),e)).2:=rfl;rw[hs]
  cases eZ v 1073741824 with
  | none=>exact⟨hb,fun _=>rfl⟩
  | some n =>
   by_cases q:n=0
   ·simp only[if_pos q];exact⟨hb,fun _=>trivial⟩
   ·simp only[if_neg q];exact⟨⟨hb.S,hb.sT,hb.T,hb.tT,hb.p,hb.n,hb.a,hb.j⟩,fun _=>trivial⟩
 | 7,_ =>
  have hs:(cG 7 v e).2=(match idx orn v with | some i=>((0:Int),{ e with o:=(i:Int)+1 }) | none=>((2:Int),e)).2:=rfl;rw[hs]
  cases idx orn v with
  | none=>exact⟨hb,fun q=>absurd q (by decide)⟩
  | some n=>exact⟨⟨hb.S,hb.sT,hb.T,hb.tT,hb.p,hb.n,hb.a,hb.j⟩,fun q=>absurd q (by decide)⟩
structure RK (b x y:Bool) (r:Rd) (last:Bs):Prop where
 e:BE r.e
 o:r.e.o=0
 x:1<=r.k->x=true
 y:2<=r.k->y=true
 l:last=lsK r.m
theorem KD:BE zE:=⟨by decide,by decide,by decide,by decide,by decide,by decide,by decide,by decide⟩
theorem RK.zero (b x y:Bool) (m:List En):RK b x y ⟨m,zE,0⟩ (lsK m):=⟨KD,rfl,fun h=>absurd (show 1<=0 from h) (by decide),fun h=>absurd (show 2<=0 from h) (by decide),rfl⟩
theorem zEB {b x y:Bool} {r:Rd} {last s:Bs} (hs:s.length<=50000) (h:RK b x y r last) (hm:r.m.length<=1000000) :
  ∃ b' x' y' r' last',G0 45 [.ptr 0 0,.str s] [Ro b x y r last]=some (.int .i64 (cQ r s).1,[Ro b' x' y' r' last'])/\((cQ r s).1=0->r'=(cQ r s).2/\RK b' x' y' r' last'/\r'.m.length<=r.m.length+1):=by
 obtain⟨hb,ho,hx,hy,hl⟩:=h;obtain⟨m,e,rk⟩:=r;simp only[] at hb ho hx hy hl hm;subst hl;cases hc:cut 32 s with
 | none =>
  have c1:=sY hc;have hr:cQ ⟨m,e,rk⟩ s=(2,⟨m,e,rk⟩):=by unfold cQ fld;rw[hc];rfl
  have l:=l45 s [] false [Ro b x y ⟨m,e,rk⟩ (lsK m)] 8 0 (-1) rfl;have ec:((0:Nat):Int)=0:=rfl;rw[ec] at l;refine⟨b,x,y,⟨m,e,rk⟩,lsK m,?_,by rw[hr];intro z;cases z⟩;rw[hr];refine aA F45 rfl rfl rfl ?_;simp only[Ro] at l ⊢;simp only[F45,go_sem,c1,u7,l,dW]
 | some p =>
  obtain⟨a,v⟩:=p;have c1:=uQ (by omega) hc;have hv:v.length<=50000:=by
   have:=(cN.1 hc).1
   rw[this,length_append,length_cons] at hs;omega
  have l:=l45 a v true [Ro b x y ⟨m,e,rk⟩ (lsK m)] 8 0 (-1) rfl;have ec:((0:Nat):Int)=0:=rfl;rw[ec] at l;cases hi:idx fnm a with
  | none =>
   rw[R9 hi] at l;have hr:cQ ⟨m,e,rk⟩ s=(2,⟨m,e,rk⟩):=by unfold cQ fld;rw[hc,Option.bind_some,hi];rfl
   refine⟨b,x,y,⟨m,e,rk⟩,lsK m,?_,by rw[hr];intro z;cases z⟩;rw[hr];refine aA F45 rfl rfl rfl ?_;simp only[Ro] at l ⊢;simp only[F45,go_sem,c1,u7,l,dW]
  | some k =>
   have hk:=(List.getElem?_eq_some_iff.1 (tZ hi)).1;have hk:k < 8:=hk;have ha:fnm.getD k []=a:=by rw[getD_eq_getElem?_getD,tZ hi];rfl
   rw[<- ha,SA k hk,ha] at l;have hf:fld s=some (k,v):=by unfold fld;rw[hc,Option.bind_some,hi];rfl
   have f1:=zED b x y ⟨m,e,rk⟩ (lsK m) k;have hn:¬ (k:Int) < 0:=by omega
   have hn2:((k:Int) < 0)=False:=eq_false hn;have hr0:cQ ⟨m,e,rk⟩ s=if may ⟨m,e,rk⟩ k v=true then (if (cG k v e).1≠0 then ((cG k v e).1,⟨m,e,rk⟩) else if k=7 then (iL m (cG k v e).2,⟨m++[(cG k v e).2],zE,0⟩) else (0,⟨m,(cG k v e).2,k+1⟩)) else (2,⟨m,e,rk⟩):=by unfold cQ;rw[hf]
   have hmay:may ⟨m,e,rk⟩ k v=((if rk < 2 then decide (k=rk) else decide (rk<=k)) && !(decide (v=[]) && decide (2<=k))):=rfl;have hve:(v == [])=decide (v=[]):=by cases v<;>rfl
   have hge:((2:Int)<=(k:Int))=(2<=k):=propext (by omega);have f1:G0 76 [.ptr 0 0,.int .i64 k] [Ro b x y ⟨m,e,rk⟩ (lsK m)]=some (.bool (if rk < 2 then decide (k=rk) else decide (rk<=k)),[Ro b x y ⟨m,e,rk⟩ (lsK m)]):=f1;cases hfit:(if rk < 2 then decide (k=rk) else decide (rk<=k)) with
   | false =>
    rw[hfit] at f1 hmay;rw[hmay,Bool.false_and,if_neg (by decide)] at hr0;refine⟨b,x,y,⟨m,e,rk⟩,lsK m,?_,by rw[hr0];intro z;cases z⟩;rw[hr0];refine aA F45 rfl rfl rfl ?_;simp only[Ro] at l f1 ⊢;simp only[F45,go_sem,c1,u7,l,f1,hn,dW,decide_false]
   | true =>
    rw[hfit] at f1 hmay;rw[Bool.true_and] at hmay;by_cases hve0:v=[]/\2<=k
    ·have h2k:(2:Int)<=(k:Int):=by omega
     rw[hmay,decide_eq_true hve0.1,decide_eq_true hve0.2,if_neg (by decide)] at hr0;rw[decide_eq_true hve0.1] at hve;refine⟨b,x,y,⟨m,e,rk⟩,lsK m,?_,by rw[hr0];intro z;cases z⟩;rw[hr0];refine aA F45 rfl rfl rfl ?_;simp only[Ro] at l f1 ⊢;simp only[F45,go_sem,c1,u7,l,f1,hn,hve,h2k,dW,decide_false,decide_true]
    ·have hm1:may ⟨m,e,rk⟩ k v=true:=by
      rw[hmay];by_cases z:v=[]
      ·rw[decide_eq_false (fun q=>hve0 ⟨z,q⟩),Bool.and_false];rfl
      ·rw[decide_eq_false z,Bool.false_and];rfl
     rw[if_pos hm1] at hr0;have f2:=XE b x y m e rk (lsK m) v hv ho k hk;have hrk:k=rk\/(2<=rk/\rk<=k):=by
      by_cases z:rk < 2
      ·rw[if_pos z] at hfit;exact .inl (by simpa using hfit)
      ·rw[if_neg z] at hfit;exact .inr ⟨by omega,by simpa using hfit⟩
     have hpk:∀ (A:Prop),(v=[]/\2<=k->A):=fun A z=>absurd z hve0
     have hguard:(decide (v=[])=true/\¬ (2:Int)<=(k:Int))\/decide (v=[])=false:=by
      by_cases z:v=[]
      ·exact .inl ⟨decide_eq_true z,fun q=>hve0 ⟨z,by omega⟩⟩
      ·exact .inr (decide_eq_false z)
     by_cases he:(cG k v e).1=0
     case neg =>
      rw[if_pos he] at hr0;refine⟨b,(x || decide (k=0)),(y || decide (k=1)),⟨m,(cG k v e).2,rk⟩,lsK m,?_,by rw[hr0];intro z;exact absurd z he⟩;rw[hr0];refine aA F45 rfl rfl rfl ?_;simp only[Ro] at l f1 f2 ⊢;rcases hguard with ⟨z1,z2⟩ | z1
      ·rw[z1] at hve
       simp only[F45,go_sem,c1,u7,l,f1,f2,hn,hve,z2,he,dW,decide_false,decide_true,not_false_eq_true]
      ·rw[z1] at hve
       simp only[F45,go_sem,c1,u7,l,f1,f2,hn,hve,he,dW,decide_false,decide_true,not_false_eq_true]
     rw[if_neg (by simp [he])] at hr0;rw[he] at f2;obtain⟨b1,b2⟩:=LD hk hb hv he;have hw:IntKind.i64.wrap ((k:Int)+1)=((k+1:Nat):Int):=by rw[w64 (by omega) (by omega)];rfl
     by_cases h7:k=7
     ·subst h7
      have hx1:x=true:=hx (by omega);have hy1:y=true:=hy (by omega);subst hx1;subst hy1;have f3:=kEnd b m (cG 7 v e).2 8 b1 hm;rw[if_pos rfl] at hr0;have e7:((7:Nat):Int)=7:=rfl;have e8:((7+1:Nat):Int)=8:=rfl;have e8':((8:Nat):Int)=8:=rfl;have hn7:¬ (7:Int) < 0:=by decide
      rw[e7] at l f1 f2 hguard;by_cases hbz:iL m (cG 7 v e).2=0
      ·rw[hbz,if_pos rfl] at f3
       rw[hbz] at hr0;refine⟨true,true,true,⟨m++[(cG 7 v e).2],zE,0⟩,aG (cG 7 v e).2,?_,fun _=>?_⟩;rw[hr0];refine aA F45 rfl rfl rfl ?_;simp only[Ro,e8',ec] at l f1 f2 f3 ⊢;rcases hguard with ⟨z1,z2⟩ | z1
       ·rw[z1] at hve
        simp only[F45,go_sem,c1,u7,l,f1,f2,f3,hn7,hve,z2,e8,dW,decide_false,decide_true,not_true_eq_false,Bool.true_or]
       ·rw[z1] at hve
        simp only[F45,go_sem,c1,u7,l,f1,f2,f3,hn7,hve,e8,dW,decide_false,decide_true,not_true_eq_false,Bool.true_or]
       rw[hr0];refine⟨rfl,?_,?_⟩
       ·rw[<- UI m];exact RK.zero _ _ _ _
       ·show (m++[(cG 7 v e).2]).length<=m.length+1
        simp
      ·rw[if_neg hbz] at f3
       refine⟨b,true,true,⟨m,(cG 7 v e).2,8⟩,lsK m,?_,by rw[hr0];intro z;exact absurd z hbz⟩;rw[hr0];refine aA F45 rfl rfl rfl ?_;simp only[Ro,e8',ec] at l f1 f2 f3 ⊢;rcases hguard with ⟨z1,z2⟩ | z1
       ·rw[z1] at hve
        simp only[F45,go_sem,c1,u7,l,f1,f2,f3,hn7,hve,z2,e8,dW,decide_false,decide_true,not_true_eq_false,Bool.true_or]
       ·rw[z1] at hve
        simp only[F45,go_sem,c1,u7,l,f1,f2,f3,hn7,hve,e8,dW,decide_false,decide_true,not_true_eq_false,Bool.true_or]
     ·rw[if_neg h7] at hr0
      have h7':¬ (k:Int)=7:=by omega
      refine⟨b,(x || decide (k=0)),(y || decide (k=1)),⟨m,(cG k v e).2,k+1⟩,lsK m,?_,fun _=>?_⟩
      ·rw[hr0]
       refine aA F45 rfl rfl rfl ?_;simp only[Ro] at l f1 f2 ⊢;rcases hguard with ⟨z1,z2⟩ | z1
       ·rw[z1] at hve
        simp only[F45,go_sem,c1,u7,l,f1,f2,hn,hve,z2,hw,h7',dW,decide_false,decide_true,not_true_eq_false]
       ·rw[z1] at hve
        simp only[F45,go_sem,c1,u7,l,f1,f2,hn,hve,hw,h7',dW,decide_false,decide_true,not_true_eq_false]
      ·rw[hr0]
       refine⟨rfl,⟨b1,(b2 (by omega)).trans ho,fun q=>?_,fun q=>?_,rfl⟩,Nat.le_succ _⟩
       ·rcases hrk with z | z
        ·by_cases z0:k=0
         ·simp [z0]
         ·rw[hx (by omega)];rfl
        ·rw[hx (by omega)];rfl
       ·have q:2<=k+1:=q
        rcases hrk with z | z
        ·by_cases z0:k=1
         ·simp [z0]
         ·rw[hy (by omega)];rfl
        ·rw[hy (by omega)];rfl
end Go.Av
namespace Go.Av
open Go.Nt
theorem lp21 (cnt:Int):∀ (d:Nat) (rest:Bs) (b x y:Bool) (r:Rd) (last:Bs) (n:Nat),rest.length<=d->rest.length<=50000->RK b x y r last->r.m.length+rest.length<=100000->n+rest.length<=100000 ->
  (((cK (lns rest).1 r n).1=0/\(lns rest).2=[]->∃ b' x' y' last',aC G0 tJ (ST [(3,.int .i64 n),(6,.str rest),(10,.int .i64 cnt),(12,.ptr 0 0),(17,.bool false),(43,.bool false)] [] [Ro b x y r last])=some (.ex 0,ST [(3,.int .i64 (cK (lns rest).1 r n).2.1),(6,.str []),(10,.int .i64 cnt),(12,.ptr 0 0),(17,.bool false),(43,.bool false),(47,.bool false)] [] [Ro b' x' y' (cK (lns rest).1 r n).2.2 last'])/\(cK (lns rest).1 r n).2.1<=100000) /\
   (¬ ((cK (lns rest).1 r n).1=0/\(lns rest).2=[])->∃ l' sh',aC G0 tJ (ST [(3,.int .i64 n),(6,.str rest),(10,.int .i64 cnt),(12,.ptr 0 0),(17,.bool false),(43,.bool false)] [] [Ro b x y r last])=some (.ret,ST l' [] sh')/\aE .any l' 2=.sl .full 8 []/\aE .any l' 3=.int .i64 (if (cK (lns rest).1 r n).1≠0 then ((cK (lns rest).1 r n).2.1:Int) else ((cK (lns rest).1 r n).2.1:Int)+1)/\aE .any l' 4=.int .i64 (if (cK (lns rest).1 r n).1≠0 then (cK (lns rest).1 r n).1 else 2)))
 | d,rest,b,x,y,r,last,n,hd,hl,hk,hm,hn=>by
  by_cases h0:rest=[]
  ·subst h0
   refine⟨fun _=>⟨b,x,y,last,?_,by show n<=100000;omega⟩,fun h=>absurd ⟨rfl,rfl⟩ h⟩;rw[aB (L:=tJ) rfl];simp only[go_sem,lns,cK]
  have hne:(rest != [])=true:=by simpa using h0
  have hw:IntKind.i64.wrap ((n:Int)+1)=((n+1:Nat):Int):=by rw[w64 (by omega) (by omega)];rfl
  cases hc:cut 10 rest with
  | none =>
   have c1:=sY hc;have hq:=zG hc;rw[hq];refine⟨fun h=>absurd h.2 h0,fun _=>?_⟩;refine Exists.intro ?_ (Exists.intro ?_ (And.intro ?_ ?_))
   rotate_left 2
   ·rw[aB (L:=tJ) rfl]
    simp only[go_sem,hne,c1,hw];rfl
   ·refine⟨rfl,?_,?_⟩
    ·show AV.int .i64 ((n+1:Nat):Int)=.int .i64 ((n:Int)+1)
     rfl
    ·rfl
  | some p =>
   obtain⟨t,w⟩:=p;have c1:=uQ (by omega) hc;have hs:=(cN.1 hc).1;have hlen:rest.length=t.length+1+w.length:=by rw[hs,length_append,length_cons];omega
   obtain⟨b',x',y',r',last',k1,k2⟩:=zEB (s:=t) (by omega) hk (by omega);rw[G7 hc,AO];by_cases he:(cQ r t).1=0
   ·obtain⟨q1,q2,q3⟩:=k2 he
    subst q1;rw[he] at k1
    match d,hd with
    | 0,hd=>exact absurd hd (by omega)
    | d'+1,hd =>
     have ih:=lp21 cnt d' w b' x' y' (cQ r t).2 last' (n+1) (by omega) (by omega) q2 (by omega) (by omega);rw[if_neg (by simp [he])];have step:aC G0 tJ (ST [(3,.int .i64 n),(6,.str rest),(10,.int .i64 cnt),(12,.ptr 0 0),(17,.bool false),(43,.bool false)] [] [Ro b x y r last])=aC G0 tJ (ST [(3,.int .i64 ((n+1:Nat):Int)),(6,.str w),(10,.int .i64 cnt),(12,.ptr 0 0),(17,.bool false),(43,.bool false)] [] [Ro b' x' y' (cQ r t).2 last']):=by
      conv=>lhs;rw[aB (L:=tJ) rfl]
      simp only[Ro] at k1 ⊢;simp only[go_sem,hne,c1,hw,k1,dW,not_true_eq_false,decide_false]
     rw[step];exact ih
   ·rw[if_pos he]
    refine⟨fun h=>absurd h.1 he,fun _=>?_⟩;refine Exists.intro ?_ (Exists.intro ?_ (And.intro ?_ ?_))
    rotate_left 2
    ·rw[aB (L:=tJ) rfl]
     simp only[Ro] at k1 ⊢;simp only[go_sem,hne,c1,hw,k1,dW,he,not_false_eq_true,decide_true,decide_false];rfl
    ·refine⟨rfl,?_,?_⟩
     ·rw[if_pos he];rfl
     ·rw[if_pos he];rfl
def DK (n:Nat) (rr:Bs) (q:Int × Nat × Rd):List En × Nat × Int:=if q.1≠0 then ([],q.2.1,q.1) else if rr≠[]\/q.2.2.k≠0 then ([],q.2.1+1,2) else if q.2.2.m.length≠n then ([],1,2) else (q.2.2.m,0,0)
def pL (h:Bs) (ls:List Bs) (rr:Bs):List En × Nat × Int:=match hdN h with
 | none=>([],1,2)
 | some n=>DK n rr (cK ls ⟨[],zE,0⟩ 1)
theorem WC {s h rr:Bs} {ls:List Bs} (hs:s.length<=1048576) (hl:lns s=(h :: ls,rr)):pM s=pL h ls rr:=by
 unfold pM pL;rw[if_neg (by omega),hl]
 cases e:hdN h with
 | none=>simp only[e]
 | some n=>simp only[e,DK]
theorem WB {s rr:Bs} (hs:s.length<=1048576) (hl:lns s=([],rr)):pM s=([],1,2):=by
 unfold pM;rw[if_neg (by omega),hl]
theorem QX {h rr:Bs} {ls:List Bs} (e:hdN h=none):pL h ls rr=([],1,2):=by unfold pL;rw[e]
theorem pL_s {h rr:Bs} {ls:List Bs} {n:Nat} (e:hdN h=some n):pL h ls rr=DK n rr (cK ls ⟨[],zE,0⟩ 1):=by unfold pL;rw[e]
theorem E7 (s:Bs) (hs:s.length<=50000):G0 21 [.str s] []=some (.tup [.sl .no 8 (ens (pM s).1),.int .i64 ((pM s).2.1:Nat),.int .i64 (pM s).2.2],[]):=by
 have hz:¬ (1048576:Int) < (s.length:Int):=by omega
 have e1:(((1:Nat)):Int)=1:=rfl;have e0:(((0:Nat)):Int)=0:=rfl;have ec:((1024:Nat):Int)=1024:=rfl;have en:ens []=[]:=rfl;refine aA F21 rfl rfl rfl ?_;cases hc:cut 10 s with
 | none =>
  have c1:=sY hc;rw[WB (by omega) (zG hc)];obtain⟨p1,p2⟩:=UM s hdB;obtain⟨k,b,g1,g2,_⟩:=M1 s 1024;cases ha:after hdB s with
  | none =>
   have p2:=p2 ha;rw[ec] at g1;simp only[hdB] at p2;simp only[F21,go_sem,hz,c1,p2,g1,e1,en]
  | some v =>
   have p1:=p1 v ha;obtain⟨k,b,g1,g2,_⟩:=M1 v 1024;rw[ec] at g1;simp only[hdB] at p1;simp only[F21,go_sem,hz,c1,p1,g1,e1,en]
 | some p =>
  obtain⟨t,w⟩:=p;have c1:=uQ (by omega) hc;have hsq:=(cN.1 hc).1;have hlen:s.length=t.length+1+w.length:=by rw[hsq,length_append,length_cons];omega
  obtain⟨p1,p2⟩:=UM t hdB;rw[WC (by omega) (G7 hc)];cases ha:after hdB t with
  | none =>
   have p2:=p2 ha;have hh:hdN t=none:=by unfold hdN;rw[ha];rfl
   obtain⟨k,b,g1,g2,_⟩:=M1 t 1024;rw[ec] at g1;simp only[hdB] at p2;rw[QX hh];simp only[F21,go_sem,hz,c1,p2,g1,e1,en]
  | some v =>
   have p1:=p1 v ha;have hh:hdN t=eZ v 1024:=by unfold hdN;rw[ha];rfl
   obtain⟨k,b,g1,g2,g3⟩:=M1 v 1024;rw[ec] at g1;simp only[hdB] at p1;cases hn:eZ v 1024 with
   | none =>
    rw[hn] at g2 hh;rw[QX hh];have g2:b=false:=g2;subst g2;simp only[F21,go_sem,hz,c1,p1,g1,e1,en]
   | some cn =>
    rw[hn] at g2 hh;rw[pL_s hh];unfold DK;have g2:b=true:=g2;subst g2;have g3:=g3 cn hn;subst g3;obtain⟨x1,x2⟩:=lp21 cn w.length w false false false ⟨[],zE,0⟩ [] 1 (Nat.le_refl _) (by omega) (RK.zero _ _ _ []) (by simp;omega) (by omega);have r0:Ro false false false ⟨[],zE,0⟩ []=[.sl .full 8 [],.sl .full 3 [],.sl .full 3 [],.str [],.str [],.str [],.str [],.int .i64 0,.int .i64 0,.str [],.int .i64 0]:=rfl;rw[r0,e1] at x1 x2;by_cases hq:(cK (lns w).1 ⟨[],zE,0⟩ 1).1=0/\(lns w).2=[]
    ·obtain⟨b',x',y',last',y1,y2⟩:=x1 hq
     rw[if_neg (by simp [hq.1])];generalize cK (lns w).1 ⟨[],zE,0⟩ 1=q at hq y1 y2 ⊢;obtain⟨qe,qn,qm,qE,qk⟩:=q;simp only[] at hq y1 y2 ⊢;rw[hq.2];simp only[Ro] at y1;by_cases h1:qk=0
     ·have h1':(qk:Int)=0:=by omega
      rw[if_neg (by simp [h1])];by_cases h2:qm.length=cn
      ·have h2':(qm.length:Int)=(cn:Int):=by omega
       rw[if_neg (by simp [h2])];simp only[F21,go_sem,hz,c1,p1,g1,y1,h1',h2',bP,dA,cE,aK,e0,not_true_eq_false,decide_false]
      ·have h2':¬ (qm.length:Int)=(cn:Int):=by omega
       rw[if_pos h2];simp only[F21,go_sem,hz,c1,p1,g1,y1,h1',h2',bP,dA,cE,aK,e1,en,not_true_eq_false,not_false_eq_true,decide_true,decide_false]
     ·have h1':¬ (qk:Int)=0:=by omega
      have hw:IntKind.i64.wrap ((qn:Int)+1)=((qn+1:Nat):Int):=by rw[w64 (by omega) (by omega)];rfl
      rw[if_pos (.inr h1)];simp only[F21,go_sem,hz,c1,p1,g1,y1,h1',hw,en,not_false_eq_true,decide_true]
    ·obtain⟨l',sh',y1,y2,y3,y4⟩:=x2 hq
     simp only[F21,go_sem,hz,c1,p1,g1,y1,y2,y3,y4];by_cases hq1:(cK (lns w).1 ⟨[],zE,0⟩ 1).1=0
     ·have hq2:(lns w).2≠[]:=fun z=>hq ⟨hq1,z⟩
      rw[if_neg (by simp [hq1]),if_neg (by simp [hq1]),if_neg (by simp [hq1]),if_pos (.inl hq2)];rfl
     ·rw[if_pos hq1,if_pos hq1,if_pos hq1]
      rfl
end Go.Av
namespace Go.Av
open Go.Nt
def Oe (x y:Bool) (e:En):List AV:=[.sl (mdn x) 3 (tks e.S),.sl (mdn y) 3 (tks e.T),.str e.p,.str e.n,.str e.a,.str e.j,.int .i64 e.c,.int .i64 e.o]
theorem iC (m2 m3:Own) (l2 l3:LL) (a b c d:Bs) (i j:Int):eY false 1 [[.sl m2 3 l2,.sl m3 3 l3,.str a,.str b,.str c,.str d,.int .i64 i,.int .i64 j]]=true:=rfl
theorem YP:G0 71 [] []=some (.sl .no 1 (cP orn),[]):=by
 refine aA F71 rfl rfl rfl ?_;have e:iE 1 [.str []] 3 [0,1,2] [.str [104,117,109,97,110],.str [97,108,105,103,110,101,100],.str [109,97,99,104,105,110,101]]=some (.sl .full 1 (cP orn)):=rfl;simp only[F71,go_sem,e]
theorem c40':G0 40 [] []=some (.sl .no 1 (cP fnm),[]):=by
 refine aA F40 rfl rfl rfl ?_;have e:iE 1 [.str []] 8 [0,1,2,3,4,5,6,7] [.str [115,111,117,114,99,101],.str [116,97,114,103,101,116],.str [112,114,101,118,105,111,117,115],.str [110,101,120,116],.str [97,117,116,104,111,114],.str [112,114,111,106,101,99,116],.str [99,114,101,97,116,101,100],.str [111,114,105,103,105,110]]=some (.sl .full 1 (cP fnm)):=rfl;simp only[F40,go_sem,e]
def sE (k:Nat) (v:Bs) (e:En):Int:=if v=[]/\2<=k then 2 else (cG k v e).1
theorem lp73 (x y:Bool) (e:En) (k v:AV) (w:Bs) (hv:v=.str w):∀ (d i:Nat),i+d=3 ->
  (∀ j,idx (orn.drop i) w=some j->∃ l',aC G0 uU (ST [(0,.ptr 0 0),(1,.int .i64 7),(2,.str w),(15,.bool false),(55,.bool false),(70,.bool false),(87,.sl .no 1 (cP orn)),(88,.int .i64 3),(89,.int .i64 i)] [] [Oe x y e])=some (.ret,ST l' [] [Oe x y { e with o:=((i+j:Nat):Int)+1 }])/\aE .any l' 6=.int .i64 0) /\
  (idx (orn.drop i) w=none->aC G0 uU (ST [(0,.ptr 0 0),(1,.int .i64 7),(2,.str w),(15,.bool false),(55,.bool false),(70,.bool false),(87,.sl .no 1 (cP orn)),(88,.int .i64 3),(89,.int .i64 i)] [] [Oe x y e])=some (.ex 2,ST [(0,.ptr 0 0),(1,.int .i64 7),(2,.str w),(15,.bool false),(55,.bool false),(70,.bool false),(87,.sl .no 1 (cP orn)),(88,.int .i64 3),(89,.int .i64 3),(90,.bool false)] [] [Oe x y e]))
 | 0,i,h=>by
  have:i=3:=by omega
  subst this;refine⟨fun j hj=>(by cases hj),fun _=>?_⟩;have ec:((3:Nat):Int)=3:=rfl;rw[aB (L:=uU) rfl];simp only[go_sem,ec,Int.lt_irrefl]
 | d+1,i,h=>by
  have hi:i < 3:=by omega
  have h0:(0:Int)<=(i:Int):=by omega
  have h1:(i:Int) < 3:=by omega
  have hw:=wI (i:=i) (by omega)
  have hw2:IntKind.i64.wrap ((i:Int)+1)=(i:Int)+1:=by rw[w64 (by omega) (by omega)]
  have hl:i < orn.length:=hi;have hg:orn[i]?=some orn[i]:=getElem?_eq_getElem hl;have hd:orn.drop i=orn[i] :: orn.drop (i+1):=drop_eq_getElem_cons hl;generalize orn[i]=q at hg hd;have hr:=eW hg;have ih:=lp73 x y e k v w hv d (i+1) (by omega);rw[hd];unfold idx;by_cases hq:q=w
  ·have hq':(q == w)=true:=by simpa using hq
   rw[if_pos hq];refine⟨fun j hj=>?_,fun z=>(by cases z)⟩;cases hj;refine Exists.intro ?_ (And.intro ?_ ?_)
   rotate_left 1
   ·rw[aB (L:=uU) rfl]
    simp only[go_sem,Oe,h0,h1,hr,hq',hw2,Nat.add_zero];rfl
   ·rfl
  ·have hq':(q == w)=false:=by simpa using hq
   rw[if_neg hq];have step:aC G0 uU (ST [(0,.ptr 0 0),(1,.int .i64 7),(2,.str w),(15,.bool false),(55,.bool false),(70,.bool false),(87,.sl .no 1 (cP orn)),(88,.int .i64 3),(89,.int .i64 i)] [] [Oe x y e])=aC G0 uU (ST [(0,.ptr 0 0),(1,.int .i64 7),(2,.str w),(15,.bool false),(55,.bool false),(70,.bool false),(87,.sl .no 1 (cP orn)),(88,.int .i64 3),(89,.int .i64 ((i+1:Nat):Int))] [] [Oe x y e]):=by
    conv=>lhs;rw[aB (L:=uU) rfl]
    simp only[go_sem,h0,h1,hr,hq',hw]
   rw[step];refine⟨fun j hj=>?_,fun z=>ih.2 (by simpa using z)⟩;obtain⟨j',h2,rfl⟩:=Option.map_eq_some_iff.1 hj
   have:=ih.1 j' h2
   rwa [show i+1+j'=i+(j'+1) by omega] at this
theorem kSet (x y:Bool) (e:En) (v:Bs) (hv:v.length<=50000) (k:Nat) (hk:k < 8) :
  ∃ e' x' y',G0 73 [.ptr 0 0,.int .i64 k,.str v] [Oe x y e]=some (.int .i64 (sE k v e),[Oe x' y' e'])/\(sE k v e=0->e'=(cG k v e).2/\x'=(x || decide (k=0))/\y'=(y || decide (k=1))):=by
 have p:=c36 v hv;have mT:mdn true=.no:=rfl;have hvb:(v == [])=decide (v=[]):=by cases v<;>rfl
 have hset4:∀ k,k < 4->(cG k v e).1=if k < 2 then (aM v).2.2 else (aM v).2.2:=fun k hk=>by
  match k,hk with
  | 0,_ | 1,_ | 2,_ | 3,_=>rfl
 match k,hk with
 | 0,_ =>
  have hs:sE 0 v e=(aM v).2.2:=by unfold sE;rw[if_neg (by omega)];rfl
  by_cases q:(aM v).2.2=0
  ·refine⟨_,_,_,?_,fun _=>⟨rfl,rfl,rfl⟩⟩
   rw[hs];refine aA F73 rfl rfl rfl ?_;simp only[F73,go_sem,Oe,p,q,iC,cG,Bool.or_true,Bool.or_false,mT,not_true_eq_false,decide_false]
  ·refine⟨e,x,y,?_,fun z=>absurd (hs.symm.trans z) q⟩
   rw[hs];refine aA F73 rfl rfl rfl ?_;simp only[F73,go_sem,Oe,p,q,iC,not_false_eq_true,decide_true]
 | 1,_ =>
  have hs:sE 1 v e=(aM v).2.2:=by unfold sE;rw[if_neg (by omega)];rfl
  by_cases q:(aM v).2.2=0
  ·refine⟨_,_,_,?_,fun _=>⟨rfl,rfl,rfl⟩⟩
   rw[hs];refine aA F73 rfl rfl rfl ?_;simp only[F73,go_sem,Oe,p,q,iC,cG,Bool.or_true,Bool.or_false,mT,not_true_eq_false,decide_false]
  ·refine⟨e,x,y,?_,fun z=>absurd (hs.symm.trans z) q⟩
   rw[hs];refine aA F73 rfl rfl rfl ?_;simp only[F73,go_sem,Oe,p,q,iC,not_false_eq_true,decide_true]
 | 2,_ =>
  by_cases z0:v=[]
  ·have hs:sE 2 v e=2:=by unfold sE;rw[if_pos ⟨z0,by decide⟩]
   rw[decide_eq_true z0] at hvb;refine⟨e,x,y,?_,fun z=>(by rw[hs] at z;cases z)⟩;rw[hs];refine aA F73 rfl rfl rfl ?_;simp only[F73,go_sem,Oe,hvb,iC]
  rw[decide_eq_false z0] at hvb;have hs:sE 2 v e=(aM v).2.2:=by unfold sE;rw[if_neg (fun z=>z0 z.1)];rfl
  by_cases q:(aM v).2.2=0
  ·refine⟨_,_,_,?_,fun _=>⟨rfl,rfl,rfl⟩⟩
   rw[hs];refine aA F73 rfl rfl rfl ?_;simp only[F73,go_sem,Oe,p,q,hvb,iC,cG,Bool.or_true,Bool.or_false,mT,not_true_eq_false,decide_false]
  ·refine⟨e,x,y,?_,fun z=>absurd (hs.symm.trans z) q⟩
   rw[hs];refine aA F73 rfl rfl rfl ?_;simp only[F73,go_sem,Oe,p,q,hvb,iC,not_false_eq_true,decide_true]
 | 3,_ =>
  by_cases z0:v=[]
  ·have hs:sE 3 v e=2:=by unfold sE;rw[if_pos ⟨z0,by decide⟩]
   rw[decide_eq_true z0] at hvb;refine⟨e,x,y,?_,fun z=>(by rw[hs] at z;cases z)⟩;rw[hs];refine aA F73 rfl rfl rfl ?_;simp only[F73,go_sem,Oe,hvb,iC]
  rw[decide_eq_false z0] at hvb;have hs:sE 3 v e=(aM v).2.2:=by unfold sE;rw[if_neg (fun z=>z0 z.1)];rfl
  by_cases q:(aM v).2.2=0
  ·refine⟨_,_,_,?_,fun _=>⟨rfl,rfl,rfl⟩⟩
   rw[hs];refine aA F73 rfl rfl rfl ?_;simp only[F73,go_sem,Oe,p,q,hvb,iC,cG,Bool.or_true,Bool.or_false,mT,not_true_eq_false,decide_false]
  ·refine⟨e,x,y,?_,fun z=>absurd (hs.symm.trans z) q⟩
   rw[hs];refine aA F73 rfl rfl rfl ?_;simp only[F73,go_sem,Oe,p,q,hvb,iC,not_false_eq_true,decide_true]
 | 4,_ =>
  by_cases z0:v=[]
  ·have hs:sE 4 v e=2:=by unfold sE;rw[if_pos ⟨z0,by decide⟩]
   rw[decide_eq_true z0] at hvb;refine⟨e,x,y,?_,fun z=>(by rw[hs] at z;cases z)⟩;rw[hs];refine aA F73 rfl rfl rfl ?_;simp only[F73,go_sem,Oe,hvb,iC]
  rw[decide_eq_false z0] at hvb;have hs:sE 4 v e=0:=by unfold sE;rw[if_neg (fun z=>z0 z.1)];rfl
  refine⟨_,_,_,?_,fun _=>⟨rfl,rfl,rfl⟩⟩;rw[hs];refine aA F73 rfl rfl rfl ?_;simp only[F73,go_sem,Oe,hvb,iC,cG,Bool.or_false]
 | 5,_ =>
  by_cases z0:v=[]
  ·have hs:sE 5 v e=2:=by unfold sE;rw[if_pos ⟨z0,by decide⟩]
   rw[decide_eq_true z0] at hvb;refine⟨e,x,y,?_,fun z=>(by rw[hs] at z;cases z)⟩;rw[hs];refine aA F73 rfl rfl rfl ?_;simp only[F73,go_sem,Oe,hvb,iC]
  rw[decide_eq_false z0] at hvb;have hs:sE 5 v e=0:=by unfold sE;rw[if_neg (fun z=>z0 z.1)];rfl
  refine⟨_,_,_,?_,fun _=>⟨rfl,rfl,rfl⟩⟩;rw[hs];refine aA F73 rfl rfl rfl ?_;simp only[F73,go_sem,Oe,hvb,iC,cG,Bool.or_false]
 | 6,_ =>
  obtain⟨n,bb,g1,g2,g3⟩:=XA v 1073741824;have ec:((1073741824:Nat):Int)=1073741824:=rfl;rw[ec] at g1;have hs0:cG 6 v e=(match eZ v 1073741824 with | some n=>if n=0 then ((2:Int),e) else (0,{ e with c:=(n:Int) }) | none=>((2:Int),e)):=rfl;have hs:sE 6 v e=(cG 6 v e).1:=by
   unfold sE;by_cases z:v=[]
   ·subst z;rfl
   ·rw[if_neg (fun q=>z q.1)]
  cases hn:eZ v 1073741824 with
  | none =>
   rw[hn] at g2 hs0;have g2:bb=false:=g2;subst g2;refine⟨e,x,y,?_,fun z=>(by rw[hs,hs0] at z;cases z)⟩;rw[hs,hs0];refine aA F73 rfl rfl rfl ?_;simp only[F73,go_sem,Oe,g1,iC]
  | some k =>
   rw[hn] at g2 hs0;have g2:bb=true:=g2;subst g2;have g3:=g3 k hn;subst g3;by_cases q:k=0
   ·subst q
    have q':(((0:Nat):Int) == 0)=true:=rfl;refine⟨e,x,y,?_,fun z=>(by rw[hs,hs0] at z;cases z)⟩;rw[hs,hs0];refine aA F73 rfl rfl rfl ?_;simp only[F73,go_sem,Oe,g1,iC,q',if_true]
   ·have q':¬ (k:Int)=0:=by omega
    refine⟨(cG 6 v e).2,x,y,?_,fun _=>⟨rfl,by simp,by simp⟩⟩;rw[hs,hs0];refine aA F73 rfl rfl rfl ?_;simp only[F73,go_sem,Oe,g1,iC,cL,q,q',decide_false,if_false]
 | 7,_ =>
  have hs0:cG 7 v e=(match idx orn v with | some i=>((0:Int),{ e with o:=(i:Int)+1 }) | none=>((2:Int),e)):=rfl;have hs:sE 7 v e=(cG 7 v e).1:=by
   unfold sE;by_cases z:v=[]
   ·subst z;rfl
   ·rw[if_neg (fun q=>z q.1)]
  have ec:((0:Nat):Int)=0:=rfl;obtain⟨l1,l2⟩:=lp73 x y e (.int .i64 7) (.str v) v rfl 3 0 rfl;rw[drop_zero] at l1 l2;have hl:(cP orn).length=3:=rfl;cases hi:idx orn v with
  | none =>
   rw[hi] at hs0;have l2:=l2 hi;rw[ec] at l2;refine⟨e,x,y,?_,fun z=>(by rw[hs,hs0] at z;cases z)⟩;rw[hs,hs0];refine aA F73 rfl rfl rfl ?_;simp only[Oe] at l2 ⊢;simp only[F73,go_sem,YP,hl,l2,iC]
  | some j =>
   rw[hi] at hs0;obtain⟨l',y1,y2⟩:=l1 j hi;rw[ec,Nat.zero_add] at y1;refine⟨(cG 7 v e).2,x,y,?_,fun _=>⟨rfl,by simp,by simp⟩⟩;rw[hs,hs0];refine aA F73 rfl rfl rfl ?_;simp only[Oe] at y1 ⊢;simp only[F73,go_sem,YP,hl,y1,y2,iC]
end Go.Av
namespace Go.Av
open Go.Nt
theorem E8 (l:List Bs):l.length<=(jn l).length:=by
 induction l with
 | nil=>exact Nat.le_refl _
 | cons a l ih=>rw[kU,length_append,length_cons,length_cons];omega
theorem jn_s (l:List Bs) (s:Bs):jn (l++[s])=jn l++(s++[10]):=by rw[xD];simp [jn]
theorem l20 (s:Bs) (hs:s.length<=1000000):∀ (w:Bs) (b:Bool) (ls:List Bs) (rr:Bs),s=jn ls++(rr++w)->(∀ l∈ls,(10:UInt8) ∉ l)->(10:UInt8) ∉ rr ->
  ∃ b',aC G0 DZ (ST [(0,.str s),(2,.sl (md b) 1 (cP ls)),(4,.int .i64 (jn ls).length),(5,.int .i64 ((jn ls).length+rr.length:Nat))] [] [])=some (.ex 0,ST [(0,.str s),(2,.sl (md b') 1 (cP (lns s).1)),(4,.int .i64 (jn (lns s).1).length),(5,.int .i64 s.length),(9,.bool false)] [] [])
 | [],b,ls,rr,h,h1,h2=>by
  have hl:s.length=(jn ls).length+rr.length:=by rw[h];simp
  have e:=A1 h1 h2;rw[show jn ls++rr=s by rw[h];simp] at e;rw[e,<- hl];refine⟨b,?_⟩;rw[aB (L:=DZ) rfl];simp only[go_sem,Int.lt_irrefl]
 | c :: w,b,ls,rr,h,h1,h2=>by
  have hl:s.length=(jn ls).length+rr.length+1+w.length:=by rw[h];simp;omega
  have h3:(((jn ls).length+rr.length:Nat):Int) < (s.length:Int):=by omega
  have h0:(0:Int)<=(((jn ls).length+rr.length:Nat):Int):=by omega
  have h5:s[(jn ls).length+rr.length]?=some c:=by rw[h,<- append_assoc,getElem?_append_right (by simp)];simp
  have hw:IntKind.i64.wrap ((((jn ls).length+rr.length:Nat):Int)+1)=(((jn ls).length+rr.length+1:Nat):Int):=by rw[w64 (by omega) (by omega)];rfl
  by_cases q:c=10
  ·have q':((c.toNat:Int)=10)=True:=eq_true (by rw[q];rfl)
   obtain⟨b',ih⟩:=l20 s hs w true (ls++[rr]) [] (by rw[h,q,jn_s];simp) (fun l hm=>by
    rcases mem_append.1 hm with z | z
    ·exact h1 l z
    ·rw[mem_singleton.1 z];exact h2) (by simp)
   have hj:(jn (ls++[rr])).length=(jn ls).length+rr.length+1:=by rw[jn_s];simp;omega
   rw[hj] at ih;refine⟨b',?_⟩;have g1:(0:Int)<=((jn ls).length:Int):=by omega
   have g2:((jn ls).length:Int)<=(((jn ls).length+rr.length:Nat):Int):=by omega
   have g3:(((jn ls).length+rr.length:Nat):Int)<=(s.length:Int):=by omega
   have g4:(s.take ((jn ls).length+rr.length)).drop (jn ls).length=rr:=by
    rw[h,<- append_assoc,show (jn ls).length+rr.length=(jn ls++rr).length by simp,take_left',drop_left']
    ·rfl
    ·rfl
   have ha:=OE b ls rr (by have:=E8 ls;omega);rw[<- ih]
   conv=>lhs;rw[aB (L:=DZ) rfl]
   simp only[go_sem,h3,h5,h0,q',g1,g2,g3,g4,ha,hw,cL,bP,decide_true];rfl
  ·have q':¬ (c.toNat:Int)=10:=fun z=>q (by
    have:c.toNat=(10:UInt8).toNat:=by have:(10:UInt8).toNat=10:=rfl;omega
    exact UInt8.toNat_inj.1 this)
   obtain⟨b',ih⟩:=l20 s hs w b ls (rr++[c]) (by rw[h];simp) h1 (fun hm=>by
    rcases mem_append.1 hm with z | z
    ·exact h2 z
    ·exact q (mem_singleton.1 z).symm)
   have e1:((jn ls).length+(rr++[c]).length:Nat)=(jn ls).length+rr.length+1:=by simp;omega
   rw[e1] at ih;refine⟨b',?_⟩;rw[<- ih]
   conv=>lhs;rw[aB (L:=DZ) rfl]
   simp only[go_sem,h3,h5,h0,q',hw,cL,decide_false]
def lnR (s:Bs):List Bs:=(lns s).1++if (lns s).2=[] then [] else [(lns s).2]
theorem XD (s:Bs) (hs:s.length<=1000000):G0 20 [.str s] []=some (.tup [.sl .no 1 (cP (lnR s)),.bool (decide ((lns s).2=[]))],[]):=by
 obtain⟨b,h⟩:=l20 s hs s false [] [] rfl (by simp) (by simp);have e0:((jn []).length:Int)=0:=rfl;have e1:(((jn []).length+([]:Bs).length:Nat):Int)=0:=rfl;have e2:md false=.full:=rfl;have e3:cP []=[]:=rfl;rw[e0,e1,e2,e3] at h;have hj:=sK s;have hl:s.length=(jn (lns s).1).length+(lns s).2.length:=by rw[<- length_append,hj]
 have g1:(0:Int)<=((jn (lns s).1).length:Int):=by omega
 have g2:((jn (lns s).1).length:Int)<=(s.length:Int):=by omega
 have g4:s.drop (jn (lns s).1).length=(lns s).2:=by
  generalize (lns s).1=p at *;generalize (lns s).2=t at *;rw[<- hj];exact drop_left
 refine aA F20 rfl rfl rfl ?_;unfold lnR;generalize (lns s).1=p at *;generalize (lns s).2=t at *;by_cases q:t=[]
 ·subst q
  have g3:¬ ((jn p).length:Int) < (s.length:Int):=by have:([]:Bs).length=0:=rfl;omega
  rw[if_pos rfl,decide_eq_true rfl,append_nil];simp only[F20,go_sem,h,g3,bP,dA]
 ·have g3:((jn p).length:Int) < (s.length:Int):=by
   have:t.length≠0:=fun z=>q (length_eq_zero_iff.1 z)
   omega
  have ha:=OE b p t (by have:=E8 p;omega);rw[if_neg q,decide_eq_false q];simp only[F20,go_sem,h,g1,g2,g3,g4,ha,bP,dA]
end Go.Av
namespace Go.Av
open Go.Nt
def aft (t:Bs) (i:Nat):Option Bs:=after (fnm.getD i []++[32]) t
theorem OJ {t v:Bs} {i:Nat} (hi:i < 8) (h:aft t i=some v):fld t=some (i,v):=by
 have:=yC h
 rw[this,show (fnm.getD i []++[32])++v=lnK i v by simp [lnK]];exact NL hi v
theorem YY {t v:Bs} {i:Nat} (h:fld t=some (i,v)):aft t i=some v:=by
 have:=(oP h).2
 unfold aft;rw[this,show lnK i v=(fnm.getD i []++[32])++v by simp [lnK]];exact zR _ _
def yI (t:Bs):Nat->Nat->Int × Bs->Int × Bs
 | 0,_,k=>k
 | d+1,i,k=>yI t d (i+1) (match aft t i with
  | some v=>((i:Int),v)
  | none=>k)
theorem H5 {t:Bs} (h:fld t=none) (k:Int × Bs):∀ d i,i+d=8->yI t d i k=k
 | 0,i,hi=>rfl
 | d+1,i,hi=>by
  have e:aft t i=none:=by
   cases q:aft t i with
   | none=>rfl
   | some v=>rw[OJ (by omega) q] at h;cases h
  unfold yI;rw[e];exact H5 h k d (i+1) (by omega)
theorem BB {t v:Bs} {k:Nat} (h:fld t=some (k,v)):∀ d i (q:Int × Bs),i+d=8->(k < i->q=((k:Int),v))->yI t d i q=((k:Int),v)
 | 0,i,q,hi,hq=>hq (by have:=(oP h).1;omega)
 | d+1,i,q,hi,hq=>by
  unfold yI;by_cases z:i=k
  ·subst z
   rw[YY h];exact BB h d (i+1) _ (by omega) (fun _=>rfl)
  ·have e:aft t i=none:=by
    cases q:aft t i with
    | none=>rfl
    | some v =>
     have:=OJ (by omega) q
     rw[h] at this;exact absurd (congrArg Prod.fst (Option.some.inj this)).symm z
   rw[e];exact BB h d (i+1) _ (by omega) (fun q=>hq (by omega))
theorem NH {i:Nat} (hi:i < 8):fnm[i]?=some (fnm.getD i []):=by
 match i,hi with
 | 0,_ | 1,_ | 2,_ | 3,_ | 4,_ | 5,_ | 6,_ | 7,_=>rfl
theorem R7 {i:Nat} (hi:i < 8):(fnm.getD i []).length<=140737488355327:=by
 match i,hi with
 | 0,_ | 1,_ | 2,_ | 3,_ | 4,_ | 5,_ | 6,_ | 7,_=>decide
theorem l41a (L:List Bs) (t:Bs) (cp:Bool) (N last:Int) (b:Bool) (m:List En) (j:Nat) (hj:L[j]?=some t) (sh:LL):∀ (d i:Nat) (q:Int × Bs),i+d=8 ->
  aC G0 IQ (ST [(5,.sl .no 1 (cP L)),(6,.bool cp),(9,.int .i64 N),(11,.sl (md b) 8 (ens m)),(12,.ptr 0 0),(13,.int .i64 last),(14,.int .i64 j),(15,.int .i64 q.1),(16,.str q.2),(25,.bool false),(42,.bool false),(60,.bool false),(64,.bool true),(75,.bool false),(78,.sl .no 1 (cP fnm)),(79,.int .i64 8),(80,.int .i64 i)] [] sh)=some (.ex 2,ST [(5,.sl .no 1 (cP L)),(6,.bool cp),(9,.int .i64 N),(11,.sl (md b) 8 (ens m)),(12,.ptr 0 0),(13,.int .i64 last),(14,.int .i64 j),(15,.int .i64 (yI t d i q).1),(16,.str (yI t d i q).2),(25,.bool false),(42,.bool false),(60,.bool false),(64,.bool true),(75,.bool false),(78,.sl .no 1 (cP fnm)),(79,.int .i64 8),(80,.int .i64 8),(81,.bool false)] [] sh)
 | 0,i,q,h=>by
  have:i=8:=by omega
  subst this;have ec:((8:Nat):Int)=8:=rfl;rw[aB (L:=IQ) rfl];simp only[go_sem,ec,yI,Int.lt_irrefl]
 | d+1,i,q,h=>by
  have hi:i < 8:=by omega
  have h0:(0:Int)<=(i:Int):=by omega
  have h1:(i:Int) < 8:=by omega
  have hj0:(0:Int)<=(j:Int):=by omega
  have hw:=wI (i:=i) (by omega)
  have hr:=eW hj;have hf:=eW (NH hi);have hfl:=R7 hi;obtain⟨k1,k2⟩:=kAft t (fnm.getD i []++[32])
  have ih:=l41a L t cp N last b m j hj sh d (i+1) (match aft t i with
   | some v=>((i:Int),v)
   | none=>q) (by omega)
  show _=some (AX.ex 2,ST [(5,.sl .no 1 (cP L)),(6,.bool cp),(9,.int .i64 N),(11,.sl (md b) 8 (ens m)),(12,.ptr 0 0),(13,.int .i64 last),(14,.int .i64 j),(15,.int .i64 (yI t d (i+1) (match aft t i with
   | some v=>((i:Int),v)
   | none=>q)).1),(16,.str (yI t d (i+1) (match aft t i with
   | some v=>((i:Int),v)
   | none=>q)).2),(25,.bool false),(42,.bool false),(60,.bool false),(64,.bool true),(75,.bool false),(78,.sl .no 1 (cP fnm)),(79,.int .i64 8),(80,.int .i64 8),(81,.bool false)] [] sh)
  rw[<- ih]
  conv=>lhs;rw[aB (L:=IQ) rfl]
  cases e:aft t i with
  | none =>
   have k2:=k2 e;simp only[go_sem,h0,h1,hj0,hr,hf,hfl,k2,hw]
  | some v =>
   have k1:=k1 v e;simp only[go_sem,h0,h1,hj0,hr,hf,hfl,k1,hw]
structure RB (x y:Bool) (r:Rd) (e:En):Prop where
 b:BE r.e
 m:∀ f∈r.m,BE f
 x:1<=r.k->x=true
 y:2<=r.k->y=true
 n:r.k≠0->e=r.e
 z:r.k=0->r.e=zE
theorem Q6 {r:Rd} {t:Bs} (h:fld t=none):cQ r t=(2,r):=by unfold cQ;rw[h]
theorem Q5 {r:Rd} {t:Bs} {k:Nat} {v:Bs} (h:fld t=some (k,v)) (hf:(if r.k < 2 then k=r.k else r.k<=k)):(cQ r t).1=if sE k v r.e≠0 then sE k v r.e else if k=7 then iL r.m (cG k v r.e).2 else 0:=by
 unfold cQ;rw[h];have hm:may r k v=!(decide (v=[]) && decide (2<=k)):=by
  unfold may;by_cases q:r.k < 2
  ·rw[if_pos q] at hf ⊢;rw[decide_eq_true hf,Bool.true_and]
  ·rw[if_neg q] at hf ⊢;rw[decide_eq_true hf,Bool.true_and]
 show (if may r k v=true then _ else _:Int × Rd).1=_;rw[hm];unfold sE;by_cases z:v=[]/\2<=k
 ·rw[decide_eq_true z.1,decide_eq_true z.2,if_neg (by decide),if_pos z,if_pos (by decide)]
 ·have e:(!(decide (v=[]) && decide (2<=k)))=true:=by
   by_cases a:v=[]
   ·rw[decide_eq_false (fun b=>z ⟨a,b⟩),Bool.and_false];rfl
   ·rw[decide_eq_false a,Bool.false_and];rfl
  rw[e,if_pos rfl,if_neg z];by_cases q:(cG k v r.e).1≠0
  ·rw[if_pos q,if_pos q]
  ·rw[if_neg q,if_neg q]
   by_cases w:k=7
   ·rw[if_pos w,if_pos w]
   ·rw[if_neg w,if_neg w]
theorem Q7 {r:Rd} {t:Bs} {k:Nat} {v:Bs} (h:fld t=some (k,v)) (hf:¬ (if r.k < 2 then k=r.k else r.k<=k)):cQ r t=(2,r):=by
 unfold cQ;rw[h];have hm:may r k v=false:=by
  unfold may;by_cases q:r.k < 2
  ·rw[if_pos q] at hf ⊢;rw[decide_eq_false hf,Bool.false_and]
  ·rw[if_neg q] at hf ⊢;rw[decide_eq_false hf,Bool.false_and]
 show (if may r k v=true then _ else _:Int × Rd)=_;rw[hm];rfl
theorem HC {r:Rd} {t:Bs} {k:Nat} {v:Bs} (h:fld t=some (k,v)) (h0:(cQ r t).1=0):sE k v r.e=0/\(cG k v r.e).1=0/\(cQ r t).2=if k=7 then ⟨r.m++[(cG k v r.e).2],zE,0⟩ else ⟨r.m,(cG k v r.e).2,k+1⟩:=by
 unfold cQ at h0 ⊢;rw[h] at h0 ⊢;simp only[] at h0 ⊢;by_cases q:may r k v=true
 case neg=>rw[if_neg q] at h0;cases h0
 rw[if_pos q] at h0 ⊢;by_cases w:(cG k v r.e).1≠0
 ·rw[if_pos w] at h0;exact absurd h0 w
 have w':=Decidable.not_not.1 w;rw[if_neg w];refine⟨?_,w',?_⟩
 ·unfold sE
  unfold may at q;rw[Bool.and_eq_true] at q;rw[if_neg (fun z=>by rw[decide_eq_true z.1,decide_eq_true z.2] at q;exact absurd q.2 (by decide))];exact w'
 ·by_cases z:k=7
  ·rw[if_pos z,if_pos z]
  ·rw[if_neg z,if_neg z]
end Go.Av
namespace Go.Av
open Go.Nt
def pD (L:List Bs) (cp:Bool) (N:Int) (b:Bool) (m:List En) (last:Int) (i:Nat):List (Nat × AV):=[(5,.sl .no 1 (cP L)),(6,.bool cp),(9,.int .i64 N),(11,.sl (md b) 8 (ens m)),(12,.ptr 0 0),(13,.int .i64 last),(14,.int .i64 i),(25,.bool false),(42,.bool false),(60,.bool false)]
theorem l41s (L:List Bs) (cp:Bool) (N:Int) (b x y:Bool) (r:Rd) (e:En) (i:Nat) (t:Bs) (hg:L[i]?=some t) (ht:t.length<=50000) (hL:L.length<=100000) (hc:((((i:Int)=(L.length:Int) - 1)=True)/\cp=true)\/(((i:Int)=(L.length:Int) - 1)=False)) (hR:RB x y r e) (hm:r.m.length<=100000) :
  ((cQ r t).1=0->∃ b' x' y' e',RB x' y' (cQ r t).2 e'/\(cQ r t).2.m.length<=r.m.length+1/\aC G0 kC (ST (pD L cp N b r.m ((r.k:Int) - 1) i) [] [Oe x y e])=aC G0 kC (ST (pD L cp N b' (cQ r t).2.m (((cQ r t).2.k:Int) - 1) (i+1)) [] [Oe x' y' e'])) /\
  ((cQ r t).1≠0->∃ l' sh',aC G0 kC (ST (pD L cp N b r.m ((r.k:Int) - 1) i) [] [Oe x y e])=some (.ret,ST l' [] sh')/\aE .any l' 2=.sl .full 8 []/\aE .any l' 3=.int .i64 ((i:Int)+1)/\aE .any l' 4=.int .i64 (cQ r t).1):=by
 have hil:i < L.length:=(List.getElem?_eq_some_iff.1 hg).1;have h1:(i:Int) < (L.length:Int):=by omega
 have h0:(0:Int)<=(i:Int):=by omega
 have hw:=wI (i:=i) (by omega)
 have hw1:IntKind.i64.wrap ((L.length:Int) - 1)=(L.length:Int) - 1:=by rw[w64 (by omega) (by omega)]
 have hi2:((i+1:Nat):Int)=(i:Int)+1:=rfl;have c40:=c40';have hfl:fnm.length=8:=rfl;have ec0:((0:Nat):Int)=0:=rfl;have ec8:((8:Nat):Int)=8:=rfl;obtain⟨hb,hBm,hx,hy,hn,hz⟩:=hR;have hin:=fun sh=>l41a L t cp N ((r.k:Int) - 1) b r.m i hg sh 8 0 (-1,[]) rfl
 simp only[] at hin;rw[ec0] at hin;have hn1:((-1:Int) < 0)=True:=eq_true (by decide);cases hf:fld t with
 | none =>
  have hr:=Q6 (r:=r) hf;rw[hr];refine⟨fun h=>(by cases h),fun _=>?_⟩;rw[H5 hf _ 8 0 rfl] at hin;simp only[] at hin;rcases hc with ⟨q,rfl⟩ | q <;>
  ·refine Exists.intro ?_ (Exists.intro ?_ (And.intro ?_ ?_))
   rotate_left 2
   ·rw[aB (L:=kC) rfl]
    simp only[go_sem,pD,dK,h0,h1,hw,hw1,q,c40,hfl,ec8,hin,cL,hn1,decide_true,decide_false];rfl
   ·exact⟨rfl,rfl,rfl⟩
 | some p =>
  obtain⟨k,v⟩:=p;have hk:k < 8:=(oP hf).1;have hv:v.length<=50000:=by
   have:=(oP hf).2
   rw[this] at ht;unfold lnK at ht;rw[length_append,length_cons] at ht;omega
  rw[BB hf 8 0 _ rfl (fun z=>absurd z (by omega))] at hin;simp only[] at hin;have hk0:((k:Int) < 0)=False:=eq_false (by omega);by_cases hfit:(if r.k < 2 then k=r.k else r.k<=k)
  case neg =>
   have hr:=Q7 hf hfit;rw[hr];refine⟨fun h=>(by cases h),fun _=>?_⟩;by_cases g:r.k < 2
   ·rw[if_pos g] at hfit
    have g1:((r.k:Int) - 1 < 1)=True:=eq_true (by omega);have g2:((k:Int)=(r.k:Int))=False:=eq_false (by omega);have hwk:IntKind.i64.wrap ((r.k:Int) - 1+1)=(r.k:Int):=by rw[w64 (by omega) (by omega)];omega
    rcases hc with ⟨q,rfl⟩ | q <;>
    ·refine Exists.intro ?_ (Exists.intro ?_ (And.intro ?_ ?_))
     rotate_left 2
     ·rw[aB (L:=kC) rfl]
      simp only[go_sem,pD,dK,h0,h1,hw,hw1,hwk,q,g1,g2,c40,hfl,ec8,hin,cL,hk0,decide_true,decide_false,not_false_eq_true];rfl
     ·exact⟨rfl,rfl,rfl⟩
   ·rw[if_neg g] at hfit
    have g1:((r.k:Int) - 1 < 1)=False:=eq_false (by omega);have g2:((1:Int)<=(r.k:Int) - 1)=True:=eq_true (by omega);have g3:((k:Int)<=(r.k:Int) - 1)=True:=eq_true (by omega);rcases hc with ⟨q,rfl⟩ | q <;>
    ·refine Exists.intro ?_ (Exists.intro ?_ (And.intro ?_ ?_))
     rotate_left 2
     ·rw[aB (L:=kC) rfl]
      simp only[go_sem,pD,dK,h0,h1,hw,hw1,q,g1,g2,g3,c40,hfl,ec8,hin,cL,hk0,decide_true,decide_false,not_false_eq_true];rfl
     ·exact⟨rfl,rfl,rfl⟩
  have hz0:(((r.k:Nat):Int) - 1 < 0)=(r.k=0):=propext (by omega);have hfit':((((r.k:Int) - 1 < 1)=True)/\((k:Int)=(r.k:Int))=True/\(((1:Int)<=(r.k:Int) - 1)=False)/\IntKind.i64.wrap ((r.k:Int) - 1+1)=(r.k:Int))\/((((r.k:Int) - 1 < 1)=False)/\(((1:Int)<=(r.k:Int) - 1)=True)/\(((k:Int)<=(r.k:Int) - 1)=False)/\(0:Nat)=0):=by
   by_cases g:r.k < 2
   ·rw[if_pos g] at hfit
    exact .inl ⟨eq_true (by omega),eq_true (by omega),eq_false (by omega),by rw[w64 (by omega) (by omega)];omega⟩
   ·rw[if_neg g] at hfit
    exact .inr ⟨eq_false (by omega),eq_true (by omega),eq_false (by omega),rfl⟩
  have h7:k=7->2<=r.k:=fun z=>by
   by_cases g:r.k < 2
   ·rw[if_pos g] at hfit;omega
   ·omega
  obtain⟨x1,y1,hx1,hy1,hO⟩:∃ x1 y1:Bool,(1<=r.k->x1=true)/\(2<=r.k->y1=true)/\(((r.k=0)=True/\x1=true/\y1=true/\r.e=zE)\/((r.k=0)=False/\x1=x/\y1=y/\r.e=e)):=by
   by_cases g:r.k=0
   ·exact⟨true,true,fun _=>rfl,fun _=>rfl,.inl ⟨eq_true g,rfl,rfl,hz g⟩⟩
   ·exact⟨x,y,hx,hy,.inr ⟨eq_false g,rfl,rfl,(hn g).symm⟩⟩
  obtain⟨e',x',y',hS,hS0⟩:=kSet x1 y1 r.e v hv k hk;have hr1:=Q5 hf hfit;have hzz:tks []=[]:=rfl;have mF:mdn true=.no:=rfl;by_cases hse:sE k v r.e=0
  case neg =>
   rw[if_pos hse] at hr1;rw[hr1];refine⟨fun z=>absurd z hse,fun _=>?_⟩;generalize sE k v r.e=er at *;rcases hO with ⟨o1,rfl,rfl,o2⟩ | ⟨o1,rfl,rfl,o2⟩<;>rw[o2] at hS<;>simp only[Oe,zE,hzz,mF] at hS<;>rcases hfit' with ⟨a1,a2,a3,a4⟩ | ⟨a1,a2,a3,a4⟩<;>rcases hc with ⟨q,rfl⟩ | q <;>
   ·refine Exists.intro ?_ (Exists.intro ?_ (And.intro ?_ ?_))
    rotate_left 2
    ·rw[aB (L:=kC) rfl]
     simp only[go_sem,pD,Oe,dK,h0,h1,hw,hw1,q,a1,a2,a3,a4,hz0,o1,hS,hse,c40,hfl,ec8,hin,cL,hk0,decide_true,decide_false,not_false_eq_true];rfl
    ·exact⟨rfl,rfl,rfl⟩
  rw[if_neg (by simp [hse])] at hr1;obtain⟨he1,hx2,hy2⟩:=hS0 hse;subst he1;have hseq:(cG k v r.e).1=0:=by
   unfold sE at hse;by_cases z:v=[]/\2<=k
   ·rw[if_pos z] at hse;cases hse
   ·rwa [if_neg z] at hse
  obtain⟨b1,_⟩:=LD hk hb hv hseq;rw[hse] at hS;by_cases h7k:k=7
  case neg =>
   rw[if_neg h7k] at hr1;refine⟨fun _=>?_,fun z=>absurd hr1 z⟩;have hr2:=(HC hf hr1).2.2;rw[if_neg h7k] at hr2;rw[hr2];have k7:((k:Int)=7)=False:=eq_false (by omega);have hk1:((k+1:Nat):Int) - 1=(k:Int):=by omega
   refine⟨b,x',y',(cG k v r.e).2,⟨b1,hBm,fun z=>?_,fun z=>?_,fun _=>rfl,fun z=>absurd z (by show ¬ k+1=0;omega)⟩,Nat.le_succ _,?_⟩
   ·rw[hx2]
    by_cases g:k=0
    ·rw[decide_eq_true g,Bool.or_true]
    ·rw[hx1 (by by_cases w:r.k < 2<;>simp [w] at hfit<;>omega)];rfl
   ·rw[hy2]
    have z:2<=k+1:=z;by_cases g:k=1
    ·rw[decide_eq_true g,Bool.or_true]
    ·rw[hy1 (by by_cases w:r.k < 2<;>simp [w] at hfit<;>omega)];rfl
   ·generalize (cG k v r.e).2=e1 at *
    clear hx2 hy2
    rcases hO with ⟨o1,rfl,rfl,o2⟩ | ⟨o1,rfl,rfl,o2⟩<;>rw[o2] at hS<;>simp only[Oe,zE,hzz,mF] at hS<;>rcases hfit' with ⟨a1,a2,a3,a4⟩ | ⟨a1,a2,a3,a4⟩<;>rcases hc with ⟨q,rfl⟩ | q <;>
    ·conv=>lhs;rw[aB (L:=kC) rfl]
     simp only[go_sem,pD,Oe,dK,h0,h1,hw,hw1,q,a1,a2,a3,a4,hz0,o1,hS,k7,hk1,c40,hfl,ec8,hin,cL,hk0,not_true_eq_false,decide_true,decide_false,not_false_eq_true]
  subst h7k;rw[if_pos rfl] at hr1;have g2:=h7 rfl;have g3:(r.k=0)=False:=eq_false (by omega);have e7:((7:Nat):Int)=7:=rfl;obtain⟨o1,rfl,rfl,o2⟩:((r.k=0)=False/\x1=x/\y1=y/\r.e=e):=by
   rcases hO with ⟨o1,_⟩ | o
   ·rw[g3] at o1;exact absurd o1 (by simp)
   ·exact o
  have a5:(((r.k:Int) - 1 < 1)=False):=eq_false (by omega);have a6:(((1:Int)<=(r.k:Int) - 1)=True):=eq_true (by omega)
  have a7:(((7:Int)<=(r.k:Int) - 1)=False):=eq_false (by
   by_cases w:r.k < 2
   ·omega
   ·rw[if_neg w] at hfit;omega)
  have hx3:=hx (by omega);have hy3:=hy g2;subst hx3;subst hy3;have hx4:x'=true:=hx2;have hy4:y'=true:=hy2;subst hx4;subst hy4;have hB:=kBeh r.m (by omega) hBm (cG 7 v r.e).2 b1;have ha:=U4 b r.m (cG 7 v r.e).2 (by omega);have mT:mdn true=.no:=rfl;have hrz:=HC (r:=r) hf;rw[if_pos rfl] at hrz;generalize (cG 7 v r.e).2=e1 at *;simp only[aN] at hB ha;rw[o2] at hS;simp only[Oe,mT] at hS;rw[e7] at hS hin;by_cases hb0:iL r.m e1=0
  ·rw[hb0] at hr1 hB
   refine⟨fun _=>?_,fun z=>absurd hr1 z⟩;rw[(hrz hr1).2.2];refine⟨true,true,true,e1,⟨KD,fun f hf=>?_,fun z=>rfl,fun z=>rfl,fun z=>absurd rfl z,fun _=>rfl⟩,by simp,?_⟩
   ·rcases mem_append.1 hf with z | z
    ·exact hBm f z
    ·rw[mem_singleton.1 z];exact b1
   ·have mO:md true=.own:=rfl
    rcases hc with ⟨q,rfl⟩ | q <;>
    ·conv=>lhs;rw[aB (L:=kC) rfl]
     simp only[go_sem,pD,Oe,dK,h0,h1,hw,hw1,q,a5,a6,a7,hz0,o1,hS,hB,ha,mT,mO,wX,bP,dA,c40,hfl,ec8,hin,cL,not_true_eq_false,decide_true,decide_false,not_false_eq_true]
  ·rw[hr1]
   refine⟨fun z=>absurd z hb0,fun _=>?_⟩;rcases hc with ⟨q,rfl⟩ | q <;>
   ·refine Exists.intro ?_ (Exists.intro ?_ (And.intro ?_ ?_))
    rotate_left 2
    ·rw[aB (L:=kC) rfl]
     simp only[go_sem,pD,Oe,dK,h0,h1,hw,hw1,q,a5,a6,a7,hz0,o1,hS,hB,hb0,mT,bP,dA,c40,hfl,ec8,hin,cL,not_true_eq_false,decide_true,decide_false,not_false_eq_true];rfl
    ·exact⟨rfl,rfl,rfl⟩
end Go.Av
namespace Go.Av
open Go.Nt
theorem lp41 (L:List Bs) (cp:Bool) (N:Int) (tl:List Bs) (hL:L.length<=100000) (htl:(cp=true/\tl.length=0)\/(cp=false/\tl.length=1)):∀ (ls:List Bs) (i:Nat) (b x y:Bool) (r:Rd) (e:En),L.drop i=ls++tl->i+ls.length+tl.length=L.length->(∀ t∈ls,t.length<=50000)->RB x y r e->r.m.length+ls.length<=100000 ->
  ((cK ls r i).1=0/\cp=true->∃ b' x' y' e',aC G0 kC (ST (pD L cp N b r.m ((r.k:Int) - 1) i) [] [Oe x y e])=some (.ex 0,ST (pD L cp N b' (cK ls r i).2.2.m (((cK ls r i).2.2.k:Int) - 1) L.length++[(64,.bool false)]) [] [Oe x' y' e'])/\(cK ls r i).2.1=L.length) /\
  (¬ ((cK ls r i).1=0/\cp=true)->∃ l' sh',aC G0 kC (ST (pD L cp N b r.m ((r.k:Int) - 1) i) [] [Oe x y e])=some (.ret,ST l' [] sh')/\aE .any l' 2=.sl .full 8 []/\aE .any l' 3=.int .i64 (if (cK ls r i).1≠0 then ((cK ls r i).2.1:Int) else ((cK ls r i).2.1:Int)+1)/\aE .any l' 4=.int .i64 (if (cK ls r i).1≠0 then (cK ls r i).1 else 2))
 | [],i,b,x,y,r,e,hd,hi,ht,hR,hm=>by
  have e0:cK [] r i=(0,i,r):=rfl;rw[e0];simp only[length_nil,Nat.add_zero] at hi;rcases htl with ⟨rfl,h0⟩ | ⟨rfl,h0⟩
  ·have:i=L.length:=by omega
   subst this;refine⟨fun _=>⟨b,x,y,e,?_,rfl⟩,fun h=>absurd ⟨rfl,rfl⟩ h⟩;rw[aB (L:=kC) rfl];simp only[go_sem,pD,dK,Int.lt_irrefl]
  ·refine⟨fun h=>absurd h.2 (by decide),fun _=>?_⟩
   have h1:(i:Int) < (L.length:Int):=by omega
   have hw:IntKind.i64.wrap ((i:Int)+1)=(i:Int)+1:=by rw[w64 (by omega) (by omega)]
   have hw1:IntKind.i64.wrap ((L.length:Int) - 1)=(L.length:Int) - 1:=by rw[w64 (by omega) (by omega)]
   have q:((i:Int)=(L.length:Int) - 1)=True:=eq_true (by omega);refine Exists.intro ?_ (Exists.intro ?_ (And.intro ?_ ?_))
   rotate_left 2
   ·rw[aB (L:=kC) rfl]
    simp only[go_sem,pD,dK,h1,hw,hw1,q,cL,decide_true];rfl
   ·exact⟨rfl,rfl,rfl⟩
 | t :: ls,i,b,x,y,r,e,hd,hi,ht,hR,hm=>by
  rw[length_cons] at hi hm;have hg:L[i]?=some t:=by
   have:=getElem?_drop (xs:=L) (i:=i) (j:=0)
   rw[hd] at this;simpa using this.symm
  have hd2:L.drop (i+1)=ls++tl:=by
   rw[<- drop_drop,hd];rfl
  have hc:((((i:Int)=(L.length:Int) - 1)=True)/\cp=true)\/(((i:Int)=(L.length:Int) - 1)=False):=by
   by_cases g:(i:Int)=(L.length:Int) - 1
   ·rcases htl with ⟨a,_⟩ | ⟨_,a⟩
    ·exact .inl ⟨eq_true g,a⟩
    ·omega
   ·exact .inr (eq_false g)
  obtain⟨s1,s2⟩:=l41s L cp N b x y r e i t hg (ht t mem_cons_self) hL hc hR (by omega);rw[AO];by_cases h0:(cQ r t).1=0
  ·rw[if_neg (by simp [h0])]
   obtain⟨b',x',y',e',hR',hm',step⟩:=s1 h0;rw[step];exact lp41 L cp N tl hL htl ls (i+1) b' x' y' (cQ r t).2 e' hd2 (by omega) (fun t h=>ht t (mem_cons_of_mem _ h)) hR' (by omega)
  ·rw[if_pos h0]
   refine⟨fun h=>absurd h.1 h0,fun _=>?_⟩;obtain⟨l',sh',y1,y2,y3,y4⟩:=s2 h0;refine⟨l',sh',y1,y2,?_,?_⟩
   ·rw[if_pos h0];exact y3
   ·rw[if_pos h0];exact y4
theorem HR (s:Bs) (hs:s.length<=50000):G0 41 [.str s] []=some (.tup [.sl .no 8 (ens (pM s).1),.int .i64 ((pM s).2.1:Nat),.int .i64 (pM s).2.2],[]):=by
 have hz:¬ (1048576:Int) < (s.length:Int):=by omega
 have e1:(((1:Nat)):Int)=1:=rfl;have e0:(((0:Nat)):Int)=0:=rfl;have ec:((1024:Nat):Int)=1024:=rfl;have en:ens []=[]:=rfl;have hL:=XD s (by omega);have hj:=sK s;have hjl:=E8 (lns s).1;have hsl:s.length=(jn (lns s).1).length+(lns s).2.length:=by rw[<- length_append,hj]
 refine aA F41 rfl rfl rfl ?_;unfold lnR at hL;cases hl:(lns s).1 with
 | nil =>
  rw[WB (rr:=(lns s).2) (by omega) (by rw[<- hl])];rw[hl] at hL;by_cases q:(lns s).2=[]
  ·rw[if_pos q,decide_eq_true q] at hL
   have hL1:G0 20 [.str s] []=some (.tup [.sl .no 1 [],.bool true],[]):=hL;simp only[F41,go_sem,hz,hL1,e1,en]
  ·rw[if_neg q,decide_eq_false q] at hL
   have hL1:G0 20 [.str s] []=some (.tup [.sl .no 1 [[.str (lns s).2]],.bool false],[]):=hL;simp only[F41,go_sem,hz,hL1,e1,en]
 | cons h ls =>
  rw[hl] at hL hjl hsl;have hpc:=WC (s:=s) (h:=h) (ls:=ls) (rr:=(lns s).2) (by omega) (by rw[<- hl]);rw[hpc];generalize hrr:(lns s).2=rr at hL hsl ⊢;obtain⟨tl,cp,ht1,ht2,ht3⟩:∃ (tl:List Bs) (cp:Bool),(if rr=[] then ([]:List Bs) else [rr])=tl/\decide (rr=[])=cp/\((cp=true/\tl.length=0/\rr=[])\/(cp=false/\tl.length=1/\rr≠[])):=by
   by_cases q:rr=[]
   ·exact⟨[],true,if_pos q,decide_eq_true q,.inl ⟨rfl,rfl,q⟩⟩
   ·exact⟨[rr],false,if_neg q,decide_eq_false q,.inr ⟨rfl,rfl,q⟩⟩
  rw[ht1,ht2] at hL;have hLl:(h :: ls++tl).length=ls.length+1+tl.length:=by rw[length_append,length_cons]
  have hrl:tl.length<=1/\(tl.length=1->1<=rr.length):=by
   rcases ht3 with ⟨_,a,_⟩ | ⟨_,a,q⟩
   ·omega
   ·have:rr.length≠0:=fun z=>q (length_eq_zero_iff.1 z)
    omega
  rw[length_cons] at hjl;have hLd:(h :: ls++tl).drop 1=ls++tl:=rfl;have hL0:(h :: ls++tl)[0]?=some h:=rfl;have hte:∀ t∈ls,t.length<=50000:=fun t h=>by
   have h1:∀ {l:List Bs},t∈l->t.length<=(jn l).length:=fun {l}=>by
    induction l with
    | nil=>intro h;cases h
    | cons a l ih =>
     intro h;rw[kU,length_append,length_cons];rcases mem_cons.1 h with z | z
     ·rw[z];omega
     ·have:=ih z;omega
   have:=h1 h
   rw[kU,length_append,length_cons] at hsl;omega
  have hLq:(((h :: ls++tl).length:Int)=1)=True/\cp=true\/(((h :: ls++tl).length:Int)=1)=False:=by
   by_cases g:((h :: ls++tl).length:Int)=1
   ·refine .inl ⟨eq_true g,?_⟩
    rcases ht3 with ⟨a,_⟩ | ⟨_,a,_⟩
    ·exact a
    ·omega
   ·exact .inr (eq_false g)
  generalize h :: ls++tl=L at *;have hl0:((L.length:Int)=0)=False:=eq_false (by omega);have hr:=eW hL0;obtain⟨p1,p2⟩:=kAft h hdB;cases ha:after hdB h with
  | none =>
   have p2:=p2 ha;have hh:hdN h=none:=by unfold hdN;rw[ha];rfl
   obtain⟨k,b,g1,g2,_⟩:=XA [] 1024;rw[ec] at g1;simp only[hdB] at p2;rw[QX hh];rcases hLq with ⟨q,rfl⟩ | q <;>
   ·simp only[F41,go_sem,hz,hL,dK,hl0,q,hr,p2,g1,e1,en,decide_true,decide_false]
  | some v =>
   have p1:=p1 v ha;have hh:hdN h=eZ v 1024:=by unfold hdN;rw[ha];rfl
   obtain⟨k,b,g1,g2,g3⟩:=XA v 1024;rw[ec] at g1;simp only[hdB] at p1;cases hn:eZ v 1024 with
   | none =>
    rw[hn] at g2 hh;rw[QX hh];have g2:b=false:=g2;subst g2;rcases hLq with ⟨q,rfl⟩ | q <;>
    ·simp only[F41,go_sem,hz,hL,dK,hl0,q,hr,p1,g1,e1,en,decide_true,decide_false]
   | some cn =>
    rw[hn] at g2 hh;rw[pL_s hh];unfold DK;have g2:b=true:=g2;subst g2;have g3:=g3 cn hn;subst g3;obtain⟨x1,x2⟩:=lp41 L cp cn tl (by omega) (by rcases ht3 with ⟨a,b,_⟩ | ⟨a,b,_⟩;exact .inl ⟨a,b⟩;exact .inr ⟨a,b⟩) ls 1 false false false ⟨[],zE,0⟩ zE hLd (by omega) hte ⟨KD,by simp,fun h=>absurd (show 1<=0 from h) (by decide),fun h=>absurd (show 2<=0 from h) (by decide),fun _=>rfl,fun _=>rfl⟩ (by simp;omega);have r0:ST (pD L cp cn false [] (((0:Nat):Int) - 1) 1) [] [Oe false false zE]=ST [(5,.sl .no 1 (cP L)),(6,.bool cp),(9,.int .i64 cn),(11,.sl .full 8 []),(12,.ptr 0 0),(13,.int .i64 (-1)),(14,.int .i64 1),(25,.bool false),(42,.bool false),(60,.bool false)] [] [[.sl .full 3 [],.sl .full 3 [],.str [],.str [],.str [],.str [],.int .i64 0,.int .i64 0]]:=rfl;simp only[] at x1 x2;rw[r0] at x1 x2;by_cases hq:(cK ls ⟨[],zE,0⟩ 1).1=0/\cp=true
    ·obtain⟨b',x',y',e',y1,y2⟩:=x1 hq
     have hrr0:rr=[]:=by
      rcases ht3 with ⟨_,_,a⟩ | ⟨a,_⟩
      ·exact a
      ·rw[hq.2] at a;cases a
     obtain⟨hq1,rfl⟩:=hq;rw[if_neg (by simp [hq1])];generalize cK ls ⟨[],zE,0⟩ 1=q at hq1 y1 y2 ⊢;obtain⟨qe,qn,qm,qE,qk⟩:=q;simp only[pD,cons_append,nil_append] at hq1 y1 y2 ⊢;by_cases h1:qk=0
     ·have h1':((0:Int)<=(qk:Int) - 1)=False:=eq_false (by omega)
      rw[if_neg (by simp [h1,hrr0])];by_cases h2:qm.length=cn
      ·have h2':((qm.length:Int)=(cn:Int))=True:=eq_true (by omega)
       rw[if_neg (by simp [h2])];rcases hLq with ⟨q,_⟩ | q <;>
       ·simp only[F41,go_sem,hz,hL,dK,hl0,q,hr,p1,g1,y1,h1',h2',bP,dA,cE,aK,e0,not_true_eq_false,decide_false,decide_true]
      ·have h2':((qm.length:Int)=(cn:Int))=False:=eq_false (by omega)
       rw[if_pos h2];rcases hLq with ⟨q,_⟩ | q <;>
       ·simp only[F41,go_sem,hz,hL,dK,hl0,q,hr,p1,g1,y1,h1',h2',bP,dA,cE,aK,e1,en,not_true_eq_false,not_false_eq_true,decide_true,decide_false]
     ·have h1':((0:Int)<=(qk:Int) - 1)=True:=eq_true (by omega)
      have hw:IntKind.i64.wrap ((L.length:Int)+1)=((L.length+1:Nat):Int):=by rw[w64 (by omega) (by omega)];rfl
      rw[if_pos (.inr h1),y2];rcases hLq with ⟨q,_⟩ | q <;>
      ·simp only[F41,go_sem,hz,hL,dK,hl0,q,hr,p1,g1,y1,h1',hw,en,not_false_eq_true,decide_true,decide_false]
    ·obtain⟨l',sh',y1,y2,y3,y4⟩:=x2 hq
     have hx:∀ z:Int,(if (cK ls ⟨[],zE,0⟩ 1).1≠0 then (([]:List En),(cK ls ⟨[],zE,0⟩ 1).2.1,(cK ls ⟨[],zE,0⟩ 1).1) else if rr≠[]\/(cK ls ⟨[],zE,0⟩ 1).2.2.k≠0 then ([],(cK ls ⟨[],zE,0⟩ 1).2.1+1,2) else if (cK ls ⟨[],zE,0⟩ 1).2.2.m.length≠cn then ([],1,2) else ((cK ls ⟨[],zE,0⟩ 1).2.2.m,0,0))=if (cK ls ⟨[],zE,0⟩ 1).1≠0 then (([]:List En),(cK ls ⟨[],zE,0⟩ 1).2.1,(cK ls ⟨[],zE,0⟩ 1).1) else ([],(cK ls ⟨[],zE,0⟩ 1).2.1+1,2):=fun z=>by
      by_cases hq1:(cK ls ⟨[],zE,0⟩ 1).1=0
      ·have hc:cp=false:=by cases cp with
        | false=>rfl
        | true=>exact absurd ⟨hq1,rfl⟩ hq
       have hrr0:rr≠[]:=by
        rcases ht3 with ⟨a,_⟩ | ⟨_,_,a⟩
        ·rw[hc] at a;cases a
        ·exact a
       rw[if_neg (by simp [hq1]),if_pos (.inl hrr0),if_neg (by simp [hq1])]
      ·rw[if_pos hq1,if_pos hq1]
     rw[hx 0];rcases hLq with ⟨q,rfl⟩ | q <;>
     ·simp only[F41,go_sem,hz,hL,dK,hl0,q,hr,p1,g1,y1,y2,y3,y4,decide_true,decide_false]
      by_cases hq1:(cK ls ⟨[],zE,0⟩ 1).1=0
      ·rw[if_neg (by simp [hq1]),if_neg (by simp [hq1]),if_neg (by simp [hq1])]
       rfl
      ·rw[if_pos hq1,if_pos hq1,if_pos hq1]
       rfl
end Go.Av
