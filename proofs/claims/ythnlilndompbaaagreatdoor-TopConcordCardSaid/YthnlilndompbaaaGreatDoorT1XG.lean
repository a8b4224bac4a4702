/- Functions walked, and plain facts. No conditions. -/
import Derived.Test.YthnlilndompbaaaGreatDoorT1XF
import Derived.Deep.LoopGhost
import Derived.Deep.RegionHeld3
import Derived.Deep.DeepCutAuto
import Derived.Lib.Walk
import Derived.IntWalk
import Derived.OwnWalk
import Derived.Lib.Hide
import Derived.Laws.OwnMore
import Derived.Lib.SliceRun
import Derived.Lib.ConvBytes
import Derived.Laws.IdiomStrings
import Derived.Deep.WholeRow
import Derived.Test.YthnlilndompbaaaGreatDoorT1XB
import Derived.Test.YthnlilndompbaaaGreatDoorT1XE
import Derived.Test.YthnlilndompbaaaGreatDoorT1XD
import GoSem.Op.String
open List
set_option linter.all false
set_option maxRecDepth 100000
set_option maxHeartbeats 16000000
def xa:=@List.mem_cons_of_mem
def zs:=@Nat.mul_one
def Wa:=@Int.le_refl
def ab4:=@List.mem_of_getElem?
def ad1:=@Go.cell_of_row
def ae7:=@Nat.sub_self
def ag4:=@eq_true
def ai5:=@Go.Lib.run_convert_string_bytes
def ak0:=@Go.wpList_append_own
def ak6:=@Go.run_convert_bytes_back
def al4:=@Go.Lib.run_eql_slice_nil
def al5:=@Go.Lib.bytesWorld_at_old
def am4:=@Go.RowKit.Below.heap_setCell
def an2:=@List.mem_range
def ao4:=@Go.info_parts
namespace Go.Av
open Go.Proofs Go.RowKit
namespace Rpl
set_option maxHeartbeats 4000000
variable{I:Value}{J:TypeId}{bk:Array Value}{cd:List Value}{cr:ByteArray}{fc x:World}{n q:Nat}{r:List Nat}
theorem b60(h):((ByteArray.mk #[60])[0]'h).toNat=60:=rfl
theorem b38(h):((ByteArray.mk #[38])[0]'h).toNat=38:=rfl
theorem b123(h):((ByteArray.mk #[123])[0]'h).toNat=123:=rfl
attribute[go_sem]b60 b38 b123
structure Olds (o:Nat) (w:World):Prop where
 c0:w.cell? ⟨o,0,none⟩=some (.string ⟨#[60]⟩)
 c1:w.cell? ⟨o,1,none⟩=some (.string ⟨#[38,108,116,59]⟩)
 c2:w.cell? ⟨o,2,none⟩=some (.string ⟨#[38]⟩)
 c3:w.cell? ⟨o,3,none⟩=some (.string ⟨#[38,97,109,112,59]⟩)
 c4:w.cell? ⟨o,4,none⟩=some (.string ⟨#[123]⟩)
 c5:w.cell? ⟨o,5,none⟩=some (.string ⟨#[38,108,98,59]⟩)
def Olds.below(h:Olds n x)(a:Below x.heap.size x fc):Olds n fc:=by
 have b:n<x.heap.size:=ak5 x _ h.c0;exact⟨(a.cell (p:=⟨n,0,none⟩) b).trans h.c0,(a.cell (p:=⟨n,1,none⟩) b).trans h.c1,(a.cell (p:=⟨n,2,none⟩) b).trans h.c2,(a.cell (p:=⟨n,3,none⟩) b).trans h.c3,(a.cell (p:=⟨n,4,none⟩) b).trans h.c4,(a.cell (p:=⟨n,5,none⟩) b).trans h.c5⟩
def Bf:Value->Bool
 | .slice none 0 0=>true
 | _=>false
def NQ(h:Bf I=true):I=.slice none 0 0:=by
 unfold Bf at h
 split at h
 ·rfl
 ·cases h
def JX:Tryz.zeroCells310.size=257/\Tryz.zeroCells310.toList.all Bf=true:=by
 constructor<;>kernel_rfl
def Tbl(B q:Nat)(b:List Nat)(n:Nat)(w:World):Prop:=
 ∃ a v xs,w.heap[q]?=some (.cells a 310 (0,0))/\a.size=257/\(∀ c,c<256->c ∉ b->a[c]?=some (.slice none 0 0))/\a[256]?=some v/\w.ownsRow B 9 1 v n xs
def IK(d:I.oneCell'=true):(storeCells ⟨fc.heap.size,0,none⟩ (Tryz.zeroCells310.toList.set 256 I)).run Tryz.prog (fc.alloc (.cells Tryz.zeroCells310 310))=.ok () (fc.alloc (.cells (Tryz.zeroCells310.toList.set 256 I).toArray 310)):=by
 have b:(Tryz.zeroCells310.toList.set 256 I).toArray.size=257:=by rw[ag2,aj4,ac2];exact JX.1
 have h:=run_storeCells_new (P:=Tryz.prog) fc 310 Tryz.zeroCells310 (Tryz.zeroCells310.toList.set 256 I).toArray (by rw[b];kernel_rfl) (by rw[b];exact JX.1) (by
  rw[Array.all_eq_true'];intro x a;have a:x∈Tryz.zeroCells310.toList.set 256 I:=by simpa using a
  rcases mem_or_eq_of_mem_set a with c | rfl
  ·have:=NQ (kx.1 JX.2 x c)
   rw[this];rfl
  ·exact d)
 simpa using h
def Tbl.cells{B q n:Nat}{b:List Nat}{w:World}(h:Tbl B q b n w){c:Nat}(f:c<256)(hd:c ∉ b):w.cell? ⟨q,c,none⟩=some (.slice none 0 0):=by
 obtain⟨a,v,xs,d,_,e,_⟩:=h;rw[ad1 w q c a 310 (0,0) d];exact e c f hd
def Tbl.lt{B q n:Nat}{b:List Nat}{w:World}(h:Tbl B q b n w):q<w.heap.size:=by
 obtain⟨a,v,xs,c,_⟩:=h;exact (kw.1 c).1
def Q4(b:x.ownsRow n 9 1 I 0 []):Tbl n x.heap.size [] 0 (x.alloc (.cells (Tryz.zeroCells310.toList.set 256 I).toArray 310)):=by
 refine⟨_,I,[],ae2 x _,by rw[ag2,aj4,ac2];exact JX.1,λc d _=>?_,?_,b.alloc _⟩
 ·rw[ad2,xm (by omega)]
  have a:c<Tryz.zeroCells310.toList.length:=by rw[ac2,JX.1];omega
  rw[ii a];rw[NQ (kx.1 JX.2 _ (xd a))]
 ·rw[ad2,sp (by rw[ac2,JX.1];omega)]
def P3(h:x.heap[q]?=some (.cells bk 310 (0,0))):(Lib.bytesWorld (x.setCell ⟨q,256,none⟩ I) J cr).heap[q]?=some (.cells (bk.setIfInBounds 256 I) 310 (0,0)):=by
 have a:q<x.heap.size:=(kw.1 h).1;rw[al5 _ _ _ _ (by simpa using a)];rw[ak1 x q 256 bk 310 (0,0) I h];exact af4 x q _ _ 310 _ h
def XL(h:n<=x.heap.size):Below n x (Lib.bytesWorld x J cr):=⟨rfl,rfl,rfl,by rw[Lib.bytesWorld_size];omega,λj a=>al5 x J cr j (by omega)⟩
def wZ{j v:Nat}(H:0<j)(f:x.ownsRow n 9 1 I j cd)(y:x.heap[q]?=some (.cells bk 310 (0,0)))(B:bk.size=257)
  (w:∀ v,v<256->v ∉ r->bk[v]?=some (.slice none 0 0))(u:v<256/\v ∉ r):
  ∃ b a,I=.slice (some ⟨b,0,none⟩) j a/\(Lib.bytesWorld (x.setCell ⟨q,256,none⟩ (.slice (some ⟨b,0,none⟩) j a)) 5 cr).cell? ⟨q,v,none⟩=some (.slice none 0 0) /\
   (Lib.bytesWorld (x.setCell ⟨q,256,none⟩ (.slice (some ⟨b,0,none⟩) j a)) 5 cr).frozen? ⟨q,v,none⟩=false /\
   ∀ V:Value,Tbl n q (v::r) j ((Lib.bytesWorld (x.setCell ⟨q,256,none⟩ (.slice (some ⟨b,0,none⟩) j a)) 5 cr).setCell ⟨q,v,none⟩ V)/\∀ (A:Nat) (w0:World),A<=q->Below A w0 x->A<=x.heap.size->Below A w0 ((Lib.bytesWorld (x.setCell ⟨q,256,none⟩ (.slice (some ⟨b,0,none⟩) j a)) 5 cr).setCell ⟨q,v,none⟩ V):=by
 obtain⟨C,⟨_,K⟩ | ⟨b,a,i,rfl,k,h,D,E,F,G⟩⟩:=f
 ·omega
 have e:b≠q:=by rintro rfl;rw[y] at h;cases h
 have o:b<x.heap.size:=(kw.1 h).1;have c:=P3 y (I:=.slice (some ⟨b,0,none⟩) j a) (J:=5) (cr:=cr);refine⟨b,a,rfl,?_,?_,λV=>?_⟩
 ·rw[ad1 _ q v _ 310 (0,0) c,ac0 (by omega)]
  exact w v u.1 u.2
 ·simp [World.frozen?,c]
 ·refine⟨?_,λA w0 s l g=>((l.setCell (p:=⟨q,256,none⟩) s _).trans (XL (by simpa using g))).setCell (p:=⟨q,v,none⟩) s V⟩
  refine⟨(bk.setIfInBounds 256 (.slice (some ⟨b,0,none⟩) j a)).setIfInBounds v V,.slice (some ⟨b,0,none⟩) j a,cd,?_,?_,λc' m d=>?_,?_,?_⟩
  ·rw[ak1 _ q v _ 310 (0,0) V c]
   exact af4 _ q _ _ 310 _ c
  ·simp [B]
  ·simp only[la,not_or] at d
   rw[ac0 (ad9 d.1),ac0 (by omega)];exact w c' m d.2
  ·rw[ac0 (by omega),Array.getElem?_setIfInBounds_self_of_lt (by omega)]
  ·refine⟨C,.inr ⟨b,a,i,rfl,k,?_,D,E,F,G⟩⟩
   rw[am4 _ ⟨q,v,none⟩ V b e,al5 _ _ _ _ (by simpa using o),am4 _ ⟨q,256,none⟩ _ b e];exact h
def Pv:(Tryz.prog.info? 9).map (λi=>(i.zero,i.size,i.bytes))=some (some (.string ⟨#[]⟩),1,16):=by kernel_rfl
def ra(b o c:Nat)(ho:Olds o x)(hc:6<=c)(hb:x.cell? ⟨b,4,none⟩=some (.slice (some ⟨o,0,none⟩) 6 c)):
  Calls Tryz.prog 216 #[.pointer (some ⟨b,0,none⟩)] x λe w'=>∃ q,e=.returned (.iface 311 (.pointer (some ⟨q,0,none⟩)))/\Below x.heap.size x w'/\x.heap.size<=q/\Tbl x.heap.size q [60,38,123] 3 w':=by
 obtain⟨c0,c1,c2,c3,c4,c5⟩:=ho;have a6:∀ x:World,(Instr.makeSlice 86 (.int .i64 0) (.int .i64 3)).run Tryz.prog x=.ok (.slice (some ⟨x.heap.size,0,none⟩) 0 3) (x.alloc (.cells #[.string ⟨#[]⟩,.string ⟨#[]⟩,.string ⟨#[]⟩] 9)):=λ_=>by kernel_rfl
 obtain⟨i9,av,ag,ar,Z⟩:=ao4 Pv
 go_enter Tryz.func216,Tryz.ntmps216
 go_wp2
 go_loopg [5,4] 3 (λg s5 s4 wx=>x=wx/\((g=3/\s5=.int .i64 0/\s4=.bool true)\/(g=2/\s5=.int .i64 2/\s4=.bool false)\/(g=1/\s5=.int .i64 4/\s4=.bool false)\/(g=0/\s5=.int .i64 6/\s4=.bool false)))
 case atStart=>exact⟨rfl,.inl ⟨rfl,rfl,rfl⟩⟩
 case round =>
  obtain⟨rfl,⟨rfl,rfl,rfl⟩ | ⟨rfl,rfl,rfl⟩ | ⟨rfl,rfl,rfl⟩ | ⟨rfl,rfl,rfl⟩⟩:=hrel
  ·go_wp2
   go_roundg 2
   case measure=>omega
   case rel=>exact⟨rfl,.inr (.inl ⟨rfl,by go_num,rfl⟩)⟩
  ·go_wp2
   go_roundg 1
   case measure=>omega
   case rel=>exact⟨rfl,.inr (.inr (.inl ⟨rfl,by go_num,rfl⟩))⟩
  ·go_wp2
   go_roundg 0
   case measure=>omega
   case rel=>exact⟨rfl,.inr (.inr (.inr ⟨rfl,by go_num,rfl⟩))⟩
  ·have a4:=λ(R:Obj)=>IK (fc:=x.alloc R) (I:=.slice (some ⟨x.heap.size,0,none⟩) 0 3) rfl
   have ap:=Q4 (n:=x.heap.size) (x:=x.alloc (.cells #[.string ⟨#[]⟩,.string ⟨#[]⟩,.string ⟨#[]⟩] 9)) (World.ownsRow_made x #[.string ⟨#[]⟩,.string ⟨#[]⟩,.string ⟨#[]⟩] 3 (base:=x.heap.size) (e:=9) (size:=1) (ji _) (by decide) rfl);have a5:∀ R:Obj,(x.alloc R).heap.size=x.heap.size+1:=λR=>by simp
   simp only[a5] at a4 ap;have K:=Mo ap
   clear ap
   have hO:Olds o x:=⟨c0,c1,c2,c3,c4,c5⟩
   have HO:=Mo hO
   clear c0 c1 c2 c3 c4 c5 hO
   go_wp2
   go_loopg [12] 3 (λg L wx=>Below x.heap.size x wx/\((g=3/\L=.int .i64 4/\Tbl x.heap.size (x.heap.size+1) [] 0 wx)\/(g=2/\L=.int .i64 2/\Tbl x.heap.size (x.heap.size+1) [123] 1 wx)\/(g=1/\L=.int .i64 0/\Tbl x.heap.size (x.heap.size+1) [38,123] 2 wx)\/(g=0/\L=.int .i64 (-2)/\Tbl x.heap.size (x.heap.size+1) [60,38,123] 3 wx)))
   case atStart=>exact⟨((ae9 _ _).alloc (ji _) _).alloc (by simp) _,.inl ⟨rfl,rfl,K.out⟩⟩
   case round =>
    obtain⟨m,⟨rfl,rfl,E⟩ | ⟨rfl,rfl,E⟩ | ⟨rfl,rfl,E⟩ | ⟨rfl,rfl,E⟩⟩:=hrel
    ·obtain⟨c0,c1,c2,c3,c4,c5⟩:=HO.out.below m
     have hz:=E.cells (c:=123) (by decide) (by decide);have J:=E.lt;obtain⟨a,v,xs,D,V,X,Y,t5⟩:=E;have hv:=(ad1 wr (x.heap.size+1) 256 a 310 (0,0) D).trans Y;have a1:=λ(x:World) (A:Option Addr) (n c:Nat)=>al4 (P:=Tryz.prog) x 123 5 A n c 0 0 (by kernel_rfl)
     have Q:(convert 123 9 (.slice (some ⟨wr.heap.size,0,none⟩) 1 1)).run Tryz.prog (wr.alloc (.cells #[.int .u8 123] 5))=.ok (.string ⟨#[123]⟩) (wr.alloc (.cells #[.int .u8 123] 5)):=ak6 (P:=Tryz.prog) (wr.alloc (.cells #[.int .u8 123] 5)) 123 9 5 ⟨wr.heap.size,0,none⟩ 1 [123] (by kernel_rfl) (by kernel_rfl) (by kernel_rfl) (λj w=>by
      have:j=0:=by simpa using w
      subst this
      simp [Addr.add])
     have S:=λ(W:World)=>ai5 (P:=Tryz.prog) W 9 123 5 ⟨#[38,108,98,59]⟩ (u:=.string) (by kernel_rfl) (by kernel_rfl) (by kernel_rfl)
     have h:∀ j u,([.string ⟨#[123]⟩]:List Value)[j]?=some u->((wr.alloc (.cells #[.int .u8 123] 5)).alloc (.cells #[.string ⟨#[123]⟩] 9)).cell? (Addr.add ⟨wr.heap.size+1,0,none⟩ j)=some u:=λj u w=>by
      cases j with
      | zero=>simp at w;subst w;simp [Addr.add]
      | succ j=>simp at w
     have B:∀ u∈([.string ⟨#[123]⟩]:List Value),u.oneCell'=true:=λu U=>by rw[kj] at U;subst U;rfl
     have f:x.heap.size<=((wr.alloc (.cells #[.int .u8 123] 5)).alloc (.cells #[.string ⟨#[123]⟩] 9)).heap.size:=by have:=m.size;simp;omega
     have C:((wr.alloc (.cells #[.int .u8 123] 5)).alloc (.cells #[.string ⟨#[123]⟩] 9)).heap[x.heap.size+1]?=some (.cells a 310 (0,0)):=by
      rw[ad3 _ _ _ (by simp;omega),ad3 _ _ _ J];exact D
     have y:v.ownBlock≠some (x.heap.size+1):=by
      rcases t5.2 with ⟨rfl,_⟩ | ⟨g',M,O,rfl,_,T,_⟩
      ·simp [Value.ownBlock]
      ·intro he
       have:g'=x.heap.size+1:=by simpa [Value.ownBlock] using he
       rw[this,D] at T;cases T
     have G:=Mo C;have F:=Mo y;have HB:=Mo m;have H:=Mo t5;have K:=Mo (And.intro V X)
     clear C y X V D
     go_wp2_with (
            at_builtin
            refine ak0 _ rfl (.tmp 119) (.tmp 123) 86 rfl x.heap.size 9 i9 _ 1 16 (by kernel_rfl) av ag ar Z rfl (by decide) v 0 xs rfl ((t5.alloc _).alloc _) ⟨wr.heap.size+1,0,none⟩ 1 1 [.string ⟨#[123]⟩] rfl rfl h B (by decide) (by decide) f ?_;intro v6 w6 i s _;have l:w6.heap[x.heap.size+1]?=some (.cells a 310 (0,0)):=(s.block _ (by simp;omega) (λe=>F.out e.symm)).trans G.out;have ab:w6.cell? ⟨x.heap.size+1,256,none⟩=some v:=(ad1 w6 (x.heap.size+1) 256 a 310 (0,0) l).trans Y;have a2:w6.frozen? ⟨x.heap.size+1,256,none⟩=false:=by simp [World.frozen?,l]
            obtain⟨g6,N,rfl,a0,a3,p⟩:=wZ (v:=123) (cr:=⟨#[38,108,98,59]⟩) (by decide) i l K.out.1 K.out.2 (by decide))
     go_roundg 2
     case measure=>omega
     case rel =>
      have d:=HB.out;have r:Below x.heap.size x w6:=((d.alloc d.size _).alloc (by have:=d.size;simp;omega) _).grown s (by have:=d.size;simp;omega) (λk hk=>(H.out.lt k hk).1);exact⟨(p _).2 x.heap.size x (by omega) r r.size,.inr (.inl ⟨rfl,by go_num,(p _).1⟩)⟩
    ·obtain⟨c0,c1,c2,c3,c4,c5⟩:=HO.out.below m
     have hz:=E.cells (c:=38) (by decide) (by decide);have J:=E.lt;obtain⟨a,v,xs,D,V,X,Y,t5⟩:=E;have hv:=(ad1 wr (x.heap.size+1) 256 a 310 (0,0) D).trans Y;have a1:=λ(x:World) (A:Option Addr) (n c:Nat)=>al4 (P:=Tryz.prog) x 123 5 A n c 0 0 (by kernel_rfl)
     have Q:(convert 123 9 (.slice (some ⟨wr.heap.size,0,none⟩) 1 1)).run Tryz.prog (wr.alloc (.cells #[.int .u8 38] 5))=.ok (.string ⟨#[38]⟩) (wr.alloc (.cells #[.int .u8 38] 5)):=ak6 (P:=Tryz.prog) (wr.alloc (.cells #[.int .u8 38] 5)) 123 9 5 ⟨wr.heap.size,0,none⟩ 1 [38] (by kernel_rfl) (by kernel_rfl) (by kernel_rfl) (λj w=>by
      have:j=0:=by simpa using w
      subst this
      simp [Addr.add])
     have S:=λ(W:World)=>ai5 (P:=Tryz.prog) W 9 123 5 ⟨#[38,97,109,112,59]⟩ (u:=.string) (by kernel_rfl) (by kernel_rfl) (by kernel_rfl)
     have h:∀ j u,([.string ⟨#[38]⟩]:List Value)[j]?=some u->((wr.alloc (.cells #[.int .u8 38] 5)).alloc (.cells #[.string ⟨#[38]⟩] 9)).cell? (Addr.add ⟨wr.heap.size+1,0,none⟩ j)=some u:=λj u w=>by
      cases j with
      | zero=>simp at w;subst w;simp [Addr.add]
      | succ j=>simp at w
     have B:∀ u∈([.string ⟨#[38]⟩]:List Value),u.oneCell'=true:=λu U=>by rw[kj] at U;subst U;rfl
     have f:x.heap.size<=((wr.alloc (.cells #[.int .u8 38] 5)).alloc (.cells #[.string ⟨#[38]⟩] 9)).heap.size:=by have:=m.size;simp;omega
     have C:((wr.alloc (.cells #[.int .u8 38] 5)).alloc (.cells #[.string ⟨#[38]⟩] 9)).heap[x.heap.size+1]?=some (.cells a 310 (0,0)):=by
      rw[ad3 _ _ _ (by simp;omega),ad3 _ _ _ J];exact D
     have y:v.ownBlock≠some (x.heap.size+1):=by
      rcases t5.2 with ⟨rfl,_⟩ | ⟨g',M,O,rfl,_,T,_⟩
      ·simp [Value.ownBlock]
      ·intro he
       have:g'=x.heap.size+1:=by simpa [Value.ownBlock] using he
       rw[this,D] at T;cases T
     have G:=Mo C;have F:=Mo y;have HB:=Mo m;have H:=Mo t5;have K:=Mo (And.intro V X)
     clear C y X V D
     go_wp2_with (
            at_builtin
            refine ak0 _ rfl (.tmp 119) (.tmp 123) 86 rfl x.heap.size 9 i9 _ 1 16 (by kernel_rfl) av ag ar Z rfl (by decide) v 1 xs rfl ((t5.alloc _).alloc _) ⟨wr.heap.size+1,0,none⟩ 1 1 [.string ⟨#[38]⟩] rfl rfl h B (by decide) (by decide) f ?_;intro v6 w6 i s _;have l:w6.heap[x.heap.size+1]?=some (.cells a 310 (0,0)):=(s.block _ (by simp;omega) (λe=>F.out e.symm)).trans G.out;have ab:w6.cell? ⟨x.heap.size+1,256,none⟩=some v:=(ad1 w6 (x.heap.size+1) 256 a 310 (0,0) l).trans Y;have a2:w6.frozen? ⟨x.heap.size+1,256,none⟩=false:=by simp [World.frozen?,l]
            obtain⟨g6,N,rfl,a0,a3,p⟩:=wZ (v:=38) (cr:=⟨#[38,97,109,112,59]⟩) (by decide) i l K.out.1 K.out.2 (by decide))
     go_roundg 1
     case measure=>omega
     case rel =>
      have d:=HB.out;have r:Below x.heap.size x w6:=((d.alloc d.size _).alloc (by have:=d.size;simp;omega) _).grown s (by have:=d.size;simp;omega) (λk hk=>(H.out.lt k hk).1);exact⟨(p _).2 x.heap.size x (by omega) r r.size,.inr (.inr (.inl ⟨rfl,by go_num,(p _).1⟩))⟩
    ·obtain⟨c0,c1,c2,c3,c4,c5⟩:=HO.out.below m
     have hz:=E.cells (c:=60) (by decide) (by decide);have J:=E.lt;obtain⟨a,v,xs,D,V,X,Y,t5⟩:=E;have hv:=(ad1 wr (x.heap.size+1) 256 a 310 (0,0) D).trans Y;have a1:=λ(x:World) (A:Option Addr) (n c:Nat)=>al4 (P:=Tryz.prog) x 123 5 A n c 0 0 (by kernel_rfl)
     have Q:(convert 123 9 (.slice (some ⟨wr.heap.size,0,none⟩) 1 1)).run Tryz.prog (wr.alloc (.cells #[.int .u8 60] 5))=.ok (.string ⟨#[60]⟩) (wr.alloc (.cells #[.int .u8 60] 5)):=ak6 (P:=Tryz.prog) (wr.alloc (.cells #[.int .u8 60] 5)) 123 9 5 ⟨wr.heap.size,0,none⟩ 1 [60] (by kernel_rfl) (by kernel_rfl) (by kernel_rfl) (λj w=>by
      have:j=0:=by simpa using w
      subst this
      simp [Addr.add])
     have S:=λ(W:World)=>ai5 (P:=Tryz.prog) W 9 123 5 ⟨#[38,108,116,59]⟩ (u:=.string) (by kernel_rfl) (by kernel_rfl) (by kernel_rfl)
     have h:∀ j u,([.string ⟨#[60]⟩]:List Value)[j]?=some u->((wr.alloc (.cells #[.int .u8 60] 5)).alloc (.cells #[.string ⟨#[60]⟩] 9)).cell? (Addr.add ⟨wr.heap.size+1,0,none⟩ j)=some u:=λj u w=>by
      cases j with
      | zero=>simp at w;subst w;simp [Addr.add]
      | succ j=>simp at w
     have B:∀ u∈([.string ⟨#[60]⟩]:List Value),u.oneCell'=true:=λu U=>by rw[kj] at U;subst U;rfl
     have f:x.heap.size<=((wr.alloc (.cells #[.int .u8 60] 5)).alloc (.cells #[.string ⟨#[60]⟩] 9)).heap.size:=by have:=m.size;simp;omega
     have C:((wr.alloc (.cells #[.int .u8 60] 5)).alloc (.cells #[.string ⟨#[60]⟩] 9)).heap[x.heap.size+1]?=some (.cells a 310 (0,0)):=by
      rw[ad3 _ _ _ (by simp;omega),ad3 _ _ _ J];exact D
     have y:v.ownBlock≠some (x.heap.size+1):=by
      rcases t5.2 with ⟨rfl,_⟩ | ⟨g',M,O,rfl,_,T,_⟩
      ·simp [Value.ownBlock]
      ·intro he
       have:g'=x.heap.size+1:=by simpa [Value.ownBlock] using he
       rw[this,D] at T;cases T
     have G:=Mo C;have F:=Mo y;have HB:=Mo m;have H:=Mo t5;have K:=Mo (And.intro V X)
     clear C y X V D
     go_wp2_with (
            at_builtin
            refine ak0 _ rfl (.tmp 119) (.tmp 123) 86 rfl x.heap.size 9 i9 _ 1 16 (by kernel_rfl) av ag ar Z rfl (by decide) v 2 xs rfl ((t5.alloc _).alloc _) ⟨wr.heap.size+1,0,none⟩ 1 1 [.string ⟨#[60]⟩] rfl rfl h B (by decide) (by decide) f ?_;intro v6 w6 i s _;have l:w6.heap[x.heap.size+1]?=some (.cells a 310 (0,0)):=(s.block _ (by simp;omega) (λe=>F.out e.symm)).trans G.out;have ab:w6.cell? ⟨x.heap.size+1,256,none⟩=some v:=(ad1 w6 (x.heap.size+1) 256 a 310 (0,0) l).trans Y;have a2:w6.frozen? ⟨x.heap.size+1,256,none⟩=false:=by simp [World.frozen?,l]
            obtain⟨g6,N,rfl,a0,a3,p⟩:=wZ (v:=60) (cr:=⟨#[38,108,116,59]⟩) (by decide) i l K.out.1 K.out.2 (by decide))
     go_roundg 0
     case measure=>omega
     case rel =>
      have d:=HB.out;have r:Below x.heap.size x w6:=((d.alloc d.size _).alloc (by have:=d.size;simp;omega) _).grown s (by have:=d.size;simp;omega) (λk hk=>(H.out.lt k hk).1);exact⟨(p _).2 x.heap.size x (by omega) r r.size,.inr (.inr (.inr ⟨rfl,by go_num,(p _).1⟩))⟩
    ·go_wp2
     go_ret
     exact⟨_,rfl,m,by omega,E⟩
end Rpl
namespace Rpl
set_option maxHeartbeats 4000000
variable{eb:Program}{x:World}
def GL(w:World)(t e:TypeId)(a:Option Addr)(n c n' c':Nat)(h:eb.underlying t=some (.slice e)):
  (binOp .neq t (.slice a n c) (.slice none n' c')).run eb w=.ok (.bool !a.isNone) w:=by
 simp only[binOp];simp [Op.equal,Op.maxDepth,Lib.run_equalIn_slice_nil w 9999 t e a n c n' c' h]
def Af(B q:Nat)(cr:ByteArray)(m:Tbl B q [60,38,123] 3 x)(K:cr.size<24)(k:∀ i,(h:i<cr.size)->cr[i].toNat ∉ [60,38,123]):
  Calls Tryz.prog 303 #[.pointer (some ⟨q,0,none⟩),.string cr] x λe w'=>e=.returned (.string cr)/\w'=x:=by
 have a:∀ i,(h:i<cr.size)->x.cell? ⟨q,cr[i].toNat,none⟩=some (.slice none 0 0):=λi h=>m.cells (by have:=cr[i].toNat_lt;omega) (k i h)
 obtain⟨d,v,xs,o,G,H,p,t5⟩:=m;have L:=(ad1 x q 256 d 310 (0,0) o).trans p;have b:∃ g cap,v=.slice (some ⟨g,0,none⟩) 3 cap:=by
  rcases t5.2 with ⟨_,h⟩ | ⟨g,cap,r,h,_⟩
  ·omega
  ·exact⟨g,cap,h⟩
 obtain⟨g,cap,rfl⟩:=b;have l:=λ(x:World) (A:Option Addr) (n c:Nat)=>GL (eb:=Tryz.prog) x 123 5 A n c 0 0 (by kernel_rfl)
 have C:¬ (24<=(cr.size:Int)):=by omega
 clear o G H p t5
 go_enter Tryz.func303,Tryz.ntmps303
 go_wp2
 go_loopg [10,5,6] cr.size (λg j E F I=>I=x/\∃ i:Nat,i+g=cr.size/\j=.int .i64 (i:Int)/\E=.int .i64 (cr.size:Int)/\F=.bool false)
 case atStart=>exact⟨rfl,0,by omega,rfl,rfl,rfl⟩
 case round =>
  obtain⟨D,i,hi,rfl,rfl,rfl⟩:=hrel
  cases gk with
  | zero =>
   obtain rfl:i=cr.size:=by omega
   go_wp2
   go_ret
   exact⟨rfl,rfl⟩
  | succ g =>
   have f:i<cr.size:=by omega
   have J:=a i f;have y:0<=(i:Int):=by omega
   have hi1:(i:Int)<cr.size:=by omega
   have u:((cr[i].toNat:Nat):Int)<256:=by have:=cr[i].toNat_lt;omega
   have s:(0:Int)<=((cr[i].toNat:Nat):Int):=by omega
   have w:cr[i].toNat<256:=by have:=cr[i].toNat_lt;omega
   subst D
   clear a k
   go_wp2
   go_roundg g
   case measure=>omega
   case rel=>exact⟨rfl,i+1,by omega,by go_num,rfl,rfl⟩
end Rpl
namespace Rpl
set_option maxHeartbeats 4000000
variable{I:Value}{bk:Array Value}{n q:Nat}{r:List Nat}{x:World}
def pY{c d a b:Value}(h:x.heap[n]?=some (.cells #[I,c,d,a,b] 250 (0,0))):n<x.heap.size/\x.cell? ⟨n,0,none⟩=some I/\x.cell? ⟨n,1,none⟩=some c/\x.cell? ⟨n,3,none⟩=some a/\x.cell? ⟨n,4,none⟩=some b/\∀ i,x.frozen? ⟨n,i,none⟩=false:=by
 refine⟨(kw.1 h).1,?_,?_,?_,?_,λi=>by simp [World.frozen?,h]⟩<;>(rw[ad1 x n _ _ 250 (0,0) h];rfl)
def vK(h:x.heap[n]?=some (.cells bk 250 (0,0)))(i:Nat)(V:Value):(x.setCell ⟨n,i,none⟩ V).heap[n]?=some (.cells (bk.setIfInBounds i V) 250 (0,0)):=by
 rw[ak1 x n i bk 250 (0,0) V h];exact af4 x n _ _ 250 _ h
def Tbl.setb{j R i:Nat}(h:Tbl j q r n x)(k:R<j)(l:R≠q):Tbl j q r n (x.setCell ⟨R,i,none⟩ I):=by
 obtain⟨b,v,xs,c,d,e,f,g⟩:=h;exact⟨b,v,xs,(am4 x ⟨R,i,none⟩ I q (ad9 l)).trans c,d,e,f,ownsRow_setCell_below g (a:=⟨R,i,none⟩) k I⟩
def Tbl.drew{j:Nat}(h:Tbl j q r n x):Tbl j q r n x.drew:=h
def Ay(b o c:Nat)(n m u:Value)(r:Olds o x)(y:6<=c)(j:x.heap[b]?=some (.cells #[I,n,m,u,.slice (some ⟨o,0,none⟩) 6 c] 250 (0,0))):
  Calls Tryz.prog 174 #[.pointer (some ⟨b,0,none⟩)] x λe w'=>e=.returned (.tuple #[])/\∃ q,Below b x w'/\x.heap.size<=q/\w'.heap[b]?=some (.cells #[I,n,m,.iface 311 (.pointer (some ⟨q,0,none⟩)),.slice none 0 0] 250 (0,0))/\Tbl x.heap.size q [60,38,123] 3 w':=by
 obtain⟨f,J,K,L,B,A⟩:=pY j;have a:=ra b o c (x:=x) r y B;have s:=Mo a;have i:=Mo j
 clear a r j
 go_enter Tryz.func174,Tryz.ntmps174
 go_wp2_with (go_at_call 216;refine (s.out).mono ?_;rintro e C ⟨q,rfl,h,k,l⟩;have d:=(h.block b f).trans i.out;obtain⟨_,E,F,G,H,g⟩:=pY d;have D:=g 3;have v:=g 4;have w:(C.setCell ⟨b,3,none⟩ (.iface 311 (.pointer (some ⟨q,0,none⟩)))).frozen? ⟨b,4,none⟩=false:=by simp [v])
 go_end0
 refine⟨rfl,q,((h.mono (al0 f)).setCell (p:=⟨b,3,none⟩) (ji _) _).setCell (p:=⟨b,4,none⟩) (ji _) _,k,?_,?_⟩
 ·exact vK (vK d 3 _) 4 _
 ·exact (l.setb f (by omega)).setb f (by omega)
def LW{fc b:World}(d:Below n x fc)(g:x.heap.size<=q)(e:fc.heap[n]?=some (.cells #[.int .u32 0,.int .i32 1,I,.iface 311 (.pointer (some ⟨q,0,none⟩)),.slice none 0 0] 250 (0,0)))(f:Tbl x.heap.size q [60,38,123] 3 fc)(a:n<x.heap.size)
  (c:b=(fc.drew.setCell ⟨n,0,none⟩ (.int .u32 1)).setCell ⟨n,0+1,none⟩ (.int .i32 0)):Below n x b/\b.heap[n]?=some (.cells #[.int .u32 1,.int .i32 0,I,.iface 311 (.pointer (some ⟨q,0,none⟩)),.slice none 0 0] 250 (0,0))/\Tbl x.heap.size q [60,38,123] 3 b:=by
 subst c;refine⟨(d.drew.setCell (p:=⟨n,0,none⟩) (ji _) _).setCell (p:=⟨n,0+1,none⟩) (ji _) _,?_,?_⟩
 ·exact vK (vK (x:=fc.drew) e 0 _) 1 _
 ·exact (f.drew.setb a (by omega)).setb a (by omega)
def QG(b o c:Nat)(C:Value)(cr:ByteArray)(g:Olds o x)(d:o<b)(F:6<=c)(w:x.heap[b]?=some (.cells #[.int .u32 0,.int .i32 0,I,C,.slice (some ⟨o,0,none⟩) 6 c] 250 (0,0)))(J:cr.size<24)(G:∀ i,(h:i<cr.size)->cr[i].toNat ∉ [60,38,123]):
  Calls Tryz.prog 136 #[.pointer (some ⟨b,0,none⟩),.string cr] x λe w'=>e=.returned (.string cr)/\Below b x w':=by
 obtain⟨y,N,O,U,V,A⟩:=pY w;have f:=vK w 1 (.int .i32 1);have k:Olds o (x.setCell ⟨b,0+1,none⟩ (.int .i32 1)):=by
  have H:o≠b:=by omega
  have a:Below b x (x.setCell ⟨b,1,none⟩ (.int .i32 1)):=(ae9 _ _).setCell (p:=⟨b,1,none⟩) (ji _) _;exact⟨(a.cell (p:=⟨o,0,none⟩) d).trans g.c0,(a.cell (p:=⟨o,1,none⟩) d).trans g.c1,(a.cell (p:=⟨o,2,none⟩) d).trans g.c2,(a.cell (p:=⟨o,3,none⟩) d).trans g.c3,(a.cell (p:=⟨o,4,none⟩) d).trans g.c4,(a.cell (p:=⟨o,5,none⟩) d).trans g.c5⟩
 have j:=Once.do_gen b 0 (I:=.pointer (some ⟨b,0,none⟩)) x (Q:=(λs=>∃ q,Below b x s/\x.heap.size<=q/\s.heap[b]?=some (.cells #[.int .u32 0,.int .i32 1,I,.iface 311 (.pointer (some ⟨q,0,none⟩)),.slice none 0 0] 250 (0,0))/\Tbl x.heap.size q [60,38,123] 3 s)) N O (A 1)
  ((Ay b o c (I:=.int .u32 0) (.int .i32 1) I C (x:=x.setCell ⟨b,0+1,none⟩ (.int .i32 1)) k F f).mono (by
   rintro e s ⟨rfl,q,u,m,n,r⟩
   obtain⟨_,K,L,M,T,D⟩:=pY n;have B:(x.setCell ⟨b,0+1,none⟩ (.int .i32 1)).heap.size=x.heap.size:=by simp
   rw[B] at m r
   exact⟨rfl,K,D 0,L,D 1,q,((ae9 _ _).setCell (p:=⟨b,0+1,none⟩) (ji _) _).trans u,m,n,r⟩))
 have E:=Mo j
 clear j g w f k
 have S:∀ (x:World) (v:Value),(method 481 311 v "Replace").run Tryz.prog x=.ok (303,v) x:=λx v=>by kernel_rfl
 go_enter Tryz.func136,Tryz.ntmps136
 go_wp2_with (first
  | (go_at_call 173;refine (E.out).mono ?_;rintro e X ⟨rfl,s,⟨q,u,m,n,r⟩,l⟩;obtain⟨P,m2,R⟩:=LW u m n r y l;clear l u m n r;obtain⟨_,_,_,M,_⟩:=pY m2)
  | (go_at_call 303;refine (Af x.heap.size q cr R J G).mono ?_;rintro e Y ⟨rfl,rfl⟩))
 go_ret
 exact⟨rfl,P⟩
def lN:List Value:=[.string ⟨#[60]⟩,.string ⟨#[38,108,116,59]⟩,.string ⟨#[38]⟩,.string ⟨#[38,97,109,112,59]⟩,.string ⟨#[123]⟩,.string ⟨#[38,108,98,59]⟩]
def mz(h:x.ownsRow n 9 1 I (0+6) ([]++lN)):∃ g cap,I=.slice (some ⟨g,0,none⟩) (0+6) cap/\n<=g/\g<x.heap.size/\6<=cap/\Olds g x:=by
 obtain⟨_,⟨_,k⟩ | ⟨g,cap,a,rfl,d,b,l,m,o,i⟩⟩:=h
 ·omega
 ·refine⟨g,cap,rfl,d,(kw.1 b).1,by omega,?_⟩
  have key:∀ j u,lN[j]?=some u->x.cell? ⟨g,j,none⟩=some u:=λj u c=>by
   rw[ad1 x g j a 9 (0,0) b];have f:j<6:=by
    have:=(jh.1 c).1
    simpa [lN] using this
   have e:(a.toList.take ((0+6)*1))[j]?=some u:=by rw[i];simpa using c
   rw[Vz,iw (by omega)] at e;simpa using e
  exact⟨key 0 _ rfl,key 1 _ rfl,key 2 _ rfl,key 3 _ rfl,key 4 _ rfl,key 5 _ rfl⟩
def UW(n q:Nat)(g:Olds n x)(M:6<=q):
  Calls Tryz.prog 135 #[.slice (some ⟨n,0,none⟩) 6 q] x λe w'=>∃ b o c C D,e=.returned (.pointer (some ⟨b,0,none⟩))/\Below x.heap.size x w'/\x.heap.size<=b/\o<b/\6<=c/\Olds o w'/\w'.heap[b]?=some (.cells #[.int .u32 0,.int .i32 0,C,D,.slice (some ⟨o,0,none⟩) 6 c] 250 (0,0)):=by
 obtain⟨i9,s,A,y,m⟩:=ao4 Pv;have f:∀ j u,lN[j]?=some u->x.cell? (Addr.add ⟨n,0,none⟩ j)=some u:=λj u a=>by
  have e:Addr.add ⟨n,0,none⟩ j=⟨n,j,none⟩:=by unfold Addr.add;split<;>simp_all
  rw[e];have F:=g.c0;have G:=g.c1;have H:=g.c2;have I:=g.c3;have J:=g.c4;have K:=g.c5
  match j,a with
  | 0,a=>simp [lN] at a;rw[<- a];exact F
  | 1,a=>simp [lN] at a;rw[<- a];exact G
  | 2,a=>simp [lN] at a;rw[<- a];exact H
  | 3,a=>simp [lN] at a;rw[<- a];exact I
  | 4,a=>simp [lN] at a;rw[<- a];exact J
  | 5,a=>simp [lN] at a;rw[<- a];exact K
  | j+6,a=>simp [lN] at a
 have l:∀ u∈lN,u.oneCell'=true:=by
  intro u B;simp only[lN,la,ad8,ak3] at B;rcases B with rfl | rfl | rfl | rfl | rfl | rfl<;>rfl
 clear g
 go_enter Tryz.func135,Tryz.ntmps135
 go_wp2_with (
        at_builtin
        refine ak0 _ rfl (.const (.slice none 0 0)) (.tmp 8) 86 rfl x.heap.size 9 i9 _ 1 16 (by kernel_rfl) s A y m rfl (by decide) (.slice none 0 0) 0 [] rfl (World.ownsRow_nil _ _ _ _) ⟨n,0,none⟩ 6 q lN rfl rfl f l (by decide) (by decide) (ji _) ?_;intro O w6 h r _
        obtain⟨E,i,rfl,L,v,p,w⟩:=mz h)
 go_ret
 have d:Below x.heap.size x w6:=(ae9 _ _).grown r (ji _) (λk N=>by simp [Value.ownBlock] at N);exact⟨_,rfl,d.alloc d.size _,d.size,E,v,i,p,w.below ((ae9 _ _).alloc (ji _) _),_,_,ae2 w6 _⟩
end Rpl
namespace Rpl
set_option maxHeartbeats 4000000
variable{cr:ByteArray}
def Eq:(ByteArray.mk #[])++cr=cr:=by
 apply ByteArray.ext;simp
def enc_x(p s y:Nat)(x:World)(X:1<=y)(d:∀ W,Below x.heap.size x W->W.cell? ⟨p,s,none⟩=some (.int .i64 1)/\W.cell? ⟨p,s+1,none⟩=some (.string cr)/\W.cell? ⟨p,s+2,none⟩=some (.int .i64 0))
  (k:Calls Tryz.prog 64 #[.slice (some ⟨p,s,none⟩) 1 y] x λe w'=>e=.returned (.int .i64 0)/\Below x.heap.size x w')(Z:cr.size<24)(J:∀ i,(h:i<cr.size)->cr[i].toNat ∉ [60,38,123]):
  Calls Tryz.prog 95 #[.slice (some ⟨p,s,none⟩) 1 y] x λe w'=>e=.returned (.tuple #[.string cr,.int .i64 0])/\Below x.heap.size x w':=by
 have O:=Mo k;have N:=Mo J;have q:∀ W:World,Calls Tryz.prog 135 #[.slice (some ⟨W.heap.size,0,none⟩) 6 6] (W.alloc (.cells #[.string ⟨#[60]⟩,.string ⟨#[38,108,116,59]⟩,.string ⟨#[38]⟩,.string ⟨#[38,97,109,112,59]⟩,.string ⟨#[123]⟩,.string ⟨#[38,108,98,59]⟩] 9)) λe w'=>∃ b o c m n,e=.returned (.pointer (some ⟨b,0,none⟩))/\Below W.heap.size W w'/\W.heap.size<=b/\o<b/\6<=c/\Olds o w'/\w'.heap[b]?=some (.cells #[.int .u32 0,.int .i32 0,m,n,.slice (some ⟨o,0,none⟩) 6 c] 250 (0,0)):=λW=>by
  have Y:Olds W.heap.size (W.alloc (.cells #[.string ⟨#[60]⟩,.string ⟨#[38,108,116,59]⟩,.string ⟨#[38]⟩,.string ⟨#[38,97,109,112,59]⟩,.string ⟨#[123]⟩,.string ⟨#[38,108,98,59]⟩] 9)):=by
   constructor<;>(rw[ad1 _ _ _ _ 9 (0,0) (ae2 W _)];rfl)
  refine (UW W.heap.size 6 Y (by omega)).mono ?_
  rintro e w' ⟨b,o,c,m,n,rfl,H,P,Q,S,T,U⟩
  have G:(W.alloc (.cells #[.string ⟨#[60]⟩,.string ⟨#[38,108,116,59]⟩,.string ⟨#[38]⟩,.string ⟨#[38,97,109,112,59]⟩,.string ⟨#[123]⟩,.string ⟨#[38,108,98,59]⟩] 9)).heap.size=W.heap.size+1:=by simp
  rw[G] at H P;exact⟨b,o,c,m,n,rfl,((ae9 _ _).alloc (ji _) _).trans (H.mono (by omega)),by omega,Q,S,T,U⟩
 have w:=Mo q;have M:=Mo d
 clear k J q d
 go_enter Tryz.func95,Tryz.ntmps95
 go_wp2_with (first
  | (go_at_call 64;refine (O.out).mono ?_;rintro e w1 ⟨rfl,l⟩)
  | (go_at_call 135;refine (w.out _).mono ?_;rintro e w2 ⟨b,o,c,m,n,rfl,A,V,F,D,r,a⟩))
 go_loopg [18,6] 1 (λg u K L=>Below x.heap.size x L/\((g=1/\u=.int .i64 0/\K=.string ⟨#[]⟩/\L=w2)\/(g=0/\u=.int .i64 1/\K=.string cr)))
 case atStart=>exact⟨l.trans (A.mono l.size),.inl ⟨rfl,rfl,rfl,rfl⟩⟩
 case round =>
  obtain⟨j,⟨rfl,rfl,rfl,rfl⟩ | ⟨rfl,rfl,rfl⟩⟩:=hrel
  ·have E:=M.out _ j
   obtain⟨k0,k1,k2⟩:=E;have C:b<wr.heap.size:=(kw.1 a).1;have f:∀ R:Obj,Calls Tryz.prog 136 #[.pointer (some ⟨b,0,none⟩),.string cr] (wr.alloc R) λe w'=>e=.returned (.string cr)/\Below b (wr.alloc R) w':=λR =>
    QG b o c (I:=m) n cr (r.below ((ae9 _ _).alloc (ji _) _)) F D ((ad3 wr R b C).trans a) Z N.out
   have v:=Mo f
   clear f a r
   go_wp2_with (go_at_call 136;refine (v.out _).mono ?_;rintro e w5 ⟨rfl,B⟩)
   go_roundg 0
   case measure=>omega
   case rel=>exact⟨(j.alloc j.size _).trans (B.mono (by have:=l.size;omega)),.inr ⟨rfl,by go_num,by rw[Eq]⟩⟩
  ·go_wp2
   go_ret2
   exact⟨rfl,j⟩
end Rpl
end Go.Av
namespace Go.Nt
variable{V e:List It}{k:Int}{n:Nat}{s:It}
def gK(l:List Int)(x:It):List Int:=if bC x=true/\x.2.2 ∉ l then l++[x.2.2] else l
def cF(f:List It):List Int:=f.foldl gK []
def lkz:List Int->List Int->Int->Option Int
 | a::c,b::bs,i=>if a=i then some b else lkz c bs i
 | _,_,_=>none
def zO(fr a:List Int)(x:It):Option It:=if bC x=true then (lkz fr a x.2.2).map λn=>(x.1,x.2.1,n) else some x
def rC(fr a:List Int)(f:List It):List It:=f.filterMap (zO fr a)
def eK(n:Nat):List Int:=(List.range n).map λ(i:Nat)=>(i:Int)+1
def hJ:(eK n).length=n:=by simp [eK]
def RZ:eK (n+1)=eK n++[(n:Int)+1]:=by simp [eK,range_succ]
def XU(L:List Int)(h:k∈L):k∈gK L s:=by
 unfold gK;split
 ·simp [h]
 ·exact h
def IE:∀ (f:List It) (l:List Int) (i:Int),i∈l->i∈f.foldl gK l
 | [],l,i,h=>h
 | x::f,l,i,h=>IE f _ i (XU l (s:=x) (k:=i) h)
def ID:∀ (f:List It) (l:List Int) (x:It),x∈f->bC x=true->x.2.2∈f.foldl gK l
 | y::f,l,x,h,a=>by
  rw[ac6];rcases la.1 h with rfl | h
  ·refine IE f _ _ ?_
   unfold gK;by_cases q:x.2.2∈l
   ·rw[ie (λz=>z.2 q)];exact q
   ·rw[iw ⟨a,q⟩];simp
  ·exact ID f _ x h a
def nE(h:s∈e)(a:bC s=true):s.2.2∈cF e:=ID e [] s h a
def IF:∀ (f:List It) (l:List Int),(f.foldl gK l).length<=l.length+f.length
 | [],l=>by simp
 | x::f,l=>by
  have:=IF f (gK l x)
  have a:(gK l x).length<=l.length+1:=by unfold gK;split<;>simp
  rw[ac6,jd];omega
def HA:(cF e).length<=e.length:=by have:=IF e [];simpa [cF] using this
def AF:∀ (l d:List Int) (i v:Int),lkz l d i=some v->∃ j:Nat,l[j]?=some i/\d[j]?=some v
 | [],_,i,v,h=>by simp [lkz] at h
 | a::c,[],i,v,h=>by simp [lkz] at h
 | a::c,b::bs,i,v,h=>by
  simp only[lkz] at h
  split at h
  ·rename_i e;cases h;exact⟨0,by simp [e],rfl⟩
  ·obtain⟨j,f,g⟩:=AF c bs i v h
   exact⟨j+1,by simpa using f,by simpa using g⟩
def HY:∀ (l d:List Int) (i:Int),l.length<=d.length->i∈l->∃ v,lkz l d i=some v
 | [],_,i,_,h=>by cases h
 | a::c,[],i,h,_=>by simp at h
 | a::c,b::bs,i,h,f=>by
  simp only[lkz];by_cases e:a=i
  ·exact⟨b,by rw[iw e]⟩
  ·rw[ie e]
   refine HY c bs i (by simpa using h) ?_;rcases la.1 f with q | q
   ·exact absurd q.symm e
   ·exact q
def tN{j:Nat}(h:(eK n)[j]?=some k):k=(j:Int)+1/\j<n:=by
 unfold eK at h;rw[aa5,jf] at h;obtain⟨a,b,e⟩:=h;rw[jh] at b;obtain⟨c,d⟩:=b;simp at c d;omega
def sig(f:List It)(i:Int):Int:=(lkz (cF f) (eK (cF f).length) i).getD 0
def pE(h:k∈cF e):lkz (cF e) (eK (cF e).length) k=some (sig e k):=by
 obtain⟨v,a⟩:=HY (cF e) (eK (cF e).length) k (by rw[hJ];exact ji _) h;rw[a];unfold sig;rw[a];rfl
def TK(h:k∈cF e):1<=sig e k/\sig e k<=((cF e).length:Int):=by
 obtain⟨j,b,a⟩:=AF _ _ _ _ (pE h);obtain⟨c,d⟩:=tN a;omega
def ax{D:Int}(hi:D∈cF e)(g:k∈cF e)(h:sig e D=sig e k):D=k:=by
 obtain⟨j,c,d⟩:=AF _ _ _ _ (pE hi);obtain⟨i,a,b⟩:=AF _ _ _ _ (pE g);obtain⟨l,_⟩:=tN d;obtain⟨f,_⟩:=tN b
 have:j=i:=by omega
 subst this;rw[c] at a;cases a;rfl
def phi(f:List It)(x:It):It:=if bC x=true then (x.1,x.2.1,sig f x.2.2) else x
def rJ(f:List It)(x:It):(phi f x).1=x.1/\(phi f x).2.1=x.2.1:=by unfold phi;split<;>simp
def yM:bC (phi e s)=bC s:=by unfold bC;rw[(rJ e s).1]
def mt:wid (phi e s)=wid s:=by unfold wid;rw[(rJ e s).1,(rJ e s).2]
def QK:cX (V.map (phi e))=cX V:=by
 rcases dS V with rfl | ⟨B,y,rfl⟩
 ·rfl
 ·rw[af5,map_singleton,dB,dB,(rJ e y).1]
def QL{de:It}(c:s∈V)(d:de∈V)(b:bC s=true):dU (phi V s) (phi V de)=dU s de:=by
 unfold dU;rw[yM,(rJ V s).1,(rJ V s).2,(rJ V de).1,(rJ V de).2];cases a:bC de with
 | false=>rfl
 | true =>
  have e:decide ((phi V de).2.2=(phi V s).2.2)=decide (de.2.2=s.2.2):=by
   unfold phi;rw[iw a,iw b,ag5];exact⟨λq=>ax (nE d a) (nE c b) q,λq=>by simp only[];rw[q]⟩
  rw[e]
def mu{fh:List It}(o:(cF V).length<=999)(j:∀ y∈fh,y∈V)(f:s∈V)(h:chk fh s=0):chk (fh.map (phi V)) (phi V s)=0:=by
 rw[qW] at h ⊢;have a:wfB fh s=true:=by
  cases q:wfB fh s with
  | true=>rfl
  | false=>rw[q] at h;simp at h
 rw[a] at h;have c:wfB (fh.map (phi V)) (phi V s)=true:=by
  by_cases b:bC s=true
  ·have n:=TK (nE f b)
   have g:¬ s.1=1:=λq=>by rw[l7 q] at b;cases b
   have i:¬ s.1=5:=λq=>by unfold bC at b;rw[q] at b;simp at b
   unfold wfB at a ⊢;rw[(rJ V s).1,(rJ V s).2];rw[ie g,ie i] at a ⊢;have e:(phi V s).2.2=sig V s.2.2:=by unfold phi;rw[iw b]
   rw[e]
   split at a
   ·rename_i q
    rw[iw q];simp only[ir,jo] at a ⊢;exact⟨a.1,by omega,by omega⟩
   ·rename_i q
    rw[ie q]
    split at a
    ·rename_i m
     rw[iw m];simp only[ir,jo] at a ⊢;exact⟨a.1,by omega,by omega⟩
    ·cases a
  ·have e:phi V s=s:=by unfold phi;rw[ie b]
   rw[e];unfold wfB at a ⊢;rw[QK];exact a
 rw[c,yM];simp only[kp] at h ⊢;cases b:bC s with
 | false=>rfl
 | true =>
  rw[b] at h;simp only[kp] at h ⊢;have e:oV (fh.map (phi V)) (phi V s)=oV fh s:=by
   unfold oV
   congr 1
   rw[any_map]
   have:∀ B:List It,(∀ y∈B,y∈V)->B.any (dU (phi V s) ∘ phi V)=B.any (dU s):=by
    intro B
    induction B with
    | nil=>intro _;rfl
    | cons y B l =>
     intro d;rw[any_cons,any_cons,l (λz k=>d z (by simp [k]))];show (dU (phi V s) (phi V y)||_)=_;rw[QL f (d y (by simp)) b]
   exact this fh j
  rw[e];exact h
def G3{f:List It}(e:(cF f).length<=999):∀ (B A:List It),(∀ y∈A,y∈f)->(∀ y∈B,y∈f)->dV A B=0->dV (A.map (phi f)) (B.map (phi f))=0
 | [],A,_,_,_=>rfl
 | x::B,A,d,a,h=>by
  simp only[dV] at h;have c:chk A x=0:=by
   by_cases q:chk A x=0
   ·exact q
   ·rw[iw q] at h;exact absurd h q
  rw[ie (by simp [c])] at h;have i:=mu e d (a x (by simp)) c
  have g:=G3 e B (A++[x]) (λy b=>by
   rcases ng.1 b with q | q
   ·exact d y q
   ·simp only[kj] at q;subst q;exact a y (by simp)) (λy b=>a y (by simp [b])) h
  rw[af5,map_singleton] at g;rw[ju];simp only[dV];rw[ie (by simp [i])];exact g
end Go.Nt
namespace Go.Av
open Go.Nt
variable{D iy k:Int}{K:List UInt8}{L ft:List Int}{N:Tk}{b bu:List Tk}{c:LL}{d:Bool}{dt y:List (List UInt8)}{h:AV}{iz:List (Int×Int)}{j n:Nat}{p:UInt8}{u:Bs}
variable [Mx]
def mdR(b:Bool):Own:=if b then .own else .full
def Bk(b:Bool):Own:=if b then .no else .full
def Bl:mdR d≠.no:=by cases d<;>decide
def iF:aJ (.sl (mdR d) n c)=.sl (Bk d) n c:=by cases d<;>rfl
def qT:aJ (.sl (Bk d) n c)=.sl (Bk d) n c:=by cases d<;>rfl
def wY(b1:Bool)(fl:List Tk)(x:Tk)(h:fl.length<=1000000):iN false 3 32 (.sl (mdR b1) 3 (tks fl)) (.sl .full 3 [[.int .i64 x.1,.str x.2.1,.int .i64 x.2.2]])=some (.sl .own 3 (tks (fl++[x]))):=by
 have a:aU 32 (fl.length+1)=true:=aL (by decide) (by omega);rw[bJ (mdR b1) .full (Bl (d:=b1)) 3 32 (by decide),aD,jy,iw a,<- iV];rfl
def spm(l:List Int):List (List AV):=l.map λi=>[.int .i64 i,.bool true]
def VD(i:Int):∀ l:List Int,lkA [0] (.int .i64 i) (spm l)=some (if i∈l then some (.bool true) else none)
 | []=>rfl
 | k::r=>by
  have a:=VD i r;have e:spm (k::r)=[.int .i64 k,.bool true]::spm r:=rfl;rw[e];simp only[lkA,oT,eqL,kp,jq,kv];by_cases h:i=k
  ·subst h;simp
  ·have:(i==k)=false:=by simpa using h
   simp only[this,a,la,h,false_or]
def UY(i:Int):∀ l:List Int,i ∉ l->muA [0] (.int .i64 i) (.bool true) (spm l)=some (spm (l++[i]))
 | [],_=>rfl
 | k::r,h=>by
  simp only[la,not_or] at h;have a:=UY i r h.2;have e:spm (k::r)=[.int .i64 k,.bool true]::spm r:=rfl;rw[e]
  have:(i==k)=false:=by simpa using h.1
  simp only[muA,oT,eqL,kp,jq,kv,this,a];rfl
theorem No:lkR false false [.bool false] (some h)=some h:=rfl
theorem Np:lkR false false [.bool false] none=some (.bool false):=rfl
def Eu(a:bC N=true)(b:N.2.2 ∉ L):gK L N=L++[N.2.2]:=by unfold gK;rw[iw ⟨a,b⟩]
def XT(h:bC N=false\/N.2.2∈L):gK L N=L:=by
 unfold gK;rw[ie]
 rintro ⟨a,b⟩
 rcases h with h | h
 ·rw[h] at a;cases a
 ·exact b h
def icl(l:List Int):List AV:=l.map (AV.int .i64)
def yT:(icl L).length=L.length:=by simp [icl]
def GT:∀ (a:List AV) (x y:AV) (r:List AV),kL a.length [x] (a++y::r)=some (a++x::r)
 | [],x,y,r=>by
  show kL 0 [x] (y::r)=_;simp only[KP,zW,jq,kg]
 | c::a,x,y,r=>by
  have b:=GT a x y r;simp only[jd,ko,zV,b,jq]
def xE:∀ n,bB [AV.int .i64 0] n=List.replicate n (.int .i64 0)
 | 0=>rfl
 | n+1=>by
  show [AV.int .i64 0]++bB [AV.int .i64 0] n=_;rw[xE n];rfl
def CM:dE 0 L.length 1 (icl L)=some (fG L):=by
 have b:∀ L:List Int,(icl L).all (λx=>aQ (aJ x))=true:=by
  intro L
  induction L with
  | nil=>rfl
  | cons c L a =>
   show (aQ _&&(icl L).all _)=true;rw[a];rfl
 have d:∀ L:List Int,(icl L).map aJ=icl L:=by
  intro L
  induction L with
  | nil=>rfl
  | cons c L a =>
   show aJ _::(icl L).map aJ=_;rw[a];rfl
 have f:∀ L:List Int,cP 1 L.length (icl L)=fG L:=by
  intro L
  induction L with
  | nil=>rfl
  | cons c L a =>
   show (icl (c::L)).take 1::cP 1 L.length ((icl (c::L)).drop 1)=_;have e:(icl (c::L)).drop 1=icl L:=rfl;rw[e,a];rfl
 unfold dE;have g:((icl L).drop 0).take (L.length*1)=icl L:=by rw[kc];exact Ty (by rw[yT];omega)
 rw[g,d,f,iw ⟨by decide,by rw[yT];omega,b L⟩]
def ccl(n i:Nat):List AV:=icl (eK i)++List.replicate (n-i) (.int .i64 0)
def qo(h:j<n):kL j [.int .i64 ((j:Int)+1)] (ccl n j)=some (ccl n (j+1)):=by
 have e:ccl n j=icl (eK j)++.int .i64 0::List.replicate (n-(j+1)) (.int .i64 0):=by
  unfold ccl;rw[show n-j=n-(j+1)+1 by omega,replicate_succ]
 have a:=GT (icl (eK j)) (.int .i64 ((j:Int)+1)) (.int .i64 0) (List.replicate (n-(j+1)) (.int .i64 0));rw[yT,hJ] at a;rw[e,a];unfold ccl;rw[RZ];simp [icl]
def qp(n i:Nat):bX (ccl n i)=true:=by
 have:∀ l:List AV,(∀ x∈l,∃ v,x=.int .i64 v)->bX l=true:=by
  intro l h
  cases l with
  | nil=>rfl
  | cons c l =>
   obtain⟨v,rfl⟩:=h c (by simp);rfl
 refine this _ λx a=>?_
 unfold ccl icl at a;rcases ng.1 a with q | q
 ·obtain⟨v,_,rfl⟩:=yd.1 q;exact⟨v,rfl⟩
 ·exact⟨0,(mem_replicate.1 q).2⟩
def l73(n:Nat)(f:n<=1000000):∀ (k i:Nat),i+k=n ->
  aC G0 PS (ST [(3,.ss 0 0 n 1),(8,.int .i64 n),(9,.int .i64 i)] [] [ccl n i])=some (.ex 0,ST [(3,.ss 0 0 n 1),(8,.int .i64 n),(9,.int .i64 n),(10,.bool false)] [] [ccl n n])
 | 0,i,h=>by
  have:i=n:=by omega
  subst this;rw[aB PS rfl];simp only[go_sem,jm]
 | k+1,i,h=>by
  have d:(i:Int)<n:=by omega
  have c:0<=(i:Int):=by omega
  have l:IntKind.i64.wrap ((i:Int)+1)=(i:Int)+1:=w6 (by omega);have g:=qo (n:=n) (j:=i) (by omega);have e:=qp n i;have a:=l73 n f k (i+1) (by omega);have b:((i+1:Nat):Int)=(i:Int)+1:=rfl;rw[b] at a;rw[aB PS rfl];simp only[go_sem,d,c,l,e,zs,g];exact a
def c73(n:Nat)(i:n<=1000000):G0 26 [.int .i64 n] []=some (.sl .no 1 (fG (eK n)),[]):=by
 have x:=l73 n i n 0 (by omega);have e:((0:Nat):Int)=0:=rfl;have c:ccl n 0=List.replicate n (.int .i64 0):=by unfold ccl eK icl;simp
 have d:ccl n n=icl (eK n):=by unfold ccl;simp
 rw[e,c,d] at x;have b:=CM (L:=eK n);rw[hJ] at b;have f:0<=(n:Int):=by omega
 have g:(n:Int)*8<=140737488355328:=by omega
 have h:(n:Int)<=4611686018427387904:=by omega
 refine aA F26 ?_;have a:∀ q,dW [] q=true:=λ_=>rfl
 simp only[F26,go_sem,f,g,h,Wa,xE,x,b,a]
theorem bz:aE []=[]:=rfl
def Es(i:Bs)(h:i.length<=1000000):iN true 1 1 (.sl .full 1 []) (.str i)=some (.sl .own 1 (aE i)):=by
 unfold iN;have e:jZ true 1 (.str i)=some (aE i):=rfl;simp only[e,jk];rw[iw]
 ·simp
 ·refine⟨.inl trivial,by decide,by decide,?_,?_⟩
  ·rw[aK];simp;omega
  ·rw[aK];simp;omega
def GX{i:Bs}(h:i≠[]):0<(i.length:Int):=by
 cases i with
 | nil=>exact absurd rfl h
 | cons c r=>simp only[jd];omega
def l99a(r:bu.length<=1000000)(fq:List Tk)(hg:bu[n]?=some (1,u,k))(o:u.length<=1000000)(m:∀ y,bu[n+1]?=some y->y.1≠1):
  aC G0 qB (ST [(0,.sl .no 3 (tks bu)),(3,.sl (mdR d) 3 (tks fq)),(4,.int .i64 n),(5,.sl .full 1 []),(9,.bool true),(15,.bool false)] [] [])=some (.ex 2,ST [(0,.sl .no 3 (tks bu)),(3,.sl (mdR d) 3 (tks fq)),(4,.int .i64 (n+1:Nat)),(5,.sl .own 1 (aE u)),(9,.bool true),(15,.bool false),(36,.bool false)] [] []):=by
 have hi:n<bu.length:=by
  by_cases q:n<bu.length
  ·exact q
  ·rw[ls (by omega)] at hg;cases hg
 have j:(n:Int)<bu.length:=by omega
 have h:0<=(n:Int):=by omega
 have p:=wI (n:=n) (by omega)
 have g:=cQ hg;simp only[] at g;have l:=Es u o;have i:aC G0 qB (ST [(0,.sl .no 3 (tks bu)),(3,.sl (mdR d) 3 (tks fq)),(4,.int .i64 n),(5,.sl .full 1 []),(9,.bool true),(15,.bool false)] [] [])=aC G0 qB (ST [(0,.sl .no 3 (tks bu)),(3,.sl (mdR d) 3 (tks fq)),(4,.int .i64 (n+1:Nat)),(5,.sl .own 1 (aE u)),(9,.bool true),(15,.bool false)] [] []):=by
  conv=>lhs;rw[aB qB rfl]
  simp only[go_sem,aD,j,h,g,p,l]
 rw[i];by_cases q:n+1<bu.length
 ·have b:bu[n+1]?=some bu[n+1]:=ii q
  have c:=m _ b;generalize bu[n+1]=Y at b c;have f:=cQ b;have a:((n+1:Nat):Int)<(bu.length:Int):=by omega
  have e:(0:Int)<=((n+1:Nat):Int):=by omega
  rw[aB qB rfl];simp only[go_sem,aD,a,e,jp,f,c]
 ·have a:¬ ((n+1:Nat):Int)<(bu.length:Int):=by omega
  rw[aB qB rfl];simp only[go_sem,aD,a]
def l99(g:List Tk)(F:g.length<=100000)(p:VL g)(w:∀ t∈g,t.2.1.length<=1000000):∀ (k i:Nat) (b:Bool),i+k=g.length ->
  ∃ e,aC G0 rU (ST [(0,.sl .no 3 (tks g)),(3,.sl (mdR b) 3 (tks (g.take i))),(4,.int .i64 i)] [] [])=some (.ex 0,ST [(0,.sl .no 3 (tks g)),(3,.sl (mdR e) 3 (tks g)),(4,.int .i64 g.length),(9,.bool false)] [] [])
 | 0,i,b,h=>by
  have:i=g.length:=by omega
  subst this;refine⟨b,?_⟩;rw[Ut];rw[aB rU rfl];simp only[go_sem,aD,jm]
 | k+1,i,b,h=>by
  have hi:i<g.length:=by omega
  have v:(i:Int)<g.length:=by omega
  have r:0<=(i:Int):=by omega
  have I:=wI (n:=i) (by omega)
  have hg:g[i]?=some g[i]:=ii hi;have m:=w _ (xd hi);generalize g[i]=T at hg m;have o:=cQ hg;have hts:=vZ hg;have D:=XY p hg;obtain⟨kk,s,id⟩:=T;simp only[] at o m;have C:mdR true=.own:=rfl;have c:(g.take i).length<=1000000:=by rw[tr];omega
  obtain⟨e,q⟩:=l99 g F p w k (i+1) true (by omega);refine⟨e,?_⟩;rw[hts,C] at q;by_cases x:kk=1
  ·subst x
   obtain⟨A,B,K⟩:=(dY (s:=(1,s,id)) rfl).1 D;simp only[] at A B;subst B;have G:∀ y,g[i+1]?=some y->y.1≠1:=by
    intro y J E;have l:=XY p J
    have:=((dY E).1 l).2.2
    rw[hts,dB] at this;exact this rfl
   have f:=l99a (bu:=g) (by omega) (d:=b) (g.take i) (n:=i) (u:=s) (k:=0) hg m G;have a:=wY b (g.take i) (1,s,0) c;simp only[] at a;have H:=GX A;have j:=fU s;rw[aB rU rfl];simp only[go_sem,aD,v,r,o,f,aK,H,j,a,iF];exact q
  ·have a:=wY b (g.take i) (kk,s,id) c
   simp only[] at a;rw[aB rU rfl];simp only[go_sem,aD,v,r,o,I,x,a,iF];exact q
def c99(e:b.length<=100000)(f:VL b)(d:∀ t∈b,t.2.1.length<=1000000):G0 63 [.sl .no 3 (tks b)] []=some (.sl .no 3 (tks b),[]):=by
 obtain⟨g,x⟩:=l99 b e f d b.length 0 false (by omega);have c:((0:Nat):Int)=0:=rfl;have a:mdR false=.full:=rfl;rw[Tv,cW,c,a] at x;refine aA F63 ?_;simp only[F63,go_sem,x,iF,qT]
abbrev Im:=List (Int×Int)
def mgI:Im->Int->Option Int
 | [],_=>none
 | (k,y)::r,i=>if i=k then some y else mgI r i
def msI:Im->Int->Int->Im
 | [],i,x=>[(i,x)]
 | (k,y)::r,i,x=>if i=k then (i,x)::r else (k,y)::msI r i x
def wl:∀ (m:Im) (i x j:Int),mgI (msI m i x) j=if j=i then some x else mgI m j
 | [],i,x,j=>by simp [msI,mgI]
 | (k,y)::r,i,x,j=>by
  have b:=wl r i x j;by_cases h:i=k
  ·subst h
   simp only[msI,kp,mgI];by_cases a:j=i<;>simp [a]
  ·simp only[msI,ie h,mgI]
   by_cases a:j=k
   ·subst a;simp [ad9 h]
   ·simp only[a,kz,b]
def imr(m:Im):List (List AV):=m.map λp=>[.int .i64 p.1,.int .i64 p.2]
def VF(i:Int):∀ m:Im,lkA [0] (.int .i64 i) (imr m)=some ((mgI m i).map (AV.int .i64))
 | []=>rfl
 | (k,y)::r=>by
  have a:=VF i r;have e:imr ((k,y)::r)=[.int .i64 k,.int .i64 y]::imr r:=rfl;rw[e];simp only[lkA,oT,eqL,kp,jq,kv,mgI];by_cases h:i=k
  ·subst h;simp
  ·have:(i==k)=false:=by simpa using h
   simp only[this,h,kz,a]
def UZ(i x:Int):∀ m:Im,muA [0] (.int .i64 i) (.int .i64 x) (imr m)=some (imr (msI m i x))
 | []=>rfl
 | (k,y)::r=>by
  have a:=UZ i x r;have e:imr ((k,y)::r)=[.int .i64 k,.int .i64 y]::imr r:=rfl;rw[e];simp only[muA,oT,eqL,kp,jq,kv,msI];by_cases h:i=k
  ·subst h;simp [imr]
  ·have:(i==k)=false:=by simpa using h
   simp only[this,h,kz,a,jq];rfl
theorem Nm:lkR true false [.int .i64 0] (some h)=some (.tup [h,.bool true]):=rfl
theorem Nn:lkR true false [.int .i64 0] none=some (.tup [.int .i64 0,.bool false]):=rfl
def VB(a:L[n]?=some D)(b:ft[n]?=some iy)(i:Int):lkz (L.drop n) (ft.drop n) i=if D=i then some iy else lkz (L.drop (n+1)) (ft.drop (n+1)) i:=by
 have c:n<L.length:=by
  by_cases q:n<L.length
  ·exact q
  ·rw[ls (by omega)] at a;cases a
 have d:n<ft.length:=by
  by_cases q:n<ft.length
  ·exact q
  ·rw[ls (by omega)] at b;cases b
 rw[ii c] at a;rw[ii d] at b;simp only[jc] at a b;rw[je c,je d,a,b];rfl
def VC(h:L.length<=n\/ft.length<=n)(i:Int):lkz (L.drop n) (ft.drop n) i=none:=by
 rcases h with h | h
 ·rw[af2 h];rfl
 ·rw[af2 h]
  cases L.drop n<;>rfl
def lx(h:bC (k,u,D)=false):zO L ft (k,u,D)=some (k,u,D):=by unfold zO;rw[h];rfl
def Ap(h:bC (k,u,D)=true)(a:lkz L ft D=some iy):zO L ft (k,u,D)=some (k,u,iy):=by unfold zO;rw[iw h,a];rfl
def Aq(h:bC (k,u,D)=true)(a:lkz L ft D=none):zO L ft (k,u,D)=none:=by unfold zO;rw[iw h,a];rfl
def TX:rC L ft (N::b)=(match zO L ft N with | some y=>[y] | none=>[])++rC L ft b:=by
 unfold rC;rw[filterMap_cons]
 cases zO L ft N<;>rfl
def gG:∀ t∈b,t.2.1.length<=tot b:=by
 induction b with
 | nil=>intro t c;cases c
 | cons a b d =>
  intro t c;rw[aN];rcases la.1 c with rfl | h
  ·omega
  ·have:=d t h;omega
def qH(h:vld bu=0):tot bu<=40000/\bu.length<=512:=by
 obtain⟨d,e,m⟩:=(cG bu).1 h;have key:∀ (n:Nat) (bu:List Tk),bu.length=n->VL bu->tot bu<=len bu+64*bu.length:=by
  intro n
  induction n with
  | zero=>intro bu c _;rw[js c];simp [tot]
  | succ n l =>
   intro bu c j;rcases dS bu with rfl | ⟨g,y,rfl⟩
   ·simp [tot]
   ·obtain⟨a,b⟩:=(cY g y).1 j
    have d:=l g (by simp at c;exact c) a;have e:y.2.1.length<=wid y+64:=by
     obtain⟨k,s,i⟩:=y;rcases A3 b with ⟨rfl,_⟩ | ⟨f,_⟩
     ·have:wid (1,s,i)=s.length:=rfl
      simp only[];omega
     ·simp only[];omega
    rw[cN,aN,bZ,fX,gH,jb,jy];omega
 have:=key _ bu rfl d
 omega
def Rok(R:LL):Prop:=∀ (l:List Int) (n:Nat),fF false (R.length+1) (num l n::R)=true
def SI(x:List AV)(R:LL):(x::R).take (R.length+1)=x::R:=by rw[qb,Ut]
def LS(j:Rok c)(l:List Int)(n:Nat)(m:Int)(p:n<=1000000)(g:1<=m)(h:m<=1000000):G0 57 [.ptr 0 0,.int .i64 m] (num l n::c)=some (.int .i64 (nxt l n m),(num l (n+1)::c)):=by
 refine aA F57 ?_;have i:=wI (n:=n) (by omega)
 have f:0<=(n:Int):=by omega
 have a:fF false (c.length+1) ([.sl .no 1 (fG l),.int .i64 (n+1:Nat)]::c)=true:=j l (n+1);have b:=SI [.sl .no 1 (fG l),.int .i64 (n+1:Nat)] c;by_cases d:n<l.length
 ·have e:(n:Int)<l.length:=by omega
  have o:=qQ (L:=l) (n:=n) (k:=l.getD n 0) (by simp [ki,d]);simp only[F57,go_sem,num,eE,e,f,o,i,c18 m g h,nxt,d,a,b]
 ·have e:¬ (n:Int)<l.length:=by omega
  simp only[F57,go_sem,num,eE,e,f,i,c18 m g h,nxt,d,a,b]
def Eg(d:Rok c)(l:List Int)(n:Nat)(h:n<=1000000):G0 191 [.ptr 0 0] (num l n::c)=some (.str (wd l n),(num l (n+1)::c)):=by
 refine aA Fp ?_;have g:gX 1 [.str []] 24 [0,1,2,3,4,5,6,7,8,9,10,11,12,13,14,15,16,17,18,19,20,21,22,23] [.str [114,101,100],.str [99,97,114],.str [82,101,100],.str [97],.str [99,97,114,115],.str [49,44,53],.str [50,50],.str [100,111,110,39,116],.str [46],.str [33],.str [32],.str [32,32],.str [60],.str [38],.str [123],.str [34],.str [92],.str [120,45,121],.str [10],.str [61],.str [125],.str [62],.str [9],.str [98]]=some (.sl .full 1 (cH wds)):=by rfl
 have f:=jL l n 24 (by omega);have e:0<=nxt l n 24:=f.1
 have i:=gQ (dt:=wds) (n:=(nxt l n 24).toNat) (K:=wd l n) (by
  unfold wd
  rw[ki,ii (by simp [wds];omega)];rfl)
 have a:=d l (n+1);have b:=SI (num l (n+1)) c;simp only[Fp,go_sem,g,LS d l n 24 h (by decide) (by decide),e,i,a,b]
def ob{R:LL}(a:Rok R)(l:List Int):∀ (k n:Nat) (out:List UInt8),n+2*k<=1000000->out.length+6*k<=1000000 ->
  aC G0 xC (ST [(0,.ptr 0 0),(5,.str out),(6,.int .i64 k)] [] (num l n::R))=some (.ex 0,ST [(0,.ptr 0 0),(5,.str (lnF l k n out).1),(6,.int .i64 0),(13,.bool false)] [] (num l (lnF l k n out).2::R))
 | 0,n,out,p,q=>by
  rw[aB xC rfl];simp only[go_sem,jm,lnF]
 | k+1,n,out,p,q=>by
  have m:(0:Int)<((k+1:Nat):Int):=by omega
  have o:IntKind.i64.wrap (((k+1:Nat):Int)-1)=(k:Int):=by rw[w6 (by omega)];omega
  have r:=RY (L:=l) n;by_cases g:out=[]
  ·have c:=ob a l k (n+1) (out++wd l n) (by omega) (by rw[jb];omega)
   have b:out.length+(wd l n).length<=140737488355328:=by omega
   subst g;rw[aB xC rfl];simp only[go_sem,m,Eg a l n (by omega),b,o,lnF];simp only[jz] at b;simp only[go_sem] at c;have i:(wd l n).length<=140737488355328:=by omega
   simp only[go_sem,i,c]
  ·have f:(out != [])=true:=by simp [g]
   have d:=LS a l (n+1) 3 (by omega) (by decide) (by decide);by_cases h:0<nxt l (n+1) 3
   ·have c:=ob a l k (n+2) (out++[32]++wd l n) (by omega) (by simp only[jb,jd,jz];omega)
    have b:out.length+1<=140737488355328:=by omega
    have j:(out++[32]).length+(wd l n).length<=140737488355328:=by simp only[jb,jd,jz];omega
    have e:lnF l (k+1) n out=lnF l k (n+2) (out++[32]++wd l n):=by simp only[lnF,g,h,kp,kz]
    rw[e,aB xC rfl];simp only[go_sem,m,Eg a l n (by omega),f,d,h,b,j,o];exact c
   ·have c:=ob a l k (n+2) (out++wd l n) (by omega) (by simp only[jb];omega)
    have b:out.length+(wd l n).length<=140737488355328:=by omega
    have e:lnF l (k+1) n out=lnF l k (n+2) (out++wd l n):=by simp only[lnF,g,h,kp,kz]
    rw[e,aB xC rfl];simp only[go_sem,m,Eg a l n (by omega),f,d,h,b,o];exact c
def c63r(b:Rok c)(i:n<=900000)(f:1<=k)(g:k<=1000):G0 148 [.ptr 0 0,.int .i64 k] (num L n::c)=some (.str (AG L n k).1,(num L (AG L n k).2::c)):=by
 refine aA Fx ?_;have h:=jL L n (k+1) (by omega);have d:=ob b L (nxt L n (k+1)).toNat (n+1) [] (by omega) (by simp only[jz];omega);have e:(((nxt L n (k+1)).toNat:Nat):Int)=nxt L n (k+1):=by omega
 rw[e] at d;have a:∀ j,fF false (c.length+1) (num L j::c)=true:=λj=>b L j
 simp only[Fx,go_sem,Ut,w64 (k:=k+1) (by omega) (by omega),LS b L n (k+1) (by omega) (by omega) (by omega),d,a,AG]
def f73:G0 73 [.int .u8 k] []=some (.int .i64 (gJ k),[]):=RD (k:=k)
def wdI(x:Int):Bool:=decide (gJ x=4)||decide (gJ x=3)
def dgI(x:Int):Bool:=decide (gJ x=3)
def dc77(x:Int):G0 75 [.int .u8 x] []=some (.bool (wdI x),[]):=by
 refine aA F75 ?_;by_cases a:gJ x=4
 ·simp only[F75,go_sem,f73,a,wdI,aa3,am9]
 ·simp only[F75,go_sem,f73,a,wdI,ys]
def dc78(x:Int):G0 76 [.int .u8 x] []=some (.bool (dgI x),[]):=by
 refine aA F76 ?_;simp only[F76,go_sem,f73,dgI]
def cnt(k:Int):Bool:=decide (k=6)||decide (k=7)
def px:G0 77 [.agg [.int .i64 k,.str K,.int .i64 D]] []=some (.bool (cnt k),[]):=by
 refine aA F77 ?_;by_cases a:k=6
 ·simp only[F77,go_sem,a,cnt,aa3]
 ·simp only[F77,go_sem,a,cnt,ys]
def bt(s:List UInt8)(n:Nat):Int:=((s.getD n 0).toNat:Int)
def PD(h:n<K.length):K[n]?=some (K.getD n 0):=by
 simp [ki,h]
def jn(c:Int->Bool)(a b:Int)(s:List UInt8):Nat->Nat->Nat
 | 0,n=>n
 | k+1,n=>if n<s.length then (if c (bt s n)=true then jn c a b s k (n+1) else if (bt s n=a\/bt s n=b)/\n+1<s.length/\c (bt s (n+1))=true then jn c a b s k (n+2) else n) else n
theorem btd:(((K.getD n 0).toNat:Nat):Int)=bt K n:=rfl
def Dt(g:Nat)(c:Int->Bool)(hg:∀ x,G0 g [.int .u8 x] []=some (.bool (c x),[]))(a b:UInt8)(s:List UInt8)(F:s.length<=1000000):∀ (k n:Nat),s.length<=n+k->n<=s.length ->
  (s.length<=jn c a.toNat b.toNat s k n->aC G0 vQ (ST [(0,.str s),(1,.str [a,b]),(2,.fn g []),(7,.int .i64 n)] [] [])=some (.ex 0,ST [(0,.str s),(1,.str [a,b]),(2,.fn g []),(7,.int .i64 (jn c a.toNat b.toNat s k n)),(11,.bool false)] [] [])) /\
  (jn c a.toNat b.toNat s k n<s.length->aC G0 vQ (ST [(0,.str s),(1,.str [a,b]),(2,.fn g []),(7,.int .i64 n)] [] [])=some (.ret,ST [(0,.str s),(1,.str [a,b]),(2,.fn g []),(6,.int .i64 (jn c a.toNat b.toNat s k n)),(11,.bool true),(13,.bool false),(21,.bool false)] [] []))
 | 0,n,G,H=>by
  have l:¬ (n:Int)<s.length:=by omega
  refine⟨λ_=>?_,λh=>absurd h (by simp only[jn];omega)⟩;rw[aB vQ rfl];simp only[go_sem,l,jn]
 | k+1,n,G,H=>by
  by_cases l:n<s.length
  ·have o:(n:Int)<s.length:=by omega
   have B:=PD l;have A:0<=(n:Int):=by omega
   by_cases C:c (bt s n)=true
   ·have w:=Dt g c hg a b s F k (n+1) (by omega) (by omega)
    have e:jn c a.toNat b.toNat s (k+1) n=jn c a.toNat b.toNat s k (n+1):=by simp only[jn,l,C,kp]
    have u:=wI (n:=n) (by omega)
    rw[e]
    constructor<;>intro p
    ·rw[aB vQ rfl]
     simp only[go_sem,o,B,A,btd,hg,C,u];rw[w.1 p]
    ·rw[aB vQ rfl]
     simp only[go_sem,o,B,A,btd,hg,C,u];rw[w.2 p]
   ·have j:c (bt s n)=false:=by simpa using C
    have u:=wI (n:=n) (by omega)
    have v:IntKind.i64.wrap ((n:Int)+2)=(n+2:Nat):=by rw[w6 (by omega)];rfl
    have I:(0:Int)<=((n+1:Nat):Int):=by omega
    have q:∀ x y:UInt8,([x,y]:List UInt8)[(0:Nat)]?=some x:=λ_ _=>rfl
    have r:∀ x y:UInt8,([x,y]:List UInt8)[(1:Nat)]?=some y:=λ_ _=>rfl
    by_cases E:n+1<s.length
    ·have m:((n+1:Nat):Int)<(s.length:Int):=by omega
     have D:=PD E;have w:=Dt g c hg a b s F k (n+2) (by omega) (by omega);have e:jn c a.toNat b.toNat s (k+1) n=if (bt s n=a.toNat\/bt s n=b.toNat)/\c (bt s (n+1))=true then jn c a.toNat b.toNat s k (n+2) else n:=by
      simp only[jn,l,j,E,kp,jl,kz,tn]
     rw[e];by_cases i:c (bt s (n+1))=true<;>by_cases d:bt s n=(a.toNat:Int)<;>by_cases f:bt s n=(b.toNat:Int)
     all_goals try replace i:c (bt s (n+1))=false:=eq_false_of_ne_true i
     all_goals first | replace d:=Tx d | replace d:=ag4 d
     all_goals first | replace f:=Tx f | replace f:=ag4 f
     all_goals try simp only[i,d,f,ah9,ah8,ao1,ab3,aa9,ab5,kp,kz,jl,eq_self]
     all_goals
      constructor<;>intro p
      all_goals try exact absurd p (by omega)
      all_goals
       rw[aB vQ rfl];simp only[go_sem,o,B,A,btd,hg,j,u,v,q,r,d,f,m,I,D,i,Int.reduceLE,Wa]
       try first | rw[w.1 p] | rw[w.2 p]
    ·have m:¬ ((n+1:Nat):Int)<(s.length:Int):=by omega
     have e:jn c a.toNat b.toNat s (k+1) n=n:=by
      simp only[jn,l,j,E,kp,jl,kz,ab9,ab5]
     rw[e];by_cases d:bt s n=(a.toNat:Int)<;>by_cases f:bt s n=(b.toNat:Int)
     all_goals first | replace d:=Tx d | replace d:=ag4 d
     all_goals first | replace f:=Tx f | replace f:=ag4 f
     all_goals
      refine⟨λh=>absurd h (by omega),λ_=>?_⟩;rw[aB vQ rfl];simp only[go_sem,o,B,A,btd,hg,j,u,v,q,r,d,f,m,Int.reduceLE,Wa]
  ·have o:¬ (n:Int)<s.length:=by omega
   have e:jn c a.toNat b.toNat s (k+1) n=n:=by simp only[jn,l,kz]
   rw[e];refine⟨λ_=>?_,λh=>absurd h l⟩;rw[aB vQ rfl];simp only[go_sem,o]
def C1(c:Int->Bool)(a b:Int)(s:List UInt8):∀ k n:Nat,n<=s.length->n<=jn c a b s k n/\jn c a b s k n<=s.length
 | 0,n,h=>⟨ji _,h⟩
 | k+1,n,h=>by
  simp only[jn];split
  ·split
   ·have:=C1 c a b s k (n+1) (by omega);omega
   ·split
    ·have:=C1 c a b s k (n+2) (by omega);omega
    ·omega
  ·omega
def Rj(g:Nat)(c:Int->Bool)(hg:∀ x,G0 g [.int .u8 x] []=some (.bool (c x),[]))(a b:UInt8)(i:K.length<=1000000)(f:1<=K.length):
  G0 74 [.str K,.str [a,b],.fn g []] []=some (.int .i64 (jn c a.toNat b.toNat K K.length 1),[]):=by
 refine aA F74 ?_;have e:=Dt g c hg a b K i K.length 1 (by omega) f;by_cases h:K.length<=jn c a.toNat b.toNat K K.length 1
 ·have d:=e.1 h
  simp only[go_sem] at d;simp only[F74,go_sem,d]
 ·have d:=e.2 (by omega)
  simp only[go_sem] at d;simp only[F74,go_sem,d]
def bl(s:List UInt8):Nat->Nat->Nat
 | 0,n=>n
 | k+1,n=>if n<s.length/\gJ (bt s n)=2 then bl s k (n+1) else n
def ya(s:List UInt8):∀ k n:Nat,n<=s.length->n<=bl s k n/\bl s k n<=s.length
 | 0,n,h=>⟨ji _,h⟩
 | k+1,n,h=>by
  simp only[bl];split
  ·have:=ya s k (n+1) (by omega);omega
  ·omega
def Qz(s:List UInt8)(i:s.length<=1000000):∀ k n:Nat,s.length<=n+k->n<=s.length ->
  aC G0 DN (ST [(0,.str s),(4,.int .i64 n),(8,.bool false),(12,.bool false),(16,.bool true)] [] [])=some (.ex 1,ST [(0,.str s),(4,.int .i64 (bl s k n)),(8,.bool false),(12,.bool false),(16,.bool true),(28,.bool false)] [] [])
 | 0,n,g,h=>by
  have a:¬ (n:Int)<s.length:=by omega
  rw[aB DN rfl];simp only[go_sem,a,bl]
 | k+1,n,g,h=>by
  by_cases a:n<s.length
  ·have b:(n:Int)<s.length:=by omega
   have c:0<=(n:Int):=by omega
   have d:=PD a;have f:=wI (n:=n) (by omega)
   by_cases e:gJ (bt s n)=2
   ·have j:=Qz s i k (n+1) (by omega) (by omega)
    rw[aB DN rfl];simp only[go_sem,b,d,c,btd,f73,e,f,j,bl,a]
   ·rw[aB DN rfl]
    simp only[go_sem,b,d,c,btd,f73,e,f,bl,a]
  ·have b:¬ (n:Int)<s.length:=by omega
   rw[aB DN rfl];simp only[go_sem,b,bl,a]
def nxK(s:List UInt8):Int:=if gJ (bt s 0)=4 then 6 else if gJ (bt s 0)=3 then 7 else if gJ (bt s 0)=2 then 8 else 9
def nxN(s:List UInt8):Nat:=if gJ (bt s 0)=4 then jn wdI 39 45 s s.length 1 else if gJ (bt s 0)=3 then jn dgI 46 44 s s.length 1 else if gJ (bt s 0)=2 then bl s s.length 1 else 1
def NP(s:List UInt8)(h:1<=s.length):1<=nxN s/\nxN s<=s.length:=by
 unfold nxN;split
 ·have:=C1 wdI 39 45 s s.length 1 h;omega
 ·split
  ·have:=C1 dgI 46 44 s s.length 1 h;omega
  ·split
   ·have:=ya s s.length 1 h;omega
   ·omega
def Rk(f:K.length<=1000000)(e:1<=K.length):G0 34 [.str K] []=some (.tup [.int .i64 (nxK K),.int .i64 (nxN K)],[]):=by
 refine aA F34 ?_;have c:=PD (K:=K) (n:=0) (by omega);by_cases b:gJ (bt K 0)=4
 ·have a:=Rj 75 wdI dc77 39 45 (K:=K) f e
  simp only[F34,go_sem,Wa,c,btd,f73,b,a,nxK,nxN];rfl
 by_cases d:gJ (bt K 0)=3
 ·have a:=Rj 76 dgI dc78 46 44 (K:=K) f e
  simp only[F34,go_sem,Wa,c,btd,f73,b,d,a,nxK,nxN];rfl
 by_cases g:gJ (bt K 0)=2
 ·have a:=Qz K f K.length 1 (by omega) e
  simp only[go_sem] at a;simp only[F34,go_sem,Wa,c,btd,f73,b,d,g,a,nxK,nxN]
 ·simp only[F34,go_sem,Wa,c,btd,f73,b,d,g,nxK,nxN]
def rq(h:1<=K.length):(K==[])=false:=by
 cases K with
 | nil=>simp at h
 | cons a l=>rfl
def KX(b:UInt8):UInt8:=if 65<=(b.toNat:Int)/\(b.toNat:Int)<=90 then b+32 else b
def wK(s:List UInt8):List UInt8:=s.map KX
def oZ(s:List UInt8)(i:Nat):List UInt8:=wK (s.take i)++s.drop i
def nk(h:65<=(p.toNat:Int)/\(p.toNat:Int)<=90):((KX p).toNat:Int)=(p.toNat:Int)+32:=by
 unfold KX;rw[iw h];have a:p.toNat<=90:=by omega
 rw[UInt8.toNat_add];show (((p.toNat+32) % 256:Nat):Int)=_;omega
def AE:(oZ K n).length=K.length:=by
 simp [oZ,wK];omega
def NX(i:Nat)(h:i<K.length):(oZ K i)[i]?=some (K.getD i 0):=by
 unfold oZ;rw[ky (by simp [wK];omega)];simp [wK,ki,h,ad7 (al0 h)]
def CX(i:Nat)(h:i<K.length):oZ K (i+1)=(oZ K i).set i (KX (K.getD i 0)):=by
 apply ag3;intro j;rw[am7];simp only[AE];unfold oZ wK;by_cases a:i=j
 ·subst a
  rw[iw rfl,iw h,kq (by simp;omega)];simp [ki,h]
 ·rw[ie a]
  by_cases b:j<i
  ·rw[kq (by simp;omega),kq (by simp;omega)]
   simp [Vz,b,Nat.lt_succ_of_lt b]
  ·rw[ky (by simp;omega),ky (by simp;omega)]
   simp only[zt,tr,tb]
   congr 1;omega
def QT(h:n<K.length)(a:KX (K.getD n 0)=K.getD n 0):oZ K (n+1)=oZ K n:=by
 rw[CX (K:=K) n h,a];apply ag3;intro j;rw[am7];split
 ·rename_i e;subst e
  rw[iw (by rw[AE];exact h),NX (K:=K) n h]
 ·rfl
def U4:oZ K K.length=wK K:=by simp [oZ]
def QS:oZ K 0=K:=by simp [oZ,wK]
def BB:(d6 K).length=K.length:=by simp [d6]
def RF(h:K[n]?=some p):(d6 K)[n]?=some (.int .u8 p.toNat):=by simp [d6,h]
def LU:(d6 K).set n (.int .u8 p.toNat)=d6 (K.set n p):=by simp [d6,am8]
def sY:bX (d6 K)=true:=by
 cases K with
 | nil=>rfl
 | cons a l=>rfl
def iX:∀ (i:Nat) (cs:List AV) (x:AV),i<cs.length->kL i [x] cs=some (cs.set i x)
 | 0,[],_,h=>by simp at h
 | 0,c::cs,x,_=>by simp only[KP,zW,jq,Tw]
 | i+1,[],_,h=>by simp at h
 | i+1,c::cs,x,h=>by simp only[zV,iX i cs x (by simpa using h),jq,Ec]
def IntKind.wrap_u8(x:Int):IntKind.u8.wrap x=x % 256:=by
 rfl
def li:dE 0 K.length 1 (d6 K)=some (aE K):=by
 have c:∀ K:List UInt8,(d6 K).all (λx=>aQ (aJ x))=true:=by
  intro K
  induction K with
  | nil=>rfl
  | cons a l b=>simp [d6,aJ,aQ]
 have d:∀ K:List UInt8,(d6 K).map aJ=d6 K:=by
  intro K;simp [d6,aJ]
 have e:∀ K:List UInt8,cP 1 K.length (d6 K)=aE K:=by
  intro K
  induction K with
  | nil=>rfl
  | cons a l b =>
   have:d6 (a::l)=.int .u8 (a.toNat:Int)::d6 l:=rfl
   rw[this];simpa [cP,aE] using b
 unfold dE;have f:((d6 K).drop 0).take (K.length*1)=d6 K:=by rw[zs,kc];exact Ty (by rw[BB];exact ji _)
 rw[f,d,e,iw ⟨by decide,by simp [d6],c K⟩]
def Qy(s:List UInt8)(r:s.length<=1000000):∀ (k i:Nat),i+k=s.length ->
  aC G0 BQ (ST [(3,.ss 0 0 s.length 1),(8,.ss 0 0 s.length 1),(9,.int .i64 s.length),(10,.int .i64 i)] [] [d6 (oZ s i)]) =
  some (.ex 0,ST [(3,.ss 0 0 s.length 1),(8,.ss 0 0 s.length 1),(9,.int .i64 s.length),(10,.int .i64 s.length),(11,.bool false)] [] [d6 (wK s)])
 | 0,i,h=>by
  have:i=s.length:=by omega
  subst this;rw[aB BQ rfl];simp only[go_sem,jm,U4]
 | k+1,i,h=>by
  have b:i<s.length:=by omega
  have f:(i:Int)<s.length:=by omega
  have d:0<=(i:Int):=by omega
  have l:=wI (n:=i) (by omega)
  have c:=Qy s r k (i+1) (by omega);have j:=RF (NX (K:=s) i b);by_cases a:(65:Int)<=((s.getD i 0).toNat:Int)/\((s.getD i 0).toNat:Int)<=90
  ·have p:=nk a
   have m:IntKind.u8.wrap (IntKind.u8.wrap (((s.getD i 0).toNat:Int)+97)-65)=((KX (s.getD i 0)).toNat:Int):=by
    rw[p,IntKind.wrap_u8,IntKind.wrap_u8];omega
   have q:∀ x,kL i [x] (d6 (oZ s i))=some ((d6 (oZ s i)).set i x):=λx=>iX _ _ x (by rw[BB,AE];exact b)
   rw[aB BQ rfl];simp only[go_sem,f,d,l,zs,km,j,sY,a.1,a.2,m,q,LU,Tw,<- CX (K:=s) i b];exact c
  ·have e:oZ s (i+1)=oZ s i:=QT (K:=s) (n:=i) b (by unfold KX;rw[ie a])
   rw[e] at c;rw[aB BQ rfl];by_cases g:(65:Int)<=((s.getD i 0).toNat:Int)
   ·have o:¬ ((s.getD i 0).toNat:Int)<=90:=λh=>a ⟨g,h⟩
    simp only[go_sem,f,d,l,zs,km,j,sY,g,o];exact c
   ·simp only[go_sem,f,d,l,zs,km,j,sY,g]
    exact c
def dc62(e:K.length<=1000000):G0 116 [.str K] []=some (.str (wK K),[]):=by
 refine aA Gi ?_;have b:=Qy K e K.length 0 (by omega);rw[QS] at b;have d:K.length<=140737488355328:=by omega
 have c:=li (K:=wK K);have a:(wK K).length=K.length:=by simp [wK]
 rw[a] at c;simp only[go_sem] at b;simp only[Gi,go_sem,d,b,c]
def kyF(k:Int)(s:List UInt8):List UInt8:=if k=6 then wK s else s
def Rn(b:K.length<=1000000):G0 78 [.agg [.int .i64 k,.str K,.int .i64 D]] []=some (.str (kyF k K),[]):=by
 refine aA F78 ?_;by_cases a:k=6
 ·simp only[F78,go_sem,a,kyF,dc62 (K:=K) b]
 ·simp only[F78,go_sem,a,kyF]
def o5:Nat->List UInt8->List Tk
 | 0,_=>[]
 | k+1,s=>if 1<=s.length then (nxK s,s.take (nxN s),0)::o5 k (s.drop (nxN s)) else []
def pV(s:List UInt8):List Tk:=o5 s.length s
def PA(h:1<=K.length):(K != [])=true:=by
 cases K with
 | nil=>simp at h
 | cons a l=>rfl
def Rb(x:LL):∀ (k:Nat) (s:List UInt8) (md:Own) (out:List Tk),md≠.no->s.length<=k->out.length+s.length<=1000000 ->
  ∃ md',aC G0 vU (ST [(3,.sl md 3 (tks out)),(6,.str s),(9,.sl .no 3 x),(10,.int .i64 1),(11,.int .i64 0),(12,.bool true),(17,.bool false),(26,.bool true)] [] [])=some (.ex 3,ST [(3,.sl md' 3 (tks (out++o5 k s))),(6,.str []),(9,.sl .no 3 x),(10,.int .i64 1),(11,.int .i64 0),(12,.bool true),(17,.bool false),(26,.bool true),(31,.bool false)] [] [])
 | 0,s,md,out,b,d,e=>by
  have:s=[]:=js (by omega)
  subst this;refine⟨md,?_⟩;rw[aB vU rfl];simp only[go_sem,o5,jm]
 | k+1,s,md,out,b,d,e=>by
  by_cases a:1<=s.length
  ·have j:=NP s a
   obtain⟨md',c⟩:=Rb x k (s.drop (nxN s)) .own (out++[(nxK s,s.take (nxN s),0)]) (by decide) (by simp;omega) (by simp;omega);have f:(0:Int)<=(nxN s:Int):=by omega
   have g:(nxN s:Int)<=(s.length:Int):=by omega
   have i:s.length<=1000000:=by omega
   have h:aU 32 (out.length+1)=true:=aL (by decide) (by omega);refine⟨md',?_⟩;rw[aB vU rfl];simp only[o5,a,kp];rw[kb] at c;simp only[go_sem,PA a,Rk (K:=s) i a,f,g,bJ md _ b 3 32 (by decide),aD,h,DW,iV];exact c
  ·have:s=[]:=js (by omega)
   subst this;refine⟨md,?_⟩;rw[aB vU rfl];simp only[go_sem,o5,jm]
def dc43(b:K.length<=1000000):G0 10 [.sl .no 3 [[.int .i64 1,.str K,.int .i64 0]]] []=some (.sl .no 3 (tks (pV K)),[]):=by
 refine aA F10 ?_;obtain⟨md',a⟩:=Rb [[.int .i64 1,.str K,.int .i64 0]] K.length K .full [] (by decide) (by omega) (by simpa using b);simp only[go_sem,cW] at a;simp only[F10,go_sem];rw[aB xU rfl];simp only[go_sem,a];rw[aB xU rfl];simp only[go_sem,pV,jm]
theorem GD:[[AV.str K]]=cH [K]:=rfl
def GG:cH dt++cH y=cH (dt++y):=by simp [cH]
theorem GF:cH []=[]:=rfl
def phr(T:List Tk):List (List UInt8):=(T.filter λt=>cnt t.1).map λt=>kyF t.1 t.2.1
def uE(h:cnt N.1=true):phr (N::b)=kyF N.1 N.2.1::phr b:=by simp [phr,h]
def EJ(h:cnt N.1=false):phr (N::b)=phr b:=by simp [phr,h]
def pU:∀ (k:Nat) (s:List UInt8),(o5 k s).length<=s.length/\∀ t∈o5 k s,t.2.1.length<=s.length
 | 0,s=>by simp [o5]
 | k+1,s=>by
  simp only[o5];split
  ·rename_i h
   have c:=NP s h;have b:=pU k (s.drop (nxN s));simp only[kl] at b;refine⟨by simp only[jd];omega,λt a=>?_⟩;simp only[la] at a;rcases a with a | a
   ·subst a;simp;omega
   ·have:=b.2 t a;omega
  ·simp
def Du(T:List Tk)(l:T.length<=1000000)(a:∀ t∈T,t.2.1.length<=1000000):∀ (k i:Nat) (md:Own) (out:List (List UInt8)),md≠.no->i+k=T.length->out.length<=i ->
  ∃ md',aC G0 JH (ST [(3,.sl md 1 (cH out)),(7,.bool false),(11,.sl .no 3 (tks T)),(12,.int .i64 T.length),(13,.int .i64 i)] [] [])=some (.ex 0,ST [(3,.sl md' 1 (cH (out++phr (T.drop i)))),(7,.bool false),(11,.sl .no 3 (tks T)),(12,.int .i64 T.length),(13,.int .i64 T.length),(14,.bool false)] [] [])
 | 0,i,md,out,g,p,q=>by
  have:i=T.length:=by omega
  subst this;refine⟨md,?_⟩;rw[aB JH rfl];simp only[go_sem,jm,lb];simp [phr]
 | k+1,i,md,out,g,p,q=>by
  have d:i<T.length:=by omega
  have j:(i:Int)<T.length:=by omega
  have h:0<=(i:Int):=by omega
  have o:=wI (n:=i) (by omega)
  have hg:T[i]?=some T[i]:=ii d;have hd:T.drop i=T[i]::T.drop (i+1):=je d;have s:T[i].2.1.length<=1000000:=a _ (xd d);have m:=cQ hg;by_cases f:cnt T[i].1=true
  ·obtain⟨md',c⟩:=Du T l a k (i+1) .own (out++[kyF T[i].1 T[i].2.1]) (by decide) (by omega) (by simp;omega)
   refine⟨md',?_⟩;have e:phr (T.drop i)=kyF T[i].1 T[i].2.1::phr (T.drop (i+1)):=by rw[hd,uE f]
   rw[e];rw[kb] at c;have r:aU 16 (out.length+1)=true:=aL (by decide) (by omega);rw[aB JH rfl];simp only[go_sem,j,h,o,m,px,Rn s,f,bJ md _ g 1 16 (by decide),dG,r,GD,GG];exact c
  ·obtain⟨md',c⟩:=Du T l a k (i+1) md out g (by omega) (by omega)
   refine⟨md',?_⟩;have b:cnt T[i].1=false:=by simpa using f
   have e:phr (T.drop i)=phr (T.drop (i+1)):=by rw[hd,EJ b]
   rw[e];rw[aB JH rfl];simp only[go_sem,j,h,o,m,px,b];exact c
def nD(s:List UInt8):List (List UInt8):=phr (pV s)
def dc16(d:K.length<=1000000):G0 35 [.str K] []=some (.sl .no 1 (cH (nD K)),[]):=by
 refine aA F35 ?_;by_cases b:1<=K.length
 ·have c:=pU K.length K
  obtain⟨md',a⟩:=Du (pV K) (by unfold pV;omega) (λt e=>by have:=c.2 t e;omega) (pV K).length 0 .full [] (by decide) (by omega) (by simp);simp only[go_sem,GF,kc] at a;simp only[F35,go_sem,rq b,dc43 (K:=K) d,aD,a,nD]
 ·have:K=[]:=js (by omega)
  subst this;simp only[F35,go_sem];rfl
def sW:(K != K)=false:=by simp
def Ra(a:List (List UInt8))(d:a.length<=1000000000):∀ (k i:Nat),i+k=a.length ->
  aC G0 mY (ST [(0,.sl .no 1 (cH a)),(1,.sl .no 1 (cH a)),(10,.bool false),(12,.int .i64 a.length),(13,.int .i64 i)] [] [])=some (.ex 0,ST [(0,.sl .no 1 (cH a)),(1,.sl .no 1 (cH a)),(10,.bool false),(12,.int .i64 a.length),(13,.int .i64 a.length),(14,.bool false)] [] [])
 | 0,i,h=>by
  have:i=a.length:=by omega
  subst this;rw[aB mY rfl];simp only[go_sem,jm]
 | k+1,i,h=>by
  have c:(i:Int)<a.length:=by omega
  have b:0<=(i:Int):=by omega
  have f:=wI (n:=i) (by omega)
  have e:=gQ (ii (show i<a.length by omega));have g:=Ra a d k (i+1) (by omega);rw[aB mY rfl];simp only[go_sem,c,b,f,e,sW];exact g
def Rm(b:dt.length<=1000000000):G0 117 [.sl .no 1 (cH dt),.sl .no 1 (cH dt)] []=some (.bool true,[]):=by
 refine aA YS ?_;have a:=Ra dt b dt.length 0 (by omega);simp only[go_sem] at a;simp only[YS,go_sem,dG,a]
def prT(l:List (Int×Int)):List (List AV):=l.map λp=>[.int .i64 p.1,.int .i64 p.2]
def EH:(prT iz).length=iz.length:=by simp [prT]
theorem mi:[[AV.int .i64 k,AV.int .i64 D]]=prT [(k,D)]:=rfl
def mj(y:List (Int×Int)):prT iz++prT y=prT (iz++y):=by simp [prT]
theorem NB:prT []=[]:=rfl
def UE{p:Int×Int}(h:iz[n]?=some p):(prT iz)[n]?=some [.int .i64 p.1,.int .i64 p.2]:=by simp [prT,h]
def XM{fo:List UInt8}(h:K≠fo):(K != fo)=true:=by simp [h]
def xn(a b:List (List UInt8))(e:a.length=b.length)(v:a.length<=1000000000):∀ (k i:Nat),i+k=a.length ->
  (a.drop i=b.drop i->∃ c,aC G0 mY (ST [(0,.sl .no 1 (cH a)),(1,.sl .no 1 (cH b)),(10,.bool false),(12,.int .i64 a.length),(13,.int .i64 i)] [] [])=some (.ex 0,ST c [] [])) /\
  (a.drop i≠b.drop i->∃ c,aC G0 mY (ST [(0,.sl .no 1 (cH a)),(1,.sl .no 1 (cH b)),(10,.bool false),(12,.int .i64 a.length),(13,.int .i64 i)] [] [])=some (.ret,ST c [] [])/\aF .any c 4=.bool false)
 | 0,i,h=>by
  have:i=a.length:=by omega
  subst this;refine⟨λ_=>?_,λh=>absurd (by simp [e]) h⟩;refine Exists.intro ?_ ?_
  rotate_left 1
  ·rw[aB mY rfl]
   simp only[go_sem,jm];rfl
 | k+1,i,h=>by
  have m:(i:Int)<a.length:=by omega
  have l:0<=(i:Int):=by omega
  have o:=wI (n:=i) (by omega)
  have hi:i<a.length:=by omega
  have p:i<b.length:=by omega
  have g:=gQ (ii hi);have d:=gQ (ii p);have r:a.drop i=a[i]::a.drop (i+1):=je hi;have s:b.drop i=b[i]::b.drop (i+1):=je p;have q:=xn a b e v k (i+1) (by omega);rw[r,s];by_cases f:a[i]=b[i]
  ·rw[f] at g
   constructor
   ·intro hd
    obtain⟨c,j⟩:=q.1 (List.cons.inj hd).2;refine⟨c,?_⟩;rw[aB mY rfl];simp only[go_sem,m,l,o,g,d,sW];exact j
   ·intro hd
    obtain⟨c,j,u⟩:=q.2 (λh=>hd (by rw[f,h]));refine⟨c,?_,u⟩;rw[aB mY rfl];simp only[go_sem,m,l,o,g,d,sW];exact j
  ·refine⟨λhd=>absurd (List.cons.inj hd).1 f,λ_=>?_⟩
   refine Exists.intro ?_ (And.intro ?_ ?_)
   rotate_left 1
   ·rw[aB mY rfl]
    simp only[go_sem,m,l,o,g,d,XM f];rfl
   ·rfl
def Rl(b:List (List UInt8))(a:dt.length=b.length)(c:dt.length<=1000000000):G0 117 [.sl .no 1 (cH dt),.sl .no 1 (cH b)] []=some (.bool (decide (dt=b)),[]):=by
 by_cases h:dt=b
 ·subst h
  rw[Rm (dt:=dt) c];simp
 ·refine aA YS ?_
  have d:=xn dt b a c dt.length 0 (by omega);rw[kc,kc] at d;obtain⟨g,e,f⟩:=d.2 h;rw[a] at e;simp only[go_sem] at e;simp only[YS,go_sem,dG,a,e,f,h,jM,iR]
def jK:Nat->List Tk->List Int
 | _,[]=>[]
 | p,t::T=>if cnt t.1=true then (p:Int)::jK (p+1) T else jK (p+1) T
def z4:∀ (T:List Tk) (p:Nat),(jK p T).length=(phr T).length
 | [],_=>rfl
 | t::T,p=>by
  have a:=z4 T (p+1);by_cases h:cnt t.1=true
  ·rw[uE h];simp [jK,h,a]
  ·rw[EJ (by simpa using h)];simp [jK,h,a]
theorem VW:[[AV.int .i64 k]]=fG [k]:=rfl
def VY:fG L++fG ft=fG (L++ft):=by simp [fG]
def W0(w:List (List UInt8))(T:List Tk)(q:T.length<=1000000)(b:∀ t∈T,t.2.1.length<=1000000):∀ (k i:Nat) (md:Own) (P:List Int) (K:List (List UInt8)),md≠.no->i+k=T.length->P.length<=i->K.length<=i ->
  ∃ md',md'≠.no/\aC G0 JA (ST [(0,.sl .no 1 (cH w)),(5,.sl md 1 (fG P)),(6,.sl md 1 (cH K)),(13,.bool false),(14,.sl .no 3 (tks T)),(15,.int .i64 T.length),(16,.int .i64 i)] [] [])=some (.ex 0,ST [(0,.sl .no 1 (cH w)),(5,.sl md' 1 (fG (P++jK i (T.drop i)))),(6,.sl md' 1 (cH (K++phr (T.drop i)))),(13,.bool false),(14,.sl .no 3 (tks T)),(15,.int .i64 T.length),(16,.int .i64 T.length),(17,.bool false)] [] [])
 | 0,i,md,P,K,d,u,v,j=>by
  have:i=T.length:=by omega
  subst this;refine⟨md,d,?_⟩;rw[aB JA rfl];simp only[go_sem,jm,lb];simp [phr,jK]
 | k+1,i,md,P,K,d,u,v,j=>by
  have l:i<T.length:=by omega
  have p:(i:Int)<T.length:=by omega
  have o:0<=(i:Int):=by omega
  have s:=wI (n:=i) (by omega)
  have hg:T[i]?=some T[i]:=ii l;have hd:T.drop i=T[i]::T.drop (i+1):=je l;have y:T[i].2.1.length<=1000000:=b _ (xd l);have r:=cQ hg;by_cases f:cnt T[i].1=true
  ·obtain⟨md',c,g⟩:=W0 w T q b k (i+1) .own (P++[(i:Int)]) (K++[kyF T[i].1 T[i].2.1]) (by decide) (by omega) (by simp;omega) (by simp;omega)
   refine⟨md',c,?_⟩;have e:phr (T.drop i)=kyF T[i].1 T[i].2.1::phr (T.drop (i+1)):=by rw[hd,uE f]
   have h:jK i (T.drop i)=(i:Int)::jK (i+1) (T.drop (i+1)):=by rw[hd];simp only[jK,f,kp]
   rw[e,h];rw[kb,kb] at g;have x:aU 16 (K.length+1)=true:=aL (by decide) (by omega);have m:aU 8 (P.length+1)=true:=aL (by decide) (by omega);rw[aB JA rfl];simp only[go_sem,p,o,s,r,px,Rn y,f,bJ md _ d 1 16 (by decide),bJ md _ d 1 8 (by decide),dG,eE,x,m,GD,GG,VW,VY];exact g
  ·obtain⟨md',c,g⟩:=W0 w T q b k (i+1) md P K d (by omega) (by omega) (by omega)
   refine⟨md',c,?_⟩;have a:cnt T[i].1=false:=by simpa using f
   have e:phr (T.drop i)=phr (T.drop (i+1)):=by rw[hd,EJ a]
   have h:jK i (T.drop i)=jK (i+1) (T.drop (i+1)):=by rw[hd];simp only[jK,a,jl,kz]
   rw[e,h];rw[aB JA rfl];simp only[go_sem,p,o,s,r,px,a];exact g
def occ(P:List Int)(K w:List (List UInt8)):Nat->Nat->List (Int×Int)
 | 0,_=>[]
 | k+1,i=>if i+w.length<=K.length then (if (K.take (i+w.length)).drop i=w then (P.getD i 0,P.getD (i+w.length-1) 0+1)::occ P K w k (i+1) else occ P K w k (i+1)) else []
def GC:((cH dt).take j).drop n=cH ((dt.take j).drop n):=by simp [cH,ao3,map_drop]
def WZ(w:List (List UInt8))(o:1<=w.length)(p:w.length<=1000000)(P:List Int)(K:List (List UInt8))(h:P.length=K.length)(E:K.length<=1000000)(v:∀ x∈P,0<=x/\x<=1000000)(a c:Own)(l:aJ (.sl a 1 (fG P))=.sl (Q9 a) 1 (fG P))(X:AV)(d:∀ O,cA O X=X)(y:Int):∀ (k i:Nat) (md:Own) (out:List (Int×Int)),md≠.no->K.length+1<=i+k->out.length<=i->i<=K.length+1 ->
  ∃ md' j,aC G0 DI (ST [(0,.sl .no 1 (cH w)),(5,.sl a 1 (fG P)),(6,.sl c 1 (cH K)),(9,.sl md 2 (prT out)),(10,.int .i64 i),(13,.bool false),(14,X),(15,.int .i64 y),(16,.int .i64 y),(17,.bool false)] [] [])=some (.ex 2,ST [(0,.sl .no 1 (cH w)),(5,.sl a 1 (fG P)),(6,.sl c 1 (cH K)),(9,.sl md' 2 (prT (out++occ P K w k i))),(10,.int .i64 j),(13,.bool false),(14,X),(15,.int .i64 y),(16,.int .i64 y),(17,.bool false),(39,.bool false)] [] [])
 | 0,i,md,out,A,H,I,J=>by
  have f:IntKind.i64.wrap ((i:Int)+(w.length:Int))=(((i+w.length:Nat)):Int):=by rw[w6 (by omega)];rfl
  have g:¬ (((i+w.length:Nat)):Int)<=(K.length:Int):=by omega
  refine⟨md,i,?_⟩;rw[aB DI rfl];simp only[go_sem,dG,f,g,occ,d]
 | k+1,i,md,out,A,H,I,J=>by
  have f:IntKind.i64.wrap ((i:Int)+(w.length:Int))=(((i+w.length:Nat)):Int):=by rw[w6 (by omega)];rfl
  have F:=wI (n:=i) (by omega)
  by_cases g:i+w.length<=K.length
  ·have b:(((i+w.length:Nat)):Int)<=(K.length:Int):=by omega
   have C:0<=(i:Int):=by omega
   have D:(i:Int)<=(((i+w.length:Nat)):Int):=by omega
   have m:((K.take (i+w.length)).drop i).length=w.length:=by simp;omega
   have u:=Rl (dt:=(K.take (i+w.length)).drop i) w m (by omega);by_cases q:(K.take (i+w.length)).drop i=w
   ·obtain⟨md',j,r⟩:=WZ w o p P K h E v a c l X d y k (i+1) .own (out++[(P.getD i 0,P.getD (i+w.length-1) 0+1)]) (by decide) (by omega) (by simp;omega) (by omega)
    have G:P[i]?=some (P.getD i 0):=by simp [ki,(show i<P.length by omega)]
    have B:P[i+w.length-1]?=some (P.getD (i+w.length-1) 0):=by simp [ki,(show i+w.length-1<P.length by omega)]
    have Q:=v _ (ab4 B);have L:IntKind.i64.wrap ((((i+w.length:Nat)):Int)-1)=(((i+w.length-1:Nat)):Int):=by rw[w6 (by omega)];omega
    have M:(0:Int)<=(((i+w.length-1:Nat)):Int):=by omega
    have s:IntKind.i64.wrap (P.getD (i+w.length-1) 0+1)=P.getD (i+w.length-1) 0+1:=w6 (by omega);have N:aU 16 (out.length+1)=true:=aL (by decide) (by omega);have e:occ P K w (k+1) i=(P.getD i 0,P.getD (i+w.length-1) 0+1)::occ P K w k (i+1):=by simp only[occ];rw[iw g,iw q]
    rw[e];rw[kb] at r;refine⟨md',j,?_⟩;rw[aB DI rfl];simp only[go_sem,dG,f,b,C,D,GC,q,Rm (dt:=w) (by omega),d,qQ G,qQ B,L,M,s,bJ md _ A 2 16 (by decide),EH,N,mi,mj,F];exact r
   ·obtain⟨md',j,r⟩:=WZ w o p P K h E v a c l X d y k (i+1) md out A (by omega) (by omega) (by omega)
    have e:occ P K w (k+1) i=occ P K w k (i+1):=by simp only[occ];rw[iw g,ie q]
    rw[e];refine⟨md',j,?_⟩;rw[aB DI rfl];simp only[go_sem,dG,f,b,C,D,GC,u,q,d,F];exact r
  ·have b:¬ (((i+w.length:Nat)):Int)<=(K.length:Int):=by omega
   refine⟨md,i,?_⟩;have e:occ P K w (k+1) i=[]:=by simp only[occ];rw[ie g]
   rw[e];rw[aB DI rfl];simp only[go_sem,dG,f,b,d]
def AA(w:List (List UInt8))(T:List Tk):List (Int×Int):=if w.length=0 then [] else occ (jK 0 T) (phr T) w ((phr T).length+1) 0
def UJ:(phr b).length<=b.length:=by
 unfold phr;rw[zt];exact ak4 _ _
def NG:∀ (T:List Tk) (p:Nat),∀ x∈jK p T,(p:Int)<=x/\x<((p+T.length:Nat):Int)
 | [],_,x,h=>by simp [jK] at h
 | t::T,p,x,h=>by
  have a:=NG T (p+1) x;simp only[jK] at h;simp only[jd]
  split at h
  ·rcases la.1 h with h | h
   ·subst h;omega
   ·have:=a h;omega
  ·have:=a h;omega
def Ro(i:dt.length<=1000000)(m:b.length<=100000)(d:∀ t∈b,t.2.1.length<=1000000):G0 79 [.sl .no 1 (cH dt),.sl .no 3 (tks b)] []=some (.sl .no 2 (prT (AA dt b)),[]):=by
 refine aA F79 ?_;by_cases g:dt.length=0
 ·have c:((dt.length:Nat):Int)=0:=by omega
  simp only[F79,go_sem,dG,c,AA,g,NB]
 ·have c:¬ ((dt.length:Nat):Int)=0:=by omega
  obtain⟨a,h,e⟩:=W0 dt b (by omega) d b.length 0 .full [] [] (by decide) (by omega) (by simp) (by simp);have n:=UJ (b:=b);obtain⟨l,j,f⟩:=WZ dt (by omega) i (jK 0 b) (phr b) (z4 b 0) (by omega) (λx k=>by have:=NG b 0 x k;omega) a a (d4) (.sl .no 3 (tks b)) (λ_=>rfl) b.length ((phr b).length+1) 0 .full [] (by decide) (by omega) (by simp) (by omega);simp only[go_sem,GF,VX,NB,kc] at e f;simp only[F79,go_sem,dG,aD,c,e,f,AA,g]
def z8(w:List (List UInt8)):Nat->List Tk->List (Int×Int)
 | _,[]=>[]
 | p,t::T=>if cnt t.1=true/\(phr (t::T)).take w.length=w then ((p:Int),(jK p (t::T)).getD (w.length-1) 0+1)::z8 w (p+1) T else z8 w (p+1) T
def B1(w:List (List UInt8)):List Int->List (List UInt8)->List (Int×Int)
 | p::P,k::K=>if (k::K).take w.length=w then (p,(p::P).getD (w.length-1) 0+1)::B1 w P K else B1 w P K
 | _,_=>[]
def UN(w:List (List UInt8)):∀ (T:List Tk) (p:Nat),z8 w p T=B1 w (jK p T) (phr T)
 | [],p=>by simp [z8,jK,phr,B1]
 | t::T,p=>by
  have b:=UN w T (p+1);simp only[z8];by_cases h:cnt t.1=true
  ·have a:jK p (t::T)=(p:Int)::jK (p+1) T:=by simp only[jK,h,kp]
   rw[uE h,a];simp only[B1,h,tn,b]
  ·have a:jK p (t::T)=jK (p+1) T:=by simp only[jK,h,kz];simp
   rw[a,EJ (by simpa using h),ie (λq=>h q.1)];exact b
def wh(w:List (List UInt8))(s:1<=w.length)(P:List Int)(K:List (List UInt8))(d:P.length=K.length):∀ (k i:Nat),K.length+1<=i+k->occ P K w k i=B1 w (P.drop i) (K.drop i)
 | 0,i,h=>by
  have:K.drop i=[]:=aa6 (by omega)
  rw[this]
  cases P.drop i<;>simp [occ,B1]
 | k+1,i,h=>by
  have n:=wh w s P K d k (i+1) (by omega);simp only[occ];by_cases q:i<K.length
  ·have g:K.drop i=K[i]::K.drop (i+1):=je q
   have j:P.drop i=P[i]::P.drop (i+1):=je (by omega);have r:(K.take (i+w.length)).drop i=(K.drop i).take w.length:=by
    rw[aj0];congr 1;omega
   rw[r,j,g];simp only[B1];rw[<- g,<- j];by_cases c:(K.drop i).take w.length=w
   ·have l:i+w.length<=K.length:=by
     have:=pz List.length c
     simp at this;omega
    rw[iw l,iw c,iw c,n];have o:P.getD i 0=P[i]:=by simp [ki,(show i<P.length by omega)]
    have p:(P.drop i).getD (w.length-1) 0=P.getD (i+w.length-1) 0:=by
     rw[ki,ki,tb]
     congr 2;omega
    rw[o,p]
   ·rw[ie c,ie c,n]
    split
    ·rfl
    ·rename_i l
     have u:∀ (a:List Int) (b:List (List UInt8)),b.length<w.length->B1 w a b=[]:=by
      intro a
      induction a with
      | nil=>intro b _;cases b<;>rfl
      | cons x a f =>
       intro b m
       cases b with
       | nil=>rfl
       | cons y b =>
        simp only[B1];rw[ie (λe=>by have:=pz List.length e;simp at this m;omega)];exact f b (by simp at m;omega)
     exact (u _ _ (by simp;omega)).symm
  ·have:K.drop i=[]:=aa6 (by omega)
   rw[this,ie (by omega)]
   cases P.drop i<;>rfl
def UO(w:List (List UInt8))(a:1<=w.length)(T:List Tk):AA w T=z8 w 0 T:=by
 unfold AA;rw[ie (by omega),wh w a _ _ (z4 T 0) _ 0 (by omega),kc,kc,UN]
end Go.Av
namespace Go.Nt
variable{L:List Int}{V e fh:List It}{i u:Bs}{k:Int}{s:It}
def lR(l:List Int)(n:Int):List Int:=if n∈l then l else l++[n]
def XV(n i:Int)(h:i∈L):i∈lR L n:=by
 unfold lR;split
 ·exact h
 ·simp [h]
def RM:k∈lR L k:=by
 unfold lR;split
 ·assumption
 ·simp
def C5:∀ (a l:List Int) (i:Int),i∈l->i∈a.foldl lR l
 | [],l,i,h=>h
 | x::a,l,i,h=>C5 a _ i (XV (L:=l) x i h)
def AQ:∀ (a l:List Int) (i:Int),i∈a->i∈a.foldl lR l
 | x::a,l,i,h=>by
  rw[ac6];rcases la.1 h with rfl | h
  ·exact C5 a _ _ (RM (L:=l) (k:=i))
  ·exact AQ a _ i h
def AT:∀ (t:List It) (acc l:List Int),(t.foldl gK acc).foldl lR l=t.foldl gK (acc.foldl lR l)
 | [],acc,l=>rfl
 | x::t,acc,l=>by
  rw[ac6,ac6,AT t (gK acc x) l]
  congr 1
  unfold gK;by_cases a:bC x=true
  ·by_cases b:x.2.2∈acc
   ·rw[ie (λz=>z.2 b),ie (λz=>z.2 (AQ acc l _ b))]
   ·rw[iw ⟨a,b⟩,ak8]
    have e:[x.2.2].foldl lR (acc.foldl lR l)=if x.2.2∈acc.foldl lR l then acc.foldl lR l else acc.foldl lR l++[x.2.2]:=rfl
    rw[e];by_cases q:x.2.2∈acc.foldl lR l
    ·rw[iw q,ie (λz=>z.2 q)]
    ·rw[ie q,iw ⟨a,q⟩]
  ·rw[ie (λz=>a z.1),ie (λz=>a z.1)]
def cnl(s t:List It):List Int:=cF (s++t)
def IV:(cF V).foldl lR (cF e)=cnl e V:=by
 unfold cnl cF;rw[AT,ak8];rfl
def QH(s t f:List It):List It:=rC (cnl s t) (eK (cnl s t).length) f
def i6(s t:List It):List It:=nrm (QH s t s)
def l4(s t:List It):List It:=nrm (QH s t t)
def zP(g:List It):∀ f:List It,(∀ x∈f,x∈g)->rC (cF g) (eK (cF g).length) f=f.map (phi g)
 | [],_=>rfl
 | x::f,h=>by
  have c:=zP g f (λy b=>h y (by simp [b]));have e:zO (cF g) (eK (cF g).length) x=some (phi g x):=by
   unfold zO phi;by_cases a:bC x=true
   ·rw[iw a,iw a,pE (nE (h x (by simp)) a)];rfl
   ·rw[ie a,ie a]
  show (x::f).filterMap _=_;rw[filterMap_cons,e,ju,<- c];rfl
def zQ:QH e V e=e.map (phi (e++V)):=zP (e++V) e (λx h=>by simp [h])
def TY:QH e V V=V.map (phi (e++V)):=zP (e++V) V (λx h=>by simp [h])
def nh:len (V.map (phi e))=len V:=by
 unfold len;rw[map_map]
 congr 1
 refine ad5 λx _=>?_
 exact mt (e:=e) (s:=x)
def NU(g:(cF e).length<=999)(d:∀ x∈V,x∈e)(h:vld V=0):vld (V.map (phi e))=0:=by
 obtain⟨a,b,c⟩:=(cG V).1 h;refine (cG _).2 ⟨?_,by simpa using b,by rw[nh];exact c⟩
 have:=G3 (f:=e) g V [] (by simp) d a
 exact this
def iG(b:(cF (V++fh)).length<=999)(h:vld V=0):i6 V fh=V.map (phi (V++fh))/\vld (i6 V fh)=0:=by
 have a:=NU b (λx c=>by simp [c]) h (V:=V);have e:i6 V fh=V.map (phi (V++fh)):=by unfold i6;rw[zQ,US ((cG _).1 a).1]
 exact⟨e,by rw[e];exact a⟩
def nR(b:(cF (V++fh)).length<=999)(h:vld fh=0):l4 V fh=fh.map (phi (V++fh))/\vld (l4 V fh)=0:=by
 have a:=NU b (λx c=>by simp [c]) h (V:=fh);have e:l4 V fh=fh.map (phi (V++fh)):=by unfold l4;rw[TY,US ((cG _).1 a).1]
 exact⟨e,by rw[e];exact a⟩
def VA:∀ (n:Nat) (k:Nat),k<n->lkz (eK n) (eK n) ((k:Int)+1)=some ((k:Int)+1):=by
 have key:∀ (l:List Int) (i:Int),i∈l->lkz l l i=some i:=by
  intro l
  induction l with
  | nil=>intro i h;cases h
  | cons a l b =>
   intro i h;simp only[lkz];by_cases e:a=i
   ·rw[iw e,e]
   ·rw[ie e]
    exact b i ((la.1 h).resolve_left (λq=>e q.symm))
 intro n k h;refine key _ _ ?_;unfold eK;exact yd.2 ⟨k,an2.2 h,rfl⟩
def G8:cF (V.map (phi V))=eK (cF V).length:=by
 have v:∀ (f:List It) (l:List Int),l.Nodup->(f.foldl gK l).Nodup:=by
  intro f
  induction f with
  | nil=>intro l h;exact h
  | cons x f y =>
   intro l h;refine y _ ?_;unfold gK;split
   ·rename_i q
    rw[ak7];exact⟨h,by simp,λa s b u=>by simp only[kj] at u;rw[u];exact λe=>q.2 (e ▸ s)⟩
   ·exact h
 have E:(cF V).Nodup:=v V [] nodup_nil
 have k:∀ (j:Nat) (i:Int),(cF V)[j]?=some i->sig V i=(j:Int)+1:=by
  intro j i g;obtain⟨F,D,A⟩:=AF _ _ _ _ (pE (ab4 g));have d:j<(cF V).length:=by
   by_cases q:j<(cF V).length
   ·exact q
   ·rw[ls (by omega)] at g;cases g
  have e:j=F:=(getElem?_inj d E).1 (by rw[g,D]);rw[<- e] at A;exact (tN A).1
 have key:∀ (f h:List It),h++f=V->(f.map (phi V)).foldl gK (eK (cF h).length)=eK (cF V).length/\∃ r,cF V=cF h++r:=by
  intro f
  induction f with
  | nil =>
   intro h e;rw[ka] at e;subst e;exact⟨rfl,[],by simp⟩
  | cons x f y =>
   intro h e;have B:(h++[x])++f=V:=by rw[kb];exact e
   obtain⟨i1,r,w⟩:=y (h++[x]) B;have p:cF (h++[x])=gK (cF h) x:=by unfold cF;rw[ak8];rfl
   have G:x∈V:=by rw[<- e];simp
   rw[ju,ac6];have step:gK (eK (cF h).length) (phi V x)=eK (cF (h++[x])).length:=by
    rw[p];unfold gK;rw[yM];by_cases n:bC x=true
    ·have C:(phi V x).2.2=sig V x.2.2:=by unfold phi;rw[iw n]
     rw[C];by_cases o:x.2.2∈cF h
     ·obtain⟨j,g⟩:=ns.1 o
      have d:j<(cF h).length:=by
       by_cases q:j<(cF h).length
       ·exact q
       ·rw[ls (by omega)] at g;cases g
      have m:(cF V)[j]?=some x.2.2:=by
       rw[w,p];unfold gK;rw[ie (λz=>z.2 o),kq d,g]
      have es:=k j _ m;have c:sig V x.2.2∈eK (cF h).length:=by
       rw[es];unfold eK;exact yd.2 ⟨j,an2.2 d,rfl⟩
      rw[ie (λz=>z.2 c),ie (λz=>z.2 o)]
     ·have m:(cF V)[(cF h).length]?=some x.2.2:=by
       rw[w,p];unfold gK;rw[iw ⟨n,o⟩,kb,ky (ji _),ae7];rfl
      have es:=k _ _ m;have c:sig V x.2.2 ∉ eK (cF h).length:=by
       rw[es];intro q;unfold eK at q;obtain⟨a,s,u⟩:=yd.1 q
       have:=an2.1 s
       omega
      rw[iw ⟨n,c⟩,iw ⟨n,o⟩,es,jb,jy,RZ]
    ·rw[ie (λz=>n z.1),ie (λz=>n z.1)]
   rw[step];refine⟨i1,?_⟩;rw[w,p];unfold gK;split
   ·exact⟨x.2.2::r,by simp⟩
   ·exact⟨r,rfl⟩
 have:=(key V [] rfl).1
 exact this
def mr(h:bC s=true):phi e s=(s.1,s.2.1,sig e s.2.2):=by unfold phi;rw[iw h]
def NH:∀ x∈V,phi (V.map (phi V)) (phi V x)=phi V x:=by
 intro x g;by_cases a:bC x=true
 ·have b:phi V x=(x.1,x.2.1,sig V x.2.2):=by unfold phi;rw[iw a]
  have h:=TK (nE g a);have d:bC (phi V x)=true:=by rw[yM];exact a
  have e:phi (V.map (phi V)) (phi V x)=((phi V x).1,(phi V x).2.1,sig (V.map (phi V)) (phi V x).2.2):=mr d;rw[e,b];simp only[]
  have:sig (V.map (phi V)) (sig V x.2.2)=sig V x.2.2:=by
   unfold sig;rw[G8,hJ];have c:=VA (cF V).length (sig V x.2.2-1).toNat (by omega);have f:(((sig V x.2.2-1).toNat:Nat):Int)+1=sig V x.2.2:=by omega
   rw[f] at c;unfold sig at c;rw[c];rfl
  rw[this]
 ·have b:phi V x=x:=by unfold phi;rw[ie a]
  rw[b];unfold phi;rw[ie a]
def KV:(cF V).Nodup:=by
 have c:∀ (f:List It) (l:List Int),l.Nodup->(f.foldl gK l).Nodup:=by
  intro f
  induction f with
  | nil=>intro l h;exact h
  | cons x f i =>
   intro l h;refine i _ ?_;unfold gK;split
   ·rename_i q
    rw[ak7];exact⟨h,by simp,λa g b d=>by simp only[kj] at d;rw[d];exact λe=>q.2 (e ▸ g)⟩
   ·exact h
 exact c V [] nodup_nil
def QO(h:k∈cF e):∃ x∈e,bC x=true/\x.2.2=k:=by
 have key:∀ (f:List It) (l:List Int),k∈f.foldl gK l->k∈l\/∃ x∈f,bC x=true/\x.2.2=k:=by
  intro f
  induction f with
  | nil=>intro l h;exact .inl h
  | cons x f c =>
   intro l h;rcases c _ h with q | ⟨y,a,b⟩
   ·unfold gK at q
    split at q
    ·rename_i z
     rcases ng.1 q with q | q
     ·exact .inl q
     ·exact .inr ⟨x,wa ..,z.1,(kj.1 q).symm⟩
    ·exact .inl q
   ·exact .inr ⟨y,xa _ a,b⟩
 rcases key e [] h with q | q
 ·cases q
 ·exact q
def ui(h:VL e):∀ x∈e,x.1≠1->wfX x:=by
 have key:∀ (n:Nat) (e:List It),e.length=n->VL e->∀ x∈e,x.1≠1->wfX x:=by
  intro n
  induction n with
  | zero=>intro e c _ x d;rw[js c] at d;cases d
  | succ n i =>
   intro e c f x d;rcases dS e with rfl | ⟨g,y,rfl⟩
   ·simp at c
   ·obtain⟨a,b⟩:=(cY g y).1 f
    rcases ng.1 d with q | q
    ·exact i g (by simp at c;exact c) a x q
    ·rw[kj.1 q]
     exact FL b
 exact key _ e rfl h
def Jh(h:wfX s)(a:bC s=true):1<=s.2.2/\s.2.2<=999:=by
 unfold bC at a;rcases h with ⟨b,_⟩ | ⟨b,_⟩ | ⟨_,_,h⟩ | ⟨_,_,h⟩
 ·rw[b] at a;simp at a
 ·rw[b] at a;simp at a
 ·exact h
 ·exact h
def jU(d:vld e=0)(f:vld V=0):(cF (e++V)).length<=999:=by
 have a:cF (e++V) ⊆ eK 999:=by
  intro i hi;obtain⟨x,h,b,j⟩:=QO hi;have g:wfX x:=by
   have c:x.1≠1:=λq=>by unfold bC at b;rw[q] at b;simp at b
   rcases ng.1 h with q | q
   ·exact ui ((cG e).1 d).1 x q c
   ·exact ui ((cG V).1 f).1 x q c
  have:=Jh g b
  unfold eK;exact yd.2 ⟨(i-1).toNat,an2.2 (by omega),by omega⟩
 have:=(KV (V:=e++V)).length_le_of_subset a
 rw[hJ] at this;exact this
def qt(g:vld e=0)(h:vld V=0):i6 (i6 e V) (l4 e V)=i6 e V/\l4 (i6 e V) (l4 e V)=l4 e V:=by
 have c:=jU g h;obtain⟨a,l⟩:=iG c g;obtain⟨b,m⟩:=nR c h;have f:(cF (i6 e V++l4 e V)).length<=999:=by rw[a,b,<- af5,G8,hJ];exact c
 obtain⟨i,_⟩:=iG (fh:=l4 e V) f l;obtain⟨j,_⟩:=nR (V:=i6 e V) f m;have k:i6 e V++l4 e V=(e++V).map (phi (e++V)):=by rw[a,b,af5]
 rw[i,j,k,a,b,map_map,map_map];constructor
 ·refine ad5 λx d=>?_
  exact NH (V:=e++V) x (by simp [d])
 ·refine ad5 λx d=>?_
  exact NH (V:=e++V) x (by simp [d])
abbrev ltB(a b:Bs):Bool:=Op.bytesLess a b
def NW:ltB i []=false:=by cases i<;>rfl
theorem ER(p b:UInt8):ltB (p::i) (b::u)=(decide (p<b)||(p==b&&ltB i u)):=rfl
def uT:∀ a:Bs,ltB a a=false
 | []=>rfl
 | a::x=>by
  rw[ER,uT x,rk,ak2,ac7];exact UInt8.lt_irrefl a
def EQ:∀ a b:Bs,ltB a b=false->a≠b->ltB b a=true
 | [],[],_,h=>absurd rfl h
 | [],b::y,h,_=>by cases h
 | a::x,[],_,_=>rfl
 | a::x,b::y,h,c=>by
  rw[ER,ag0,ac7] at h;rw[ER,yb,decide_eq_true_iff];by_cases e:a=b
  ·subst e
   refine .inr ?_
   have d:=h.2;simp only[pk,jx] at d ⊢;exact EQ x y d (λq=>c (by rw[q]))
  ·refine .inl ?_
   have:=UInt8.not_lt.1 h.1
   exact UInt8.lt_of_le_of_ne this (λq=>e q.symm)
def wJ:∀ a b c:Bs,ltB a b=true->ltB b c=true->ltB a c=true
 | _,[],c,h,_=>by rw[NW] at h;cases h
 | _,_::_,[],_,h=>by rw[NW] at h;cases h
 | [],b::y,c::z,_,_=>rfl
 | a::x,b::y,c::z,e,d=>by
  rw[ER,yb,decide_eq_true_iff,ir,Lh] at e d ⊢;rcases e with e | ⟨rfl,e⟩
  ·rcases d with d | ⟨rfl,d⟩
   ·exact .inl (UInt8.lt_trans e d)
   ·exact .inl e
  ·rcases d with d | ⟨rfl,d⟩
   ·exact .inl d
   ·exact .inr ⟨rfl,wJ x y z e d⟩
def nG(h:ltB i u=true):ltB u i=false:=by
 cases q:ltB u i with
 | false=>rfl
 | true=>have:=wJ i u i h q;rw[uT] at this;cases this
def KW(h:ltB i u=true):i≠u:=λe=>by rw[e,uT] at h;cases h
structure TO {α:Type} (f:α->α->Int):Prop where
 anti:∀ a b,f b a = - f a b
 le:∀ a b c,f a b<=0->f b c<=0->f a c<=0
 lt:∀ a b c,f a b<=0->f b c<=0->(f a b<0\/f b c<0)->f a c<0
def TO.z{ce:Type}{f:ce->ce->Int}(h:TO f){a b c:ce}(d:f a b=0)(e:f b c=0):f a c=0:=by
 have:=h.le a b c (by omega) (by omega)
 have:=h.le c b a (by have:=h.anti b c;omega) (by have:=h.anti a b;omega)
 have:=h.anti a c
 omega
end Go.Nt
