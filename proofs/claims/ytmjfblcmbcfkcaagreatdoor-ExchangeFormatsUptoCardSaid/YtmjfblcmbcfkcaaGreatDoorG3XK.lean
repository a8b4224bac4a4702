/- The union of two memories, by both packages. No conditions. The reference's union of two memories. No conditions. The laws MemoryUnites and MemoryGreater. No conditions. strings.Builder in this program; calls of functions that make no objects, as calls of the model. No conditions. exchange.Format: a walk over the program's code with strings.Builder. No conditions. Whether a list of entries is a memory, and its first error, by both packages. No conditions. -/
import Derived.Test.YtmjfblcmbcfkcaaGreatDoorG3XJ
import Derived.Test.YtmjfblcmbcfkcaaGreatDoorG3Sm
import Derived.Shelf.Strings.BuilderK
import Derived.KernelRfl
import Derived.Test.YtmjfblcmbcfkcaaGreatDoorG3XB
import Derived.Test.YtmjfblcmbcfkcaaGreatDoorChecked
import Derived.Deep.LoopGhost
import Derived.Deep.RegionHeld3
import Derived.Deep.DeepCutAuto
import Derived.Lib.Walk
import Derived.IntWalk
import Derived.Lib.Hide
import Derived.Test.YtmjfblcmbcfkcaaGreatDoorG3XH
open List
set_option linter.unusedSimpArgs false
set_option linter.unusedVariables false
set_option linter.unusedSectionVars false
set_option maxRecDepth 100000
set_option maxHeartbeats 16000000
namespace Go.Av
open Go.Nt
end Go.Av
namespace Go.Av
open Go.Nt
end Go.Av
namespace Go.Av
open Go.Nt
end Go.Av
namespace Go.Av
open Go.Proofs Go.Shelf Go.RowKit
def rnB:Ren:=⟨fun i=>match i with | 166=>33 | 240=>64 | 276=>97 | 169=>37 | 170=>36 | _=>0,fun i=>match i with | 72=>73 | 70=>71 | 37=>40 | 164=>127 | 127=>110 | i=>i,fun i=>i⟩
theorem zBJ:Lays.n166 Tryz.prog rnB:=by constructor<;>first | kernel_rfl | (intro w;kernel_rfl)
theorem zBI:Lays.n169 Tryz.prog rnB:=by constructor<;>first | kernel_rfl | (intro w;kernel_rfl)
theorem zBH:Lays.n170 Tryz.prog rnB:=by constructor<;>first | kernel_rfl | (intro w;kernel_rfl)
theorem xB72:Builder.X72 Tryz.prog rnB:=by constructor<;>kernel_rfl
theorem xB:Builder.Extra Tryz.prog rnB:={ xB72 with t5:=by kernel_rfl,a5:=fun w=>by kernel_rfl,z5:=fun w=>by kernel_rfl,v5:=fun w=>by kernel_rfl,infoByte:=by kernel_rfl,cellsByte:=by kernel_rfl,sizeByte:=by kernel_rfl,neB5:=by decide }
def Bld (B b:Nat) (s:List UInt8) (w:World):Prop:=Lib.IsBuilderF 73 5 B b (Lib.byteCells s) w
theorem Bld.lt {B b:Nat} {s:List UInt8} {w:World} (h:Bld B b s w):b < w.heap.size:=by
 rcases h with ⟨_,v,h2,_⟩ | ⟨_,v,h2,_⟩<;>exact (Array.getElem?_eq_some_iff.1 h2).1
theorem Bld.keep {B b:Nat} {s:List UInt8} {w w':World} (h:Bld B b s w) (hb:∀ k,k < w.heap.size->w'.heap[k]?=w.heap[k]?):Bld B b s w':=by
 have key:∀ p,Lib.BuilderAtF 73 5 B b p (Lib.byteCells s) w->Lib.BuilderAtF 73 5 B b p (Lib.byteCells s) w':=by
  rintro p ⟨h1,v,h2,⟨h3,h4⟩,h5⟩
  refine⟨h1,v,(hb b (Array.getElem?_eq_some_iff.1 h2).1).trans h2,⟨h3,?_⟩,h5⟩;rcases h4 with h4 | ⟨g,cap,cur,fz,q1,q2,q3,q4⟩
  ·exact .inl h4
  ·exact .inr ⟨g,cap,cur,fz,q1,q2,(hb g (Array.getElem?_eq_some_iff.1 q3).1).trans q3,q4⟩
 exact h.imp (key _) (key _)
theorem Bld.write {B b:Nat} {s t:List UInt8} {w:World} (h:Bld B b s w) (hl:s.length+t.length<=140737488355328) (hB:B<=w.heap.size) :
  Calls Tryz.prog 33 #[.pointer (some ⟨b,0,none⟩),.string ⟨t.toArray⟩] w fun e w'=>e=.returned (.tuple #[.int .i64 (t.length:Int),.nilIface])/\Bld B b (s++t) w'/\Below B w w'/\Lib.OthersKept 5 (some b) w w':=by
 refine (Any.Builder_WriteString_k zBJ xB B b (Lib.byteCells s) ⟨t.toArray⟩ w h (by rw[Lib.byteCells_length];simpa [ByteArray.size] using hl) hB).mono ?_
 rintro e w' ⟨rfl,h1,h2,h3⟩
 refine⟨by simp [ByteArray.size],.inr ?_,h2,h3⟩;rw[Lib.strCells_eq,<- Lib.byteCells_append] at h1;exact h1
theorem Bld.writeB {B b:Nat} {s:List UInt8} {w:World} (h:Bld B b s w) (x:ByteArray) (hl:s.length+x.data.toList.length<=140737488355328) (hB:B<=w.heap.size) :
  Calls Tryz.prog 33 #[.pointer (some ⟨b,0,none⟩),.string x] w fun e w'=>(∃ n:Int,e=.returned (.tuple #[.int .i64 n,.nilIface]))/\Bld B b (s++x.data.toList) w'/\Below B w w'/\Lib.OthersKept 5 (some b) w w':=by
 refine (Bld.write (t:=x.data.toList) h hl hB).mono ?_
 rintro e w' ⟨rfl,h1,h2,h3⟩
 exact⟨⟨_,rfl⟩,h1,h2,h3⟩
theorem Bld.len {B b:Nat} {s:List UInt8} {w:World} (h:Bld B b s w) :
  Calls Tryz.prog 36 #[.pointer (some ⟨b,0,none⟩)] w fun e w'=>e=.returned (.int .i64 (s.length:Int))/\w=w':=by
 refine (Any.Builder_Len_f zBH B b (Lib.byteCells s) w h).mono ?_
 rintro e w' ⟨rfl,rfl⟩
 rw[Lib.byteCells_length];exact⟨rfl,rfl⟩
theorem Bld.str {B b:Nat} {s:List UInt8} {w:World} (h:Bld B b s w) (hB:B<=w.heap.size) :
  Calls Tryz.prog 37 #[.pointer (some ⟨b,0,none⟩)] w fun e w'=>e=.returned (.string ⟨s.toArray⟩)/\Below B w w':=by
 refine (Any.Builder_String_any_f zBI xB B b s w h hB).mono ?_
 rintro e w' ⟨rfl,_,h2⟩
 exact⟨rfl,h2⟩
theorem Bld.fresh {w:World}:Bld w.heap.size w.heap.size [] (w.alloc (.cells #[.pointer none,.slice none 0 0] 73)):=by
 refine .inl ⟨Nat.le_refl _,.slice none 0 0,heap_alloc_new w _,⟨rfl,.inl ⟨rfl,rfl⟩⟩,?_⟩
 simp [Value.ownBlock]
theorem sL {f:FuncId} {args:List AV} {r:AV} (h:G0 f args []=some (r,[])) (hf:∀ vs w,(callFunc f vs).run Tryz.prog w=.ok (.enter f vs) w) {S0:Nat->Nat->Prop} {w:World} {vs:Array Value} (hS:∀ b o,S0 b o->b < w.heap.size) (hg:kL S0 w)
  (ha:aJ (aP (cx0 (fun _=>0) (fun _=>0) S0 w 0) aR) args vs.toList) :
  Calls Tryz.prog f vs w fun e w'=>∃ v β bs S,e=.returned v/\aP (cx0 β bs S w' 0) aR r v/\Below w.heap.size w w':=by
 have hent:n7 [] (fun _=>.stab) (fun _=>0) (fun _=>0) S0 (fun _=>none) w:=⟨⟨fun i c hi=>(by simp at hi),fun i hi=>(by simp at hi)⟩,fun b o hs=>⟨hS b o hs,fun i hi=>(by simp at hi),fun k hk=>(by cases hk)⟩,fun b k hk=>(by cases hk),fun b t k hk=>(by cases hk),hg⟩
 rcases G3 _ _ _ _ _ h with ⟨_,hs⟩ | hx
 ·refine (hs _ _ _ _ _ _ _ hent ha).mono ?_
  rintro e w' ⟨v,kd',β',bs',rfl,A⟩
  exact⟨v,β',bs',_,rfl,A.rep,⟨A.os,A.tape,A.output,A.size,fun k hk=>A.frame k hk (fun i hi=>by simp at hi) rfl⟩⟩
 ·obtain⟨v,w',_,_,_,h1,_⟩:=hx _ _ _ _ _ _ _ hent ha
  rw[hf] at h1;cases h1
end Go.Av
namespace Go.Av
open Go.Proofs Go.Shelf Go.RowKit Go.Nt
set_option maxHeartbeats 4000000
theorem zDE {W w1:World} (hb:Below W.heap.size W w1):(∀ b o,b < W.heap.size->w1.cell? ⟨b,o,none⟩=W.cell? ⟨b,o,none⟩)/\(∀ b o,b < W.heap.size->w1.frozen? ⟨b,o,none⟩=W.frozen? ⟨b,o,none⟩):=
 ⟨fun b o h=>hb.cell (p:=⟨b,o,none⟩) h,fun b o h=>hb.frozen (p:=⟨b,o,none⟩) h⟩
theorem at8 {W:World} {k T:Nat} {c0 c1 c2 c3 c4 c5 c6 c7:Value} (h:W.heap[k]?=some (.cells #[c0,c1,c2,c3,c4,c5,c6,c7] T (0,0))) :
  W.cell? ⟨k,0,none⟩=some c0/\W.cell? ⟨k,1,none⟩=some c1/\W.cell? ⟨k,2,none⟩=some c2/\W.cell? ⟨k,3,none⟩=some c3/\W.cell? ⟨k,4,none⟩=some c4/\W.cell? ⟨k,5,none⟩=some c5/\W.cell? ⟨k,6,none⟩=some c6/\W.cell? ⟨k,7,none⟩=some c7:=by
 refine⟨?_,?_,?_,?_,?_,?_,?_,?_⟩<;>rw[Lib.cell_of_heap h]<;>rfl
theorem JP {t e n:Nat} {cs:Array Value} {i:Int} {v:Value} {W:World} (hu:Tryz.prog.underlying t=some (.array n e)) (ha:∀ W,(isAgg e).run Tryz.prog W=.ok false W) (hz:∀ W,(Go.sizeOf e).run Tryz.prog W=.ok 1 W) (h0:0<=i) (hn:i < n) (hv:cs[i.toNat]?=some v) :
  (Instr.index t (.agg cs) (.int .i64 i)).run Tryz.prog W=.ok v W:=by
 simp [Instr.index,asIntOf,run_underlying hu,asAgg,h0,hn,part,ha,hz,hv]
theorem SL (w:World):w.drew.heap=w.heap:=rfl
theorem zBL {W X:World} {k T:Nat} {c0 c1 c2 c3 c4 c5 c6 c7:Value} (hx:X.heap[k]?=some (.cells #[c0,c1,c2,c3,c4,c5,c6,c7] T (0,0))) (hW:W.heap[k]?=X.heap[k]?) :
  W.cell? ⟨k,2,none⟩=some c2/\W.cell? ⟨k,3,none⟩=some c3/\W.cell? ⟨k,4,none⟩=some c4/\W.cell? ⟨k,5,none⟩=some c5/\W.cell? ⟨k,7,none⟩=some c7:=by
 obtain⟨_,_,h2,h3,h4,h5,_,h7⟩:=at8 (hW.trans hx);exact⟨h2,h3,h4,h5,h7⟩
theorem UK (w:World):Calls Tryz.prog 67 #[] w fun e w'=>e=.returned (.agg #[.string ⟨#[104,117,109,97,110]⟩,.string ⟨#[97,108,105,103,110,101,100]⟩,.string ⟨#[109,97,99,104,105,110,101]⟩])/\Below w.heap.size w w':=by
 go_enter Tryz.func67,Tryz.ntmps67
 go_wp2
 exact bodyPost_ret (v:=.agg #[.string ⟨#[104,117,109,97,110]⟩,.string ⟨#[97,108,105,103,110,101,100]⟩,.string ⟨#[109,97,99,104,105,110,101]⟩]) (by simp [results,Tryz.results67,go_sem]) rfl ⟨rfl,((Below.refl _ _).alloc (Nat.le_refl _) _)⟩
def vsF (t0 t1 p n a j t6 q:List UInt8):Nat->List UInt8
 | 0=>t0 | 1=>t1 | 2=>p | 3=>n | 4=>a | 5=>j | 6=>t6 | _=>q
def nG (f:Nat->List UInt8):Nat->List Bs
 | 0=>[]
 | k+1=>nG f k++lnE k (f k)
theorem V5 (w:World):Calls Tryz.prog 68 #[] w fun e w'=>e=.returned (.agg #[.string ⟨#[115,111,117,114,99,101]⟩,.string ⟨#[116,97,114,103,101,116]⟩,.string ⟨#[112,114,101,118,105,111,117,115]⟩,.string ⟨#[110,101,120,116]⟩,.string ⟨#[97,117,116,104,111,114]⟩,.string ⟨#[112,114,111,106,101,99,116]⟩,.string ⟨#[99,114,101,97,116,101,100]⟩,.string ⟨#[111,114,105,103,105,110]⟩])/\Below w.heap.size w w':=by
 go_enter Tryz.func68,Tryz.ntmps68
 go_wp2
 exact bodyPost_ret (v:=.agg #[.string ⟨#[115,111,117,114,99,101]⟩,.string ⟨#[116,97,114,103,101,116]⟩,.string ⟨#[112,114,101,118,105,111,117,115]⟩,.string ⟨#[110,101,120,116]⟩,.string ⟨#[97,117,116,104,111,114]⟩,.string ⟨#[112,114,111,106,101,99,116]⟩,.string ⟨#[99,114,101,97,116,101,100]⟩,.string ⟨#[111,114,105,103,105,110]⟩]) (by simp [results,Tryz.results68,go_sem]) rfl ⟨rfl,((Below.refl _ _).alloc (Nat.le_refl _) _)⟩
def vls (t0 t1 p n a j t6 q:List UInt8):Obj:=.cells #[.string ⟨t0.toArray⟩,.string ⟨t1.toArray⟩,.string ⟨p.toArray⟩,.string ⟨n.toArray⟩,.string ⟨a.toArray⟩,.string ⟨j.toArray⟩,.string ⟨t6.toArray⟩,.string ⟨q.toArray⟩] 108 (0,0)
theorem TG (B b:Nat) (s:List UInt8) (w:World) (h:Bld B b s w) (hB:B<=w.heap.size) (v0 v1:Value) (e:En) (t0 t1 t6 q:List UInt8) (hq:orn.getD (e.o - 1).toNat []=q)
  (h0:∀ W:World,Below B w W->Calls Tryz.prog 66 #[v0] W fun e w'=>e=.returned (.tuple #[.string ⟨t0.toArray⟩,.int .i64 0])/\Below W.heap.size W w')
  (h1:∀ W:World,Below B w W->Calls Tryz.prog 66 #[v1] W fun e w'=>e=.returned (.tuple #[.string ⟨t1.toArray⟩,.int .i64 0])/\Below W.heap.size W w')
  (h6:e.c≠0->∀ W:World,Below B w W->Calls Tryz.prog 34 #[.int .i64 e.c] W fun e w'=>e=.returned (.string ⟨t6.toArray⟩)/\Below W.heap.size W w') (h6z:e.c=0->t6=[]) (o1:1<=e.o) (o3:e.o<=3) (hs1:s.length<=100000000) (hszv:∀ i,(vsF t0 t1 e.p e.n e.a e.j t6 q i).length<=1000000) (hszl:∀ i,i<=8->(jn (nG (vsF t0 t1 e.p e.n e.a e.j t6 q) i)).length<=100000000) :
  Calls Tryz.prog 35 #[.pointer (some ⟨b,0,none⟩),.agg #[v0,v1,.string ⟨e.p.toArray⟩,.string ⟨e.n.toArray⟩,.string ⟨e.a.toArray⟩,.string ⟨e.j.toArray⟩,.int .i64 e.c,.int .i64 e.o]] w fun r w'=>r=.returned (.tuple #[])/\Bld B b (s++jn (nG (vsF t0 t1 e.p e.n e.a e.j t6 q) 8)) w'/\Below B w w':=by
 obtain⟨S,p,n,a,j,c,o,hS⟩:∃ S p n a j c o,e=⟨S.1,S.2,p,n,a,j,c,o⟩:=⟨(e.S,e.T),e.p,e.n,e.a,e.j,e.c,e.o,rfl⟩
 subst hS;simp only[] at h6 h6z o1 o3 hq hszv hszl;have HQ:=Lib.hid hq
 clear hq
 go_enter Tryz.func35,Tryz.ntmps35
 go_upto_if 26 with (first | (go_at_call 66;(with_reducible refine (h0 _ ((Below.refl _ _).alloc hB _)).mono ?_);rintro e w1 ⟨rfl,hb1⟩;have hx1:=(hb1.block w.heap.size (by simp)).trans (heap_alloc_new w _);obtain⟨x10,x11,x12,x13,x14,x15,x16,x17⟩:=at8 hx1;have hz1:w.heap.size+1<=w1.heap.size:=by (have:=hb1.size;simp at this;omega)) | (go_at_call 66;(with_reducible refine (h1 _ (((Below.refl _ _).alloc hB _).trans (hb1.mono (by simp;omega)))).mono ?_);rintro e w2 ⟨rfl,hb2⟩;have hx2:=(hb2.block w.heap.size (by omega)).trans hx1;obtain⟨x20,x21,x22,x23,x24,x25,x26,x27⟩:=at8 hx2;have hz2:=hb2.size))
 go_cut [8] (fun s8 wx=>s8=.string ⟨t6.toArray⟩/\wx.heap[w.heap.size]?=some (.cells #[v0,v1,.string ⟨p.toArray⟩,.string ⟨n.toArray⟩,.string ⟨a.toArray⟩,.string ⟨j.toArray⟩,.int .i64 c,.int .i64 o] 25 (0,0))/\Below w.heap.size w wx/\w.heap.size+1<=wx.heap.size)
 case first =>
  by_cases hc:c=0
  ·have h6:=h6z hc
   subst h6;subst hc
   go_wp2
   go_meet
   exact⟨rfl,hx2,⟨hb2.os.trans hb1.os,hb2.tape.trans hb1.tape,hb2.output.trans hb1.output,by omega,fun k hk=>(hb2.block k (by omega)).trans ((hb1.block k (by simp;omega)).trans (Below.heap_alloc w _ k hk))⟩,by omega⟩
  ·have h6:=h6 hc
   go_wp2_with (go_at_call 34;(with_reducible refine (h6 _ ((((Below.refl _ _).alloc hB _).trans (hb1.mono (by simp;omega))).trans (hb2.mono (by omega)))).mono ?_);rintro e w3 ⟨rfl,hb3⟩;have hx3:=(hb3.block w.heap.size (by omega)).trans hx2;have hz3:=hb3.size)
   go_meet
   exact⟨rfl,hx3,⟨hb3.os.trans (hb2.os.trans hb1.os),hb3.tape.trans (hb2.tape.trans hb1.tape),hb3.output.trans (hb2.output.trans hb1.output),by omega,fun k hk=>(hb3.block k (by omega)).trans ((hb2.block k (by omega)).trans ((hb1.block k (by simp;omega)).trans (Below.heap_alloc w _ k hk)))⟩,by omega⟩
 case rest =>
  obtain⟨rfl,hx,hb,hz⟩:=hcut
  go_upto_region 6 with fail
  go_cut [9] (fun s9 wy=>∃ k:Nat,s9=.pointer (some ⟨k,0,none⟩)/\w.heap.size<=k/\wy.heap[k]?=some (vls t0 t1 p n a j t6 q)/\Below w.heap.size w wy)
  case first =>
   obtain⟨y0,y1,y2,y3,y4,y5,y6,y7⟩:=at8 hx;have hix:∀ W,(Instr.index 106 (.agg #[.string ⟨#[104,117,109,97,110]⟩,.string ⟨#[97,108,105,103,110,101,100]⟩,.string ⟨#[109,97,99,104,105,110,101]⟩]) (.int .i64 (o - 1))).run Tryz.prog W=.ok (.string ⟨q.toArray⟩) W:=fun W=>by
    rw[<- HQ.out];have ho:o=1\/o=2\/o=3:=by omega
    rcases ho with rfl | rfl | rfl<;>exact JP (n:=3) (e:=9) (by kernel_rfl) (fun W=>by kernel_rfl) (fun W=>by kernel_rfl) (by decide) (by decide) rfl
   have hw1:IntKind.i64.wrap (o - 1)=o - 1:=IntWalk.i64_in _ (by omega)
   go_region_held3 (fun w'=>w'.cell? ⟨w.heap.size,2,none⟩=some (.string ⟨p.toArray⟩)/\w'.cell? ⟨w.heap.size,3,none⟩=some (.string ⟨n.toArray⟩)/\w'.cell? ⟨w.heap.size,4,none⟩=some (.string ⟨a.toArray⟩)/\w'.cell? ⟨w.heap.size,5,none⟩=some (.string ⟨j.toArray⟩)/\w'.cell? ⟨w.heap.size,7,none⟩=some (.int .i64 o))
    ((refine zBL hx ?_;first | (simp (disch:=(first | omega | (simp;omega) | (have:=hb4.size;simp at this ⊢;omega))) only [SL,Below.heap_setCell,Below.heap_alloc];done) | (simp (disch:=(first | omega | (simp;omega) | (have:=hb4.size;simp at this ⊢;omega))) only [SL,Below.heap_setCell,Below.heap_alloc,hb4.block];done)))
    (first | (go_at_call 67;refine (UK _).mono ?_;rintro e w4 ⟨rfl,hb4⟩;obtain⟨hc4,hf4⟩:=zDE hb4) | simp only[hix])
   all_goals go_wp2_with fail
   all_goals go_meet
   ·exact⟨_,rfl,by have:=hb4.size;simp at this;omega,heap_alloc_new _ _,((hb.drew).trans (hb4.mono (by simp;omega))).alloc (by have:=hb4.size;simp at this;omega) _⟩
   ·exact⟨_,rfl,by have:=hb4.size;simp at this;omega,heap_alloc_new _ _,((hb.drew).trans (hb4.mono (by simp;omega))).alloc (by have:=hb4.size;simp at this;omega) _⟩
   ·have hx4:=(hb4.block wc.heap.size (by simp)).trans (heap_alloc_new wc _)
    exact⟨_,rfl,by omega,by simp [World.setCell,Array.getElem?_modify,hx4,vls],((((((((((hb.alloc (by omega) _).drew.trans (hb4.mono (by simp;omega))).setCell (by simp;omega) _).setCell (by simp;omega) _).setCell (by simp;omega) _).setCell (by simp;omega) _).setCell (by simp;omega) _).setCell (by simp;omega) _).setCell (by simp;omega) _).setCell (by simp;omega) _)⟩
  case rest =>
   obtain⟨k,rfl,hk,hv,hbw⟩:=hcut;have hks:=(Array.getElem?_eq_some_iff.1 hv).1;have HKB:=Lib.hid (show ¬ k=b from fun e=>by have:=h.lt;omega)
   go_wp2_with (go_at_call 68;refine (V5 _).mono ?_;rintro e w5 ⟨rfl,hb5⟩)
   have hv5:=(hb5.block k hks).trans hv;have h5:Bld B b s w5:=h.keep (fun k hk=>(hb5.block k (by have:=hbw.size;omega)).trans (hbw.block k hk));have hbw5:Below B w w5:=(hbw.mono hB).trans (hb5.mono (by have:=hbw.size;omega));have hks5:k < w5.heap.size:=by have:=hb5.size;omega
   clear h0 h1 h6 h6z hx hb hz hbw hb5 hv hks h
   go_loopg [48] 8 (fun g s48 wx=>∃ i:Nat,i+g=8/\s48=.int .i64 (i:Int)/\wx.heap[k]?=some (vls t0 t1 p n a j t6 q)/\Bld B b (s++jn (nG (vsF t0 t1 p n a j t6 q) i)) wx/\Below B w wx/\k < wx.heap.size)
   case atStart=>exact⟨0,rfl,rfl,hv5,by simpa [nG,jn] using h5,hbw5,hks5⟩
   case round =>
    obtain⟨i,hi,rfl,hv,hB',hbw',hks⟩:=hrel
    cases gk with
    | zero =>
     obtain rfl:i=8:=by omega
     go_wp2
     go_end0
     exact⟨rfl,hB',hbw'⟩
    | succ g =>
     have hi8:i < 8:=by omega
     have hi0:(0:Int)<=(i:Int):=by omega
     have hi1:(i:Int) < 8:=by omega
     obtain⟨nm,hnm⟩:∃ nm,fnm.getD i []=nm:=⟨_,rfl⟩
     have hix:∀ W,(Instr.index 108 (.agg #[.string ⟨#[115,111,117,114,99,101]⟩,.string ⟨#[116,97,114,103,101,116]⟩,.string ⟨#[112,114,101,118,105,111,117,115]⟩,.string ⟨#[110,101,120,116]⟩,.string ⟨#[97,117,116,104,111,114]⟩,.string ⟨#[112,114,111,106,101,99,116]⟩,.string ⟨#[99,114,101,97,116,101,100]⟩,.string ⟨#[111,114,105,103,105,110]⟩]) (.int .i64 (i:Int))).run Tryz.prog W=.ok (.string ⟨nm.toArray⟩) W:=fun W=>by
      refine JP (n:=8) (e:=9) (by kernel_rfl) (fun W=>by kernel_rfl) (fun W=>by kernel_rfl) hi0 hi1 ?_;rw[<- hnm,Int.toNat_natCast]
      match i,hi8 with
      | 0,_ | 1,_ | 2,_ | 3,_ | 4,_ | 5,_ | 6,_ | 7,_=>rfl
     have hc:wr.cell? ⟨k,i,none⟩=some (.string ⟨(vsF t0 t1 p n a j t6 q i).toArray⟩):=by
      rw[Lib.cell_of_heap hv]
      match i,hi8 with
      | 0,_ | 1,_ | 2,_ | 3,_ | 4,_ | 5,_ | 6,_ | 7,_=>rfl
     have hszl':=hszl i (by omega);have hnl:nm.length<=8:=by
      rw[<- hnm]
      match i,hi8 with
      | 0,_ | 1,_ | 2,_ | 3,_ | 4,_ | 5,_ | 6,_ | 7,_=>decide
     have HL:=Lib.hid (show nG (vsF t0 t1 p n a j t6 q) (i+1)=nG (vsF t0 t1 p n a j t6 q) i++lnE i (vsF t0 t1 p n a j t6 q i) from rfl);have HN:=Lib.hid hnm
     clear hnm
     have hsz:=hszv i;generalize vsF t0 t1 p n a j t6 q i=v at hc HL hsz;by_cases hv0:v=[]
     ·subst hv0
      by_cases hi2:2<=i
      ·have hi2':(2:Int)<=(i:Int):=by omega
       go_wp2_with fail
       go_roundg g
       case measure=>omega
       case rel =>
        refine⟨i+1,by omega,by go_num,hv,?_,hbw',hks⟩;rw[HL.out,lnE,if_pos ⟨hi2,rfl⟩,append_nil];exact hB'
      ·have hi2':(i:Int) < 2:=by omega
       go_wp2_with (go_at_call 33;refine (hB'.writeB _ (by simp;omega) (by omega)).mono ?_;rintro e w6 ⟨⟨m,rfl⟩,h6,hb6,ho6⟩)
       go_roundg g
       case measure=>omega
       case rel =>
        have hv6:w6.heap[k]?=some (vls t0 t1 p n a j t6 q):=ho6 k _ hv (by simp;exact HKB.out) (by intro c fz hh;cases hh);refine⟨i+1,by omega,by go_num,hv6,?_,hbw'.trans hb6,by have:=hb6.size;omega⟩;rw[HL.out,lnE,if_neg (by simp_all)];rw[show s++jn (nG (vsF t0 t1 p n a j t6 q) i++[lnK i []])=(s++jn (nG (vsF t0 t1 p n a j t6 q) i))++(nm++32 :: ([]++[10])) by simp [jn,lnK,<- HN.out]];simpa using h6
     ·go_wp2_with (go_at_call 33;refine (hB'.writeB _ (by simp;omega) (by omega)).mono ?_;rintro e w6 ⟨⟨m,rfl⟩,h6,hb6,ho6⟩)
      go_roundg g
      case measure=>omega
      case rel =>
       have hv6:w6.heap[k]?=some (vls t0 t1 p n a j t6 q):=ho6 k _ hv (by simp;exact HKB.out) (by intro c fz hh;cases hh);refine⟨i+1,by omega,by go_num,hv6,?_,hbw'.trans hb6,by have:=hb6.size;omega⟩;rw[HL.out,lnE,if_neg (by simp_all)];rw[show s++jn (nG (vsF t0 t1 p n a j t6 q) i++[lnK i v])=(s++jn (nG (vsF t0 t1 p n a j t6 q) i))++(nm++32 :: (v++[10])) by simp [jn,lnK,<- HN.out]];simpa using h6
end Go.Av
namespace Go.Av
open Go.Proofs Go.Shelf Go.RowKit Go.Nt
set_option maxHeartbeats 4000000
def txK (m:List En) (i:Nat):List UInt8:=hdT m.length++10 :: (m.take i).flatMap fun e=>jn (iM e)
structure RowX (w:World) (bb off:Nat) (e:En) (v0 v1:Value) (t6:List UInt8):Prop where
 c0:∀ W:World,Below w.heap.size w W->W.cell? ⟨bb,off,none⟩=some v0
 c1:∀ W:World,Below w.heap.size w W->W.cell? ⟨bb,off+1,none⟩=some v1
 c2:∀ W:World,Below w.heap.size w W->W.cell? ⟨bb,off+2,none⟩=some (.string ⟨e.p.toArray⟩)
 c3:∀ W:World,Below w.heap.size w W->W.cell? ⟨bb,off+3,none⟩=some (.string ⟨e.n.toArray⟩)
 c4:∀ W:World,Below w.heap.size w W->W.cell? ⟨bb,off+4,none⟩=some (.string ⟨e.a.toArray⟩)
 c5:∀ W:World,Below w.heap.size w W->W.cell? ⟨bb,off+5,none⟩=some (.string ⟨e.j.toArray⟩)
 c6:∀ W:World,Below w.heap.size w W->W.cell? ⟨bb,off+6,none⟩=some (.int .i64 e.c)
 c7:∀ W:World,Below w.heap.size w W->W.cell? ⟨bb,off+7,none⟩=some (.int .i64 e.o)
 f0:∀ W:World,Below w.heap.size w W->Calls Tryz.prog 66 #[v0] W fun e' w'=>e'=.returned (.tuple #[.string ⟨(fmE e.S).toArray⟩,.int .i64 0])/\Below W.heap.size W w'
 f1:∀ W:World,Below w.heap.size w W->Calls Tryz.prog 66 #[v1] W fun e' w'=>e'=.returned (.tuple #[.string ⟨(fmE e.T).toArray⟩,.int .i64 0])/\Below W.heap.size W w'
 f6:e.c≠0->∀ W:World,Below w.heap.size w W->Calls Tryz.prog 34 #[.int .i64 e.c] W fun e' w'=>e'=.returned (.string ⟨t6.toArray⟩)/\Below W.heap.size W w'
 z6:e.c=0->t6=[]
 e6:t6=vlE e 6
 s0:∃ a l k,v0=.slice a l k
 s1:∃ a l k,v1=.slice a l k
 o1:1<=e.o
 o3:e.o<=3
 sz:∀ i,(vsF (fmE e.S) (fmE e.T) e.p e.n e.a e.j t6 (orn.getD (e.o - 1).toNat []) i).length<=1000000
 sl:∀ i,i<=8->(jn (nG (vsF (fmE e.S) (fmE e.T) e.p e.n e.a e.j t6 (orn.getD (e.o - 1).toNat [])) i)).length<=100000000
theorem RQ {m:List En} {i:Nat} {e:En} (h:m[i]?=some e):txK m (i+1)=txK m i++jn (iM e):=by
 unfold txK;rw[take_add_one,h,flatMap_append,append_assoc];simp
theorem PB {e:En} {t6:List UInt8} (h:t6=vlE e 6):nG (vsF (fmE e.S) (fmE e.T) e.p e.n e.a e.j t6 (orn.getD (e.o - 1).toNat [])) 8=iM e:=by
 subst h;rfl
theorem SJ (m:List En) (w:World) (v:Value) (A:Option Addr) (bb oo c:Nat) (hv:v=.slice A m.length c) (hA:m≠[]->A=some ⟨bb,oo,none⟩) (hcap:m.length<=c) (hlen:m.length<=1000) (htl:(txM m).length<=1048576) (htk:∀ i,(txK m i).length<=100000000)
  (h0:∀ W:World,Below w.heap.size w W->Calls Tryz.prog 32 #[v] W fun e w'=>e=.returned (.int .i64 0)/\Below W.heap.size W w')
  (h1:∀ W:World,Below w.heap.size w W->Calls Tryz.prog 34 #[.int .i64 (m.length:Int)] W fun e w'=>e=.returned (.string ⟨(dcN m.length).toArray⟩)/\Below W.heap.size W w')
  (hr:∀ (i:Nat) (e:En),m[i]?=some e->∃ v0 v1 t6,RowX w bb (oo+i*8) e v0 v1 t6) :
  Calls Tryz.prog 17 #[v] w fun r w'=>r=.returned (.tuple #[.string ⟨(txM m).toArray⟩,.int .i64 0])/\Below w.heap.size w w':=by
 subst hv;have HTL:=Lib.hid htl;have HTK:=Lib.hid htk
 clear htl htk
 have hd:(dcN m.length).length<=10:=(wG 9 m.length (by omega)).2.2.2.1
 go_enter Tryz.func17,Tryz.ntmps17
 go_wp2_with (first | (go_at_call 32;(with_reducible refine (h0 _ (Below.refl _ _)).mono ?_);rintro e w1 ⟨rfl,hb1⟩) | (go_at_call 34;(with_reducible refine (h1 _ (hb1.trans ((Below.refl _ _).alloc hb1.size _))).mono ?_);rintro e w2 ⟨rfl,hb2⟩;have hB2:=Bld.keep (Bld.fresh (w:=w1)) hb2.block) | (go_at_call 33;refine (hB2.writeB _ (by simp;omega) (by have:=hb2.size;simp at this;omega)).mono ?_;rintro e w3 ⟨⟨k0,rfl⟩,hB3,hb3,_⟩))
 have hb13:Below w1.heap.size w1 w3:=(((Below.refl _ _).alloc (Nat.le_refl _) _).trans (hb2.mono (by simp))).trans hb3;have hB3':Bld w1.heap.size w1.heap.size (txK m 0) w3:=by simpa [txK,hdT,hdB] using hB3
 clear h0 h1 hB2 hb2 hB3 hb3
 go_loopg [21] m.length (fun g s21 wx=>∃ i:Nat,i+g=m.length/\s21=.int .i64 (i:Int)/\Bld w1.heap.size w1.heap.size (txK m i) wx/\Below w1.heap.size w1 wx)
 case atStart=>exact⟨0,by omega,rfl,hB3',hb13⟩
 case round =>
  obtain⟨i,hi,rfl,hB,hbx⟩:=hrel
  cases gk with
  | zero =>
   obtain rfl:i=m.length:=by omega
   have ht:txK m m.length=txM m:=by rw[CY,txK,take_length]
   rw[ht] at hB;have hlen':=hB.len;obtain⟨L,hL⟩:∃ L,(txM m).length=L:=⟨_,rfl⟩
   rw[hL] at hlen';have hLi:(L:Int)<=1048576:=by have:=HTL.out;omega
   have hst:=hB.str hbx.size;obtain⟨tx,htx⟩:∃ tx,(txM m).toArray=tx:=⟨_,rfl⟩
   rw[htx] at hst;have HTX:=Lib.hid htx
   clear ht hL hi htx
   go_wp2_with (first | (go_at_call 36;refine hlen'.mono ?_;rintro e w' ⟨rfl,rfl⟩) | (go_at_call 37;refine hst.mono ?_;rintro e w4 ⟨rfl,hb4⟩))
   go_ret2
   exact⟨by rw[HTX.out];rfl,hb1.trans ((hbx.mono hb1.size).trans (hb4.mono hb1.size))⟩
  | succ g =>
   have him:i < m.length:=by omega
   have hg:m[i]?=some m[i]:=getElem?_eq_getElem him;obtain⟨v0,v1,t6,hx⟩:=hr i _ hg
   obtain rfl:=hA (by intro q;rw[q] at him;simp at him)
   generalize m[i]=e at hx hg;obtain⟨a0,l0,k0',rfl⟩:=hx.s0;obtain⟨a1,l1,k1',rfl⟩:=hx.s1;have HG:=Lib.hid hg
   clear hg
   have hwr:Below w.heap.size w wr:=hb1.trans (hbx.mono hb1.size);have hi0:(0:Int)<=(i:Int):=by omega
   have hi1:(i:Int) < (m.length:Int):=by omega
   have c0:=hx.c0 wr hwr;have c1:=hx.c1 wr hwr;have c2:=hx.c2 wr hwr;have c3:=hx.c3 wr hwr;have c4:=hx.c4 wr hwr;have c5:=hx.c5 wr hwr;have c6:=hx.c6 wr hwr;have c7:=hx.c7 wr hwr;have hsl:(txK m i).length<=100000000:=HTK.out i;have HX:=Lib.hid hx
   go_wp2_with ((go_at_call 35;refine (TG w1.heap.size w1.heap.size (txK m i) _ (hB.keep fun k hk=>Below.heap_alloc _ _ k hk) (by have:=hbx.size;simp;omega) _ _ e _ _ t6 _ rfl (fun W hW=>HX.out.f0 W (hwr.trans (((Below.refl _ _).alloc hwr.size _).trans (hW.mono hb1.size)))) (fun W hW=>HX.out.f1 W (hwr.trans (((Below.refl _ _).alloc hwr.size _).trans (hW.mono hb1.size)))) (fun hz W hW=>HX.out.f6 hz W (hwr.trans (((Below.refl _ _).alloc hwr.size _).trans (hW.mono hb1.size)))) HX.out.z6 HX.out.o1 HX.out.o3 hsl HX.out.sz HX.out.sl).mono ?_;rintro r w5 ⟨rfl,hB5,hb5⟩))
   go_roundg g
   case measure=>omega
   case rel =>
    refine⟨i+1,by omega,by go_num,?_,hbx.trans (((Below.refl _ _).alloc hbx.size _).trans hb5)⟩;rw[RQ HG.out,<- PB HX.out.e6];exact hB5
theorem zBY (v:Value) (w:World) (k:Int) (hk:k≠0) (h0:Calls Tryz.prog 32 #[v] w fun e w'=>e=.returned (.int .i64 k)/\Below w.heap.size w w') :
  Calls Tryz.prog 17 #[v] w fun r w'=>r=.returned (.tuple #[.string ⟨#[]⟩,.int .i64 k])/\Below w.heap.size w w':=by
 go_enter Tryz.func17,Tryz.ntmps17
 go_wp2_with ((go_at_call 32;(with_reducible refine h0.mono ?_);rintro e w1 ⟨rfl,hb1⟩))
 go_ret2
 exact⟨rfl,hb1⟩
end Go.Av
namespace Go.Av
open Go.Nt
theorem kOrd (a b:Bs):G0 63 [.str a,.str b] []=some (.int .i64 (if a=b then 5 else if ltB b a=true then 11 else 0),[]):=by
 refine aA F63 rfl rfl rfl ?_;by_cases q:a=b
 ·subst q
  simp only[F63,go_sem,beq_self_eq_true]
 ·have q':(b == a)=false:=by simpa using fun h:b=a=>q h.symm
  rw[if_neg q]
  cases r:ltB b a<;>simp only[F63,go_sem,q',oN,r]
theorem ME {p:List En} {e:En} (h:vE e≠0):g9 p e=vE e:=by unfold g9;rw[if_pos h]
theorem MH {e:En} (h:vE e=0):g9 [] e=0:=by unfold g9;rw[if_neg (by simp [h])];rfl
theorem MF {p:List En} {e f:En} (h:vE e=0) (hp:p.getLast?=some f):g9 p e=if aL f=aL e then 5 else if ltB (aL e) (aL f)=true then 11 else 0:=by
 unfold g9;rw[if_neg (by simp [h]),hp]
theorem H3 {m:List En} {j:Nat} {f:En} (h:m[j]?=some f):(m.take (j+1)).getLast?=some f:=by
 rw[take_add_one,h];simp
theorem I0 {m:List En} {j:Nat} {f:En} (h:m[j]?=some f):m.take j++[f]=m.take (j+1):=by
 rw[take_add_one,h];rfl
theorem L2 (p:List En) (e:En) (r:List En):rU p (e :: r)=if g9 p e≠0 then g9 p e else rU (p++[e]) r:=rfl
theorem l32c (m:List En) (hl:m.length<=2000) (hB:∀ e∈m,BE e):∀ (k i:Nat),i+k=m.length ->
  (rU (m.take i) (m.drop i)=0->aC G0 mL (ST [(3,.str (lst m i)),(11,.bool false),(12,.sl .no 8 (ens m)),(13,.int .i64 m.length),(14,.int .i64 i)] [] [])=some (.ex 0,ST [(3,.str (lst m m.length)),(11,.bool false),(12,.sl .no 8 (ens m)),(13,.int .i64 m.length),(14,.int .i64 m.length),(15,.bool false)] [] [])) /\
  (rU (m.take i) (m.drop i)≠0->∃ l' M,aC G0 mL (ST [(3,.str (lst m i)),(11,.bool false),(12,.sl .no 8 (ens m)),(13,.int .i64 m.length),(14,.int .i64 i)] [] [])=some (.ret,ST l' M [])/\aF .any l' 2=.int .i64 (rU (m.take i) (m.drop i)))
 | 0,i,h=>by
  have:i=m.length:=by omega
  subst this;rw[drop_length];refine⟨fun _=>?_,fun q=>absurd rfl q⟩;rw[aB (L:=mL) rfl];simp only[go_sem,Int.lt_irrefl]
 | k+1,i,h=>by
  have hi:i < m.length:=by omega
  have h4:(i:Int) < (m.length:Int):=by omega
  have h0:(0:Int)<=(i:Int):=by omega
  have hw:=wI (i:=i) (by omega)
  have hg:m[i]?=some m[i]:=getElem?_eq_getElem hi;have hd:m.drop i=m[i] :: m.drop (i+1):=drop_eq_getElem_cons hi;have hBe:=hB _ (getElem_mem hi);generalize m[i]=e at hg hd hBe;have hr:=jK hg;have a1:=k23 e hBe;have a2:=k24 e hBe;simp only[aN] at a1 a2;have ih:=l32c m hl hB k (i+1) (by omega);rw[FI hg] at ih;rw[hd,L2,I0 hg];by_cases q:vE e=0
  case neg =>
   rw[ME q,if_pos q];refine⟨fun z=>absurd z q,fun _=>?_⟩;refine Exists.intro ?_ (Exists.intro ?_ (And.intro ?_ ?_))
   rotate_left 2
   ·rw[aB (L:=mL) rfl]
    simp only[go_sem,h4,h0,hr,hw,a1,q,decide_false,not_false_eq_true,decide_true];rfl
   ·rfl
  rw[q] at a1;by_cases hz0:i=0
  ·have hz:¬ (0:Int) < (i:Int):=by omega
   have hb:g9 (m.take i) e=0:=by rw[hz0];exact MH q
   rw[hb,if_neg (by simp)];have step:aC G0 mL (ST [(3,.str (lst m i)),(11,.bool false),(12,.sl .no 8 (ens m)),(13,.int .i64 m.length),(14,.int .i64 i)] [] [])=aC G0 mL (ST [(3,.str (aL e)),(11,.bool false),(12,.sl .no 8 (ens m)),(13,.int .i64 m.length),(14,.int .i64 ((i+1:Nat):Int))] [] []):=by
    conv=>lhs;rw[aB (L:=mL) rfl]
    simp only[go_sem,h4,h0,hr,hw,a1,a2,hz,decide_false,not_true_eq_false]
   rw[step];exact ih
  obtain⟨j,rfl⟩:∃ j,i=j+1:=⟨i - 1,by omega⟩
  have hgj:m[j]?=some m[j]:=getElem?_eq_getElem (by omega);generalize m[j]=f at hgj;have el:lst m (j+1)=aL f:=FI hgj;have hj0:(0:Int) < ((j+1:Nat):Int):=by omega
  have ho:=kOrd (aL f) (aL e);rw[<- MF q (H3 hgj)] at ho;rw[el];by_cases hb:g9 (m.take (j+1)) e=0
  ·rw[hb] at ho ⊢
   rw[if_neg (by simp)];have step:aC G0 mL (ST [(3,.str (aL f)),(11,.bool false),(12,.sl .no 8 (ens m)),(13,.int .i64 m.length),(14,.int .i64 ((j+1:Nat):Int))] [] [])=aC G0 mL (ST [(3,.str (aL e)),(11,.bool false),(12,.sl .no 8 (ens m)),(13,.int .i64 m.length),(14,.int .i64 ((j+1+1:Nat):Int))] [] []):=by
    conv=>lhs;rw[aB (L:=mL) rfl]
    simp only[go_sem,h4,h0,hr,hw,a1,a2,hj0,ho,decide_true,not_true_eq_false]
   rw[step];exact ih
  ·rw[if_pos hb]
   refine⟨fun z=>absurd z hb,fun _=>?_⟩;refine Exists.intro ?_ (Exists.intro ?_ (And.intro ?_ ?_))
   rotate_left 2
   ·rw[aB (L:=mL) rfl]
    simp only[go_sem,h4,h0,hr,hw,a1,a2,hj0,ho,hb,decide_true,decide_false,not_true_eq_false,not_false_eq_true];rfl
   ·rfl
theorem kChk (m:List En) (hl:m.length<=2000) (hB:∀ e∈m,BE e):G0 32 [.sl .no 8 (ens m)] []=some (.int .i64 (pC m),[]):=by
 refine aA F32 rfl rfl rfl ?_;unfold pC;by_cases hc:1024 < m.length
 ·have hc':(1024:Int) < (m.length:Int):=by omega
  rw[if_pos hc];simp only[F32,go_sem,aW,hc']
 have hc':¬ (1024:Int) < (m.length:Int):=by omega
 rw[if_neg hc];obtain⟨x1,x2⟩:=l32c m hl hB m.length 0 (by omega);have ec:((0:Nat):Int)=0:=rfl;have e3:lst m 0=[]:=rfl;rw[drop_zero,take_zero,ec,e3] at x1 x2;by_cases hq:rU [] m=0
 ·have y:=x1 hq
  rw[hq];simp only[F32,go_sem,aW,hc',y]
 ·obtain⟨l',M,y1,y2⟩:=x2 hq
  simp only[F32,go_sem,aW,hc',y1,y2]
theorem kBeh (p:List En) (hl:p.length<=1000000) (hB:∀ e∈p,BE e) (e:En) (he:BE e):G0 69 [.sl .no 8 (ens p),.agg (aN e)] []=some (.int .i64 (g9 p e),[]):=by
 have a1:=k38 e he;have a2:=k26 e he;simp only[aN] at a1 a2;refine aA F69 rfl rfl rfl ?_;by_cases q:vE e=0
 case neg =>
  rw[ME q];simp only[F69,aN,go_sem,a1,q,decide_false,not_false_eq_true,decide_true]
 rw[q] at a1;rcases eq_nil_or_concat p with rfl | ⟨g,f,hp⟩
 ·rw[MH q]
  simp only[F69,aN,go_sem,a1,ens,not_true_eq_false,decide_false]
 ·have hp:p=g++[f]:=by rw[hp,concat_eq_append]
  subst hp;rw[MF q (f:=f) (by simp)];have hn:(g++[f]).length=g.length+1:=by simp
  have hz:¬ ((g.length+1:Nat):Int)=0:=by omega
  have hw:IntKind.i64.wrap (((g.length+1:Nat):Int) - 1)=(g.length:Int):=by rw[w64 (by omega) (by omega)];omega
  have h0:(0:Int)<=(g.length:Int):=by omega
  have hg:(g++[f])[g.length]?=some f:=by simp
  have hr:=jK hg;have hBf:=hB f (by simp);have a3:=k26 f hBf;simp only[aN] at a3;by_cases r:aL f=aL e
  ·have r':(aL f == aL e)=true:=by simpa using r
   rw[if_pos r];simp only[F69,aN,go_sem,a1,a2,a3,aW,hn,hz,hw,h0,hr,r',not_true_eq_false,decide_false]
  ·have r':(aL f == aL e)=false:=by simpa using r
   rw[if_neg r];have hgt:=LF (aL f) (aL e)
   cases t:ltB (aL e) (aL f) with
   | true =>
    have t2:ltB (aL f) (aL e)=false:=gV t;simp only[F69,aN,go_sem,a1,a2,a3,aW,hn,hz,hw,h0,hr,r',t2,oN,Bool.or_false,Bool.not_false,Bool.not_true,not_true_eq_false,decide_false]
   | false =>
    have t2:ltB (aL f) (aL e)=true:=oM _ _ t (fun h=>r h.symm);simp only[F69,aN,go_sem,a1,a2,a3,aW,hn,hz,hw,h0,hr,r',t2,oN,Bool.or_false,Bool.not_false,Bool.not_true,not_true_eq_false,decide_false]
theorem l38c (m:List En) (hl:m.length<=2000) (hB:∀ e∈m,BE e):∀ (k i:Nat),i+k=m.length ->
  (rU (m.take i) (m.drop i)=0->aC G0 tU (ST [(0,.sl .no 8 (ens m)),(3,.int .i64 i),(7,.bool false)] [] [])=some (.ex 0,ST [(0,.sl .no 8 (ens m)),(3,.int .i64 m.length),(7,.bool false),(11,.bool false)] [] [])) /\
  (rU (m.take i) (m.drop i)≠0->∃ l',aC G0 tU (ST [(0,.sl .no 8 (ens m)),(3,.int .i64 i),(7,.bool false)] [] [])=some (.ret,ST l' [] [])/\aF .any l' 2=.int .i64 (rU (m.take i) (m.drop i)))
 | 0,i,h=>by
  have:i=m.length:=by omega
  subst this;rw[drop_length];refine⟨fun _=>?_,fun q=>absurd rfl q⟩;rw[aB (L:=tU) rfl];simp only[go_sem,aW,Int.lt_irrefl]
 | k+1,i,h=>by
  have hi:i < m.length:=by omega
  have h4:(i:Int) < (m.length:Int):=by omega
  have h5:(i:Int)<=(m.length:Int):=by omega
  have h0:(0:Int)<=(i:Int):=by omega
  have hw:=wI (i:=i) (by omega)
  have hg:m[i]?=some m[i]:=getElem?_eq_getElem hi;have hd:m.drop i=m[i] :: m.drop (i+1):=drop_eq_getElem_cons hi;have hBe:=hB _ (getElem_mem hi);generalize m[i]=e at hg hd hBe;have hr:=jK hg;have ht:(ens m).take i=ens (m.take i):=by simp [ens]
  have a1:=kBeh (m.take i) (by simp;omega) (fun e he=>hB e (mem_of_mem_take he)) e hBe;simp only[aN] at a1;have ih:=l38c m hl hB k (i+1) (by omega);rw[hd,L2,I0 hg];by_cases hb:g9 (m.take i) e=0
  ·rw[hb] at a1 ⊢
   rw[if_neg (by simp)];have step:aC G0 tU (ST [(0,.sl .no 8 (ens m)),(3,.int .i64 i),(7,.bool false)] [] [])=aC G0 tU (ST [(0,.sl .no 8 (ens m)),(3,.int .i64 ((i+1:Nat):Int)),(7,.bool false)] [] []):=by
    conv=>lhs;rw[aB (L:=tU) rfl]
    simp only[go_sem,aW,h4,h5,h0,hr,hw,ht,a1,not_true_eq_false,decide_false]
   rw[step];exact ih
  ·rw[if_pos hb]
   refine⟨fun z=>absurd z hb,fun _=>?_⟩;refine Exists.intro ?_ (And.intro ?_ ?_)
   rotate_left 1
   ·rw[aB (L:=tU) rfl]
    simp only[go_sem,aW,h4,h5,h0,hr,hw,ht,a1,hb,decide_false,not_false_eq_true,decide_true];rfl
   ·rfl
theorem zBP (m:List En) (hl:m.length<=2000) (hB:∀ e∈m,BE e):G0 38 [.sl .no 8 (ens m)] []=some (.int .i64 (pC m),[]):=by
 refine aA F38 rfl rfl rfl ?_;unfold pC;by_cases hc:1024 < m.length
 ·have hc':(1024:Int) < (m.length:Int):=by omega
  rw[if_pos hc];simp only[F38,go_sem,aW,hc']
 have hc':¬ (1024:Int) < (m.length:Int):=by omega
 rw[if_neg hc];obtain⟨x1,x2⟩:=l38c m hl hB m.length 0 (by omega);have ec:((0:Nat):Int)=0:=rfl;rw[drop_zero,take_zero,ec] at x1 x2;by_cases hq:rU [] m=0
 ·have y:=x1 hq
  rw[hq];simp only[F38,go_sem,aW,hc',y]
 ·obtain⟨l',y1,y2⟩:=x2 hq
  simp only[F38,go_sem,aW,hc',y1,y2]
end Go.Av
