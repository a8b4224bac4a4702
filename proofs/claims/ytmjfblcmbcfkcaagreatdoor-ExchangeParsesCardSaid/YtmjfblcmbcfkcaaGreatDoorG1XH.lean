/- Putting an entry, by both packages. No conditions. r3.Normalize and r3.Concat that hand out an object of their own. No conditions. Fragments that are nested, out of numbers. No conditions. A target of a source out of numbers: the same tags, other texts. No conditions. Entries and memories out of numbers. No conditions. The law's entries and memories, equal entries, the fixed example. No conditions. strings.Builder in this program; calls of functions that make no objects, as calls of the model. No conditions. exchange.Format: a walk over the program's code with strings.Builder. No conditions. Whether a list of entries is a memory, and its first error, by both packages. No conditions. exchange.Format as a given contract. No conditions. exchange.Format as a given contract, and the table above it. No conditions. Decimal numbers and beginnings of texts, by both packages. No conditions. The reader of exchange: fields, lines, ends of entries. No conditions. -/
import Derived.Test.YtmjfblcmbcfkcaaGreatDoorG1XG
import Derived.Test.YtmjfblcmbcfkcaaGreatDoorG1XA
import Derived.Test.YtmjfblcmbcfkcaaGreatDoorG1Sm
import Derived.Shelf.Strings.BuilderK
import Derived.KernelRfl
import Derived.Test.YtmjfblcmbcfkcaaGreatDoorG1XB
import Derived.Test.YtmjfblcmbcfkcaaGreatDoorChecked
import Derived.Deep.LoopGhost
import Derived.Deep.RegionHeld3
import Derived.Deep.DeepCutAuto
import Derived.Lib.Walk
import Derived.IntWalk
import Derived.Lib.Hide
import Derived.Test.YtmjfblcmbcfkcaaGreatDoorG1PG
import Derived.Test.YtmjfblcmbcfkcaaGreatDoorG1XF
open List
set_option linter.unusedSimpArgs false
set_option linter.unusedVariables false
set_option linter.unusedSectionVars false
set_option maxRecDepth 100000
set_option maxHeartbeats 16000000
namespace Go.Av
open Go.Nt
attribute [-go_sem] appSA_ss mklA_int
end Go.Av
namespace Go.Av
open Go.Nt
end Go.Av
namespace Go.Av
open Go.Nt
end Go.Av
namespace Go.Av
open Go.Nt
end Go.Av
namespace Go.Av
open Go.Nt
def GE (e:En):Prop:=VE e/\BE e
end Go.Av
namespace Go.Av
open Go.Nt
def MG (m:List En):Prop:=Mem m/\∀ e∈m,GE e
theorem MG.nil:MG []:=⟨mem_nil,fun e h=>by cases h⟩
theorem MG.be {m:List En} (h:MG m):∀ e∈m,BE e:=fun e he=>(h.2 e he).2
theorem MG.put {m:List En} (h:MG m) {e:En} (he:GE e):MG (putM m e):=by
 refine⟨mem_putM h.1 he.1,fun z hz=>?_⟩;rcases mem_put.1 hz with q | q
 ·rw[q];exact he
 ·exact h.2 z q.1
def sameE (x y:En):Bool:=decide (x.S=y.S) && (decide (x.T=y.T) && ((x.p == y.p) && ((x.n == y.n) && ((x.a == y.a) && ((x.j == y.j) && (decide (x.c=y.c) && decide (x.o=y.o)))))))
theorem sameE_iff (x y:En):sameE x y=true↔x=y:=by
 unfold sameE;simp only[Bool.and_eq_true,decide_eq_true_eq,beq_iff_eq];constructor
 ·rintro ⟨h1,h2,h3,h4,h5,h6,h7,h8⟩
  exact En.eq h1 h2 h3 h4 h5 h6 h7 h8
 ·rintro rfl
  exact⟨rfl,rfl,rfl,rfl,rfl,rfl,rfl,rfl⟩
theorem k37 (x y:En) (hx:BE x):G0 47 [.agg (rowE x),.agg (rowE y)] []=some (.bool (sameE x y),[]):=by
 have c1:=c22 x.S y.S (by have:=hx.lS;omega);have c2:=c22 x.T y.T (by have:=hx.lT;omega);refine contract F47 rfl rfl rfl ?_;by_cases d1:x.S=y.S
 case neg =>
  have hs:sameE x y=false:=by unfold sameE;simp [d1]
  rw[hs];rw[decide_eq_false d1] at c1;simp only[F47,rowE,go_sem,c1,c2]
 rw[decide_eq_true d1] at c1;by_cases d2:x.T=y.T
 case neg =>
  have hs:sameE x y=false:=by unfold sameE;simp [d1,d2]
  rw[hs];rw[decide_eq_false d2] at c2;simp only[F47,rowE,go_sem,c1,c2]
 rw[decide_eq_true d2] at c2;by_cases d3:x.p=y.p
 case neg =>
  have hs:sameE x y=false:=by unfold sameE;simp [d1,d2,d3]
  rw[hs];have b3:(x.p == y.p)=false:=by simpa using d3
  simp only[F47,rowE,go_sem,c1,c2,b3]
 have b3:(x.p == y.p)=true:=by simpa using d3
 by_cases d4:x.n=y.n
 case neg =>
  have hs:sameE x y=false:=by unfold sameE;simp [d1,d2,d3,d4]
  rw[hs];have b4:(x.n == y.n)=false:=by simpa using d4
  simp only[F47,rowE,go_sem,c1,c2,b3,b4]
 have b4:(x.n == y.n)=true:=by simpa using d4
 by_cases d5:x.a=y.a
 case neg =>
  have hs:sameE x y=false:=by unfold sameE;simp [d1,d2,d3,d4,d5]
  rw[hs];have b5:(x.a == y.a)=false:=by simpa using d5
  simp only[F47,rowE,go_sem,c1,c2,b3,b4,b5]
 have b5:(x.a == y.a)=true:=by simpa using d5
 by_cases d6:x.j=y.j
 case neg =>
  have hs:sameE x y=false:=by unfold sameE;simp [d1,d2,d3,d4,d5,d6]
  rw[hs];have b6:(x.j == y.j)=false:=by simpa using d6
  simp only[F47,rowE,go_sem,c1,c2,b3,b4,b5,b6]
 have b6:(x.j == y.j)=true:=by simpa using d6
 by_cases d7:x.c=y.c
 case neg =>
  have hs:sameE x y=false:=by unfold sameE;simp [d1,d2,d3,d4,d5,d6,d7]
  rw[hs];simp only[F47,rowE,go_sem,c1,c2,b3,b4,b5,b6,d7]
 by_cases d8:x.o=y.o
 case neg =>
  have hs:sameE x y=false:=by unfold sameE;simp [d1,d2,d3,d4,d5,d6,d7,d8]
  rw[hs];simp only[F47,rowE,go_sem,c1,c2,b3,b4,b5,b6,d7,d8]
 have hs:sameE x y=true:=by unfold sameE;simp [d1,d2,d3,d4,d5,d6,d7,d8]
 rw[hs];simp only[F47,rowE,go_sem,c1,c2,b3,b4,b5,b6,d7,d8]
theorem l28k (m:List En) (hl:m.length<=2000) (hB:∀ e∈m,BE e):∀ (k i:Nat),i+k=m.length ->
  execX G0 L24_0 (ST [(0,.sl .no 8 (ens m)),(1,.sl .no 8 (ens m)),(10,.bool false),(12,.int .i64 m.length),(13,.int .i64 i)] [] [])=some (.ex 0,ST [(0,.sl .no 8 (ens m)),(1,.sl .no 8 (ens m)),(10,.bool false),(12,.int .i64 m.length),(13,.int .i64 m.length),(14,.bool false)] [] [])
 | 0,i,h=>by
  have:i=m.length:=by omega
  subst this;rw[Y_loop (L:=L24_0) rfl];simp only[go_sem,Int.lt_irrefl]
 | k+1,i,h=>by
  have hi:i < m.length:=by omega
  have h4:(i:Int) < (m.length:Int):=by omega
  have h0:(0:Int)<=(i:Int):=by omega
  have hw:IntKind.i64.wrap ((i:Int)+1)=((i+1:Nat):Int):=by rw[w64 (by omega) (by omega)];rfl
  have hg:m[i]?=some m[i]:=getElem?_eq_getElem hi;have hBe:=hB _ (getElem_mem hi);generalize m[i]=e at hg hBe;have hr:=ens_at hg;have a1:=k37 e e hBe;rw[(sameE_iff e e).2 rfl] at a1;simp only[rowE] at a1;have ih:=l28k m hl hB k (i+1) (by omega);rw[Y_loop (L:=L24_0) rfl];simp only[go_sem,h4,h0,hr,hw,a1,Bool.not_true];exact ih
theorem k28 (m:List En) (hl:m.length<=2000) (hB:∀ e∈m,BE e):G0 24 [.sl .no 8 (ens m),.sl .no 8 (ens m)] []=some (.bool true,[]):=by
 have x:=l28k m hl hB m.length 0 (by omega);have ec:((0:Nat):Int)=0:=rfl;rw[ec] at x;have hne:¬ ¬ (m.length:Int)=(m.length:Int):=fun q=>q rfl
 refine contract F24 rfl rfl rfl ?_;simp only[F24,go_sem,ens_len,ne_eq,not_true_eq_false,decide_false,x]
theorem mg1 {e:En} (h:GE e):MG [e]:=by
 have:=MG.nil.put h
 exact this
end Go.Av
namespace Go.Av
open Go.Proofs Go.Shelf Go.RowKit
def rnB:Ren:=⟨fun i=>match i with | 166=>33 | 240=>64 | 276=>97 | 169=>37 | 170=>36 | _=>0,fun i=>match i with | 72=>73 | 70=>71 | 37=>40 | 164=>127 | 127=>110 | i=>i,fun i=>i⟩
theorem la166:Lays.n166 Tryz.prog rnB:=by constructor<;>first | kernel_rfl | (intro w;kernel_rfl)
theorem la169:Lays.n169 Tryz.prog rnB:=by constructor<;>first | kernel_rfl | (intro w;kernel_rfl)
theorem la170:Lays.n170 Tryz.prog rnB:=by constructor<;>first | kernel_rfl | (intro w;kernel_rfl)
theorem xB72:Builder.X72 Tryz.prog rnB:=by constructor<;>kernel_rfl
theorem xB:Builder.Extra Tryz.prog rnB:={ xB72 with t5:=by kernel_rfl,a5:=fun w=>by kernel_rfl,z5:=fun w=>by kernel_rfl,v5:=fun w=>by kernel_rfl,infoByte:=by kernel_rfl,cellsByte:=by kernel_rfl,sizeByte:=by kernel_rfl,neB5:=by decide }
def Bld (B b:Nat) (s:List UInt8) (w:World):Prop:=Lib.IsBuilderF 73 5 B b (Lib.byteCells s) w
theorem Bld.lt {B b:Nat} {s:List UInt8} {w:World} (h:Bld B b s w):b < w.heap.size:=by
 rcases h with ⟨_,v,h2,_⟩ | ⟨_,v,h2,_⟩<;>exact (Array.getElem?_eq_some_iff.1 h2).1
theorem Bld.keep {B b:Nat} {s:List UInt8} {w w':World} (h:Bld B b s w) (hb:∀ k,k < w.heap.size->w'.heap[k]?=w.heap[k]?):Bld B b s w':=by
 have key:∀ p,Lib.BuilderAtF 73 5 B b p (Lib.byteCells s) w->Lib.BuilderAtF 73 5 B b p (Lib.byteCells s) w':=by
  rintro p ⟨h1,v,h2,⟨h3,h4⟩,h5⟩
  refine⟨h1,v,(hb b (Array.getElem?_eq_some_iff.1 h2).1).trans h2,⟨h3,?_⟩,h5⟩;rcases h4 with h4 | ⟨g,cap,cur,fz,q1,q2,q3,q4⟩
  ·exact .inl h4
  ·exact .inr ⟨g,cap,cur,fz,q1,q2,(hb g (Array.getElem?_eq_some_iff.1 q3).1).trans q3,q4⟩
 exact h.imp (key _) (key _)
theorem Bld.write {B b:Nat} {s t:List UInt8} {w:World} (h:Bld B b s w) (hl:s.length+t.length<=140737488355328) (hB:B<=w.heap.size) :
  Calls Tryz.prog 33 #[.pointer (some ⟨b,0,none⟩),.string ⟨t.toArray⟩] w fun e w'=>e=.returned (.tuple #[.int .i64 (t.length:Int),.nilIface])/\Bld B b (s++t) w'/\Below B w w'/\Lib.OthersKept 5 (some b) w w':=by
 refine (Any.Builder_WriteString_k la166 xB B b (Lib.byteCells s) ⟨t.toArray⟩ w h (by rw[Lib.byteCells_length];simpa [ByteArray.size] using hl) hB).mono ?_
 rintro e w' ⟨rfl,h1,h2,h3⟩
 refine⟨by simp [ByteArray.size],.inr ?_,h2,h3⟩;rw[Lib.strCells_eq,<- Lib.byteCells_append] at h1;exact h1
theorem Bld.writeB {B b:Nat} {s:List UInt8} {w:World} (h:Bld B b s w) (x:ByteArray) (hl:s.length+x.data.toList.length<=140737488355328) (hB:B<=w.heap.size) :
  Calls Tryz.prog 33 #[.pointer (some ⟨b,0,none⟩),.string x] w fun e w'=>(∃ n:Int,e=.returned (.tuple #[.int .i64 n,.nilIface]))/\Bld B b (s++x.data.toList) w'/\Below B w w'/\Lib.OthersKept 5 (some b) w w':=by
 refine (Bld.write (t:=x.data.toList) h hl hB).mono ?_
 rintro e w' ⟨rfl,h1,h2,h3⟩
 exact⟨⟨_,rfl⟩,h1,h2,h3⟩
theorem Bld.len {B b:Nat} {s:List UInt8} {w:World} (h:Bld B b s w) :
  Calls Tryz.prog 36 #[.pointer (some ⟨b,0,none⟩)] w fun e w'=>e=.returned (.int .i64 (s.length:Int))/\w=w':=by
 refine (Any.Builder_Len_f la170 B b (Lib.byteCells s) w h).mono ?_
 rintro e w' ⟨rfl,rfl⟩
 rw[Lib.byteCells_length];exact⟨rfl,rfl⟩
theorem Bld.str {B b:Nat} {s:List UInt8} {w:World} (h:Bld B b s w) (hB:B<=w.heap.size) :
  Calls Tryz.prog 37 #[.pointer (some ⟨b,0,none⟩)] w fun e w'=>e=.returned (.string ⟨s.toArray⟩)/\Below B w w':=by
 refine (Any.Builder_String_any_f la169 xB B b s w h hB).mono ?_
 rintro e w' ⟨rfl,_,h2⟩
 exact⟨rfl,h2⟩
theorem Bld.fresh {w:World}:Bld w.heap.size w.heap.size [] (w.alloc (.cells #[.pointer none,.slice none 0 0] 73)):=by
 refine .inl ⟨Nat.le_refl _,.slice none 0 0,heap_alloc_new w _,⟨rfl,.inl ⟨rfl,rfl⟩⟩,?_⟩
 simp [Value.ownBlock]
theorem pure_call {f:FuncId} {args:List AV} {r:AV} (h:G0 f args []=some (r,[])) (hf:∀ vs w,(callFunc f vs).run Tryz.prog w=.ok (.enter f vs) w) {S0:Nat->Nat->Prop} {w:World} {vs:Array Value} (hS:∀ b o,S0 b o->b < w.heap.size) (hg:GlobOK S0 w)
  (ha:RepL (RepT (cx0 (fun _=>0) (fun _=>0) S0 w 0) noOwn) args vs.toList) :
  Calls Tryz.prog f vs w fun e w'=>∃ v β bs S,e=.returned v/\RepT (cx0 β bs S w' 0) noOwn r v/\Below w.heap.size w w':=by
 have hent:EntOK [] (fun _=>.stab) (fun _=>0) (fun _=>0) S0 (fun _=>none) w:=⟨⟨fun i c hi=>(by simp at hi),fun i hi=>(by simp at hi)⟩,fun b o hs=>⟨hS b o hs,fun i hi=>(by simp at hi),fun k hk=>(by cases hk)⟩,fun b k hk=>(by cases hk),fun b t k hk=>(by cases hk),hg⟩
 rcases G0_good _ _ _ _ _ h with ⟨_,hs⟩ | hx
 ·refine (hs _ _ _ _ _ _ _ hent ha).mono ?_
  rintro e w' ⟨v,kd',β',bs',rfl,A⟩
  exact⟨v,β',bs',_,rfl,A.rep,⟨A.os,A.tape,A.output,A.size,fun k hk=>A.frame k hk (fun i hi=>by simp at hi) rfl⟩⟩
 ·obtain⟨v,w',_,_,_,h1,_⟩:=hx _ _ _ _ _ _ _ hent ha
  rw[hf] at h1;cases h1
end Go.Av
namespace Go.Av
open Go.Proofs Go.Shelf Go.RowKit Go.Nt
set_option maxHeartbeats 4000000
theorem bcell {W w1:World} (hb:Below W.heap.size W w1):(∀ b o,b < W.heap.size->w1.cell? ⟨b,o,none⟩=W.cell? ⟨b,o,none⟩)/\(∀ b o,b < W.heap.size->w1.frozen? ⟨b,o,none⟩=W.frozen? ⟨b,o,none⟩):=
 ⟨fun b o h=>hb.cell (p:=⟨b,o,none⟩) h,fun b o h=>hb.frozen (p:=⟨b,o,none⟩) h⟩
theorem at8 {W:World} {k T:Nat} {c0 c1 c2 c3 c4 c5 c6 c7:Value} (h:W.heap[k]?=some (.cells #[c0,c1,c2,c3,c4,c5,c6,c7] T (0,0))) :
  W.cell? ⟨k,0,none⟩=some c0/\W.cell? ⟨k,1,none⟩=some c1/\W.cell? ⟨k,2,none⟩=some c2/\W.cell? ⟨k,3,none⟩=some c3/\W.cell? ⟨k,4,none⟩=some c4/\W.cell? ⟨k,5,none⟩=some c5/\W.cell? ⟨k,6,none⟩=some c6/\W.cell? ⟨k,7,none⟩=some c7:=by
 refine⟨?_,?_,?_,?_,?_,?_,?_,?_⟩<;>rw[Lib.cell_of_heap h]<;>rfl
theorem run_ix {t e n:Nat} {cs:Array Value} {i:Int} {v:Value} {W:World} (hu:Tryz.prog.underlying t=some (.array n e)) (ha:∀ W,(isAgg e).run Tryz.prog W=.ok false W) (hz:∀ W,(Go.sizeOf e).run Tryz.prog W=.ok 1 W) (h0:0<=i) (hn:i < n) (hv:cs[i.toNat]?=some v) :
  (Instr.index t (.agg cs) (.int .i64 i)).run Tryz.prog W=.ok v W:=by
 simp [Instr.index,asIntOf,run_underlying hu,asAgg,h0,hn,part,ha,hz,hv]
theorem drewH (w:World):w.drew.heap=w.heap:=rfl
theorem keep5 {W X:World} {k T:Nat} {c0 c1 c2 c3 c4 c5 c6 c7:Value} (hx:X.heap[k]?=some (.cells #[c0,c1,c2,c3,c4,c5,c6,c7] T (0,0))) (hW:W.heap[k]?=X.heap[k]?) :
  W.cell? ⟨k,2,none⟩=some c2/\W.cell? ⟨k,3,none⟩=some c3/\W.cell? ⟨k,4,none⟩=some c4/\W.cell? ⟨k,5,none⟩=some c5/\W.cell? ⟨k,7,none⟩=some c7:=by
 obtain⟨_,_,h2,h3,h4,h5,_,h7⟩:=at8 (hW.trans hx);exact⟨h2,h3,h4,h5,h7⟩
theorem orig_x (w:World):Calls Tryz.prog 67 #[] w fun e w'=>e=.returned (.agg #[.string ⟨#[104,117,109,97,110]⟩,.string ⟨#[97,108,105,103,110,101,100]⟩,.string ⟨#[109,97,99,104,105,110,101]⟩])/\Below w.heap.size w w':=by
 go_enter Tryz.func67,Tryz.ntmps67
 go_wp2
 exact bodyPost_ret (v:=.agg #[.string ⟨#[104,117,109,97,110]⟩,.string ⟨#[97,108,105,103,110,101,100]⟩,.string ⟨#[109,97,99,104,105,110,101]⟩]) (by simp [results,Tryz.results67,go_sem]) rfl ⟨rfl,((Below.refl _ _).alloc (Nat.le_refl _) _)⟩
def vsF (t0 t1 p n a j t6 q:List UInt8):Nat->List UInt8
 | 0=>t0 | 1=>t1 | 2=>p | 3=>n | 4=>a | 5=>j | 6=>t6 | _=>q
def linV (f:Nat->List UInt8):Nat->List Bs
 | 0=>[]
 | k+1=>linV f k++lnE k (f k)
theorem flds_x (w:World):Calls Tryz.prog 68 #[] w fun e w'=>e=.returned (.agg #[.string ⟨#[115,111,117,114,99,101]⟩,.string ⟨#[116,97,114,103,101,116]⟩,.string ⟨#[112,114,101,118,105,111,117,115]⟩,.string ⟨#[110,101,120,116]⟩,.string ⟨#[97,117,116,104,111,114]⟩,.string ⟨#[112,114,111,106,101,99,116]⟩,.string ⟨#[99,114,101,97,116,101,100]⟩,.string ⟨#[111,114,105,103,105,110]⟩])/\Below w.heap.size w w':=by
 go_enter Tryz.func68,Tryz.ntmps68
 go_wp2
 exact bodyPost_ret (v:=.agg #[.string ⟨#[115,111,117,114,99,101]⟩,.string ⟨#[116,97,114,103,101,116]⟩,.string ⟨#[112,114,101,118,105,111,117,115]⟩,.string ⟨#[110,101,120,116]⟩,.string ⟨#[97,117,116,104,111,114]⟩,.string ⟨#[112,114,111,106,101,99,116]⟩,.string ⟨#[99,114,101,97,116,101,100]⟩,.string ⟨#[111,114,105,103,105,110]⟩]) (by simp [results,Tryz.results68,go_sem]) rfl ⟨rfl,((Below.refl _ _).alloc (Nat.le_refl _) _)⟩
def vls (t0 t1 p n a j t6 q:List UInt8):Obj:=.cells #[.string ⟨t0.toArray⟩,.string ⟨t1.toArray⟩,.string ⟨p.toArray⟩,.string ⟨n.toArray⟩,.string ⟨a.toArray⟩,.string ⟨j.toArray⟩,.string ⟨t6.toArray⟩,.string ⟨q.toArray⟩] 108 (0,0)
theorem text_x (B b:Nat) (s:List UInt8) (w:World) (h:Bld B b s w) (hB:B<=w.heap.size) (v0 v1:Value) (e:En) (t0 t1 t6 q:List UInt8) (hq:orn.getD (e.o - 1).toNat []=q)
  (h0:∀ W:World,Below B w W->Calls Tryz.prog 66 #[v0] W fun e w'=>e=.returned (.tuple #[.string ⟨t0.toArray⟩,.int .i64 0])/\Below W.heap.size W w')
  (h1:∀ W:World,Below B w W->Calls Tryz.prog 66 #[v1] W fun e w'=>e=.returned (.tuple #[.string ⟨t1.toArray⟩,.int .i64 0])/\Below W.heap.size W w')
  (h6:e.c≠0->∀ W:World,Below B w W->Calls Tryz.prog 34 #[.int .i64 e.c] W fun e w'=>e=.returned (.string ⟨t6.toArray⟩)/\Below W.heap.size W w') (h6z:e.c=0->t6=[]) (o1:1<=e.o) (o3:e.o<=3) (hs1:s.length<=100000000) (hszv:∀ i,(vsF t0 t1 e.p e.n e.a e.j t6 q i).length<=1000000) (hszl:∀ i,i<=8->(jn (linV (vsF t0 t1 e.p e.n e.a e.j t6 q) i)).length<=100000000) :
  Calls Tryz.prog 35 #[.pointer (some ⟨b,0,none⟩),.agg #[v0,v1,.string ⟨e.p.toArray⟩,.string ⟨e.n.toArray⟩,.string ⟨e.a.toArray⟩,.string ⟨e.j.toArray⟩,.int .i64 e.c,.int .i64 e.o]] w fun r w'=>r=.returned (.tuple #[])/\Bld B b (s++jn (linV (vsF t0 t1 e.p e.n e.a e.j t6 q) 8)) w'/\Below B w w':=by
 obtain⟨S,p,n,a,j,c,o,hS⟩:∃ S p n a j c o,e=⟨S.1,S.2,p,n,a,j,c,o⟩:=⟨(e.S,e.T),e.p,e.n,e.a,e.j,e.c,e.o,rfl⟩
 subst hS;simp only[] at h6 h6z o1 o3 hq hszv hszl;have HQ:=Lib.hid hq
 clear hq
 go_enter Tryz.func35,Tryz.ntmps35
 go_upto_if 26 with (first | (go_at_call 66;(with_reducible refine (h0 _ ((Below.refl _ _).alloc hB _)).mono ?_);rintro e w1 ⟨rfl,hb1⟩;have hx1:=(hb1.block w.heap.size (by simp)).trans (heap_alloc_new w _);obtain⟨x10,x11,x12,x13,x14,x15,x16,x17⟩:=at8 hx1;have hz1:w.heap.size+1<=w1.heap.size:=by (have:=hb1.size;simp at this;omega)) | (go_at_call 66;(with_reducible refine (h1 _ (((Below.refl _ _).alloc hB _).trans (hb1.mono (by simp;omega)))).mono ?_);rintro e w2 ⟨rfl,hb2⟩;have hx2:=(hb2.block w.heap.size (by omega)).trans hx1;obtain⟨x20,x21,x22,x23,x24,x25,x26,x27⟩:=at8 hx2;have hz2:=hb2.size))
 go_cut [8] (fun s8 wx=>s8=.string ⟨t6.toArray⟩/\wx.heap[w.heap.size]?=some (.cells #[v0,v1,.string ⟨p.toArray⟩,.string ⟨n.toArray⟩,.string ⟨a.toArray⟩,.string ⟨j.toArray⟩,.int .i64 c,.int .i64 o] 25 (0,0))/\Below w.heap.size w wx/\w.heap.size+1<=wx.heap.size)
 case first =>
  by_cases hc:c=0
  ·have h6:=h6z hc
   subst h6;subst hc
   go_wp2
   go_meet
   exact⟨rfl,hx2,⟨hb2.os.trans hb1.os,hb2.tape.trans hb1.tape,hb2.output.trans hb1.output,by omega,fun k hk=>(hb2.block k (by omega)).trans ((hb1.block k (by simp;omega)).trans (Below.heap_alloc w _ k hk))⟩,by omega⟩
  ·have h6:=h6 hc
   go_wp2_with (go_at_call 34;(with_reducible refine (h6 _ ((((Below.refl _ _).alloc hB _).trans (hb1.mono (by simp;omega))).trans (hb2.mono (by omega)))).mono ?_);rintro e w3 ⟨rfl,hb3⟩;have hx3:=(hb3.block w.heap.size (by omega)).trans hx2;have hz3:=hb3.size)
   go_meet
   exact⟨rfl,hx3,⟨hb3.os.trans (hb2.os.trans hb1.os),hb3.tape.trans (hb2.tape.trans hb1.tape),hb3.output.trans (hb2.output.trans hb1.output),by omega,fun k hk=>(hb3.block k (by omega)).trans ((hb2.block k (by omega)).trans ((hb1.block k (by simp;omega)).trans (Below.heap_alloc w _ k hk)))⟩,by omega⟩
 case rest =>
  obtain⟨rfl,hx,hb,hz⟩:=hcut
  go_upto_region 6 with fail
  go_cut [9] (fun s9 wy=>∃ k:Nat,s9=.pointer (some ⟨k,0,none⟩)/\w.heap.size<=k/\wy.heap[k]?=some (vls t0 t1 p n a j t6 q)/\Below w.heap.size w wy)
  case first =>
   obtain⟨y0,y1,y2,y3,y4,y5,y6,y7⟩:=at8 hx;have hix:∀ W,(Instr.index 106 (.agg #[.string ⟨#[104,117,109,97,110]⟩,.string ⟨#[97,108,105,103,110,101,100]⟩,.string ⟨#[109,97,99,104,105,110,101]⟩]) (.int .i64 (o - 1))).run Tryz.prog W=.ok (.string ⟨q.toArray⟩) W:=fun W=>by
    rw[<- HQ.out];have ho:o=1\/o=2\/o=3:=by omega
    rcases ho with rfl | rfl | rfl<;>exact run_ix (n:=3) (e:=9) (by kernel_rfl) (fun W=>by kernel_rfl) (fun W=>by kernel_rfl) (by decide) (by decide) rfl
   have hw1:IntKind.i64.wrap (o - 1)=o - 1:=IntWalk.i64_in _ (by omega)
   go_region_held3 (fun w'=>w'.cell? ⟨w.heap.size,2,none⟩=some (.string ⟨p.toArray⟩)/\w'.cell? ⟨w.heap.size,3,none⟩=some (.string ⟨n.toArray⟩)/\w'.cell? ⟨w.heap.size,4,none⟩=some (.string ⟨a.toArray⟩)/\w'.cell? ⟨w.heap.size,5,none⟩=some (.string ⟨j.toArray⟩)/\w'.cell? ⟨w.heap.size,7,none⟩=some (.int .i64 o))
    ((refine keep5 hx ?_;first | (simp (disch:=(first | omega | (simp;omega) | (have:=hb4.size;simp at this ⊢;omega))) only [drewH,Below.heap_setCell,Below.heap_alloc];done) | (simp (disch:=(first | omega | (simp;omega) | (have:=hb4.size;simp at this ⊢;omega))) only [drewH,Below.heap_setCell,Below.heap_alloc,hb4.block];done)))
    (first | (go_at_call 67;refine (orig_x _).mono ?_;rintro e w4 ⟨rfl,hb4⟩;obtain⟨hc4,hf4⟩:=bcell hb4) | simp only[hix])
   all_goals go_wp2_with fail
   all_goals go_meet
   ·exact⟨_,rfl,by have:=hb4.size;simp at this;omega,heap_alloc_new _ _,((hb.drew).trans (hb4.mono (by simp;omega))).alloc (by have:=hb4.size;simp at this;omega) _⟩
   ·exact⟨_,rfl,by have:=hb4.size;simp at this;omega,heap_alloc_new _ _,((hb.drew).trans (hb4.mono (by simp;omega))).alloc (by have:=hb4.size;simp at this;omega) _⟩
   ·have hx4:=(hb4.block wc.heap.size (by simp)).trans (heap_alloc_new wc _)
    exact⟨_,rfl,by omega,by simp [World.setCell,Array.getElem?_modify,hx4,vls],((((((((((hb.alloc (by omega) _).drew.trans (hb4.mono (by simp;omega))).setCell (by simp;omega) _).setCell (by simp;omega) _).setCell (by simp;omega) _).setCell (by simp;omega) _).setCell (by simp;omega) _).setCell (by simp;omega) _).setCell (by simp;omega) _).setCell (by simp;omega) _)⟩
  case rest =>
   obtain⟨k,rfl,hk,hv,hbw⟩:=hcut;have hks:=(Array.getElem?_eq_some_iff.1 hv).1;have HKB:=Lib.hid (show ¬ k=b from fun e=>by have:=h.lt;omega)
   go_wp2_with (go_at_call 68;refine (flds_x _).mono ?_;rintro e w5 ⟨rfl,hb5⟩)
   have hv5:=(hb5.block k hks).trans hv;have h5:Bld B b s w5:=h.keep (fun k hk=>(hb5.block k (by have:=hbw.size;omega)).trans (hbw.block k hk));have hbw5:Below B w w5:=(hbw.mono hB).trans (hb5.mono (by have:=hbw.size;omega));have hks5:k < w5.heap.size:=by have:=hb5.size;omega
   clear h0 h1 h6 h6z hx hb hz hbw hb5 hv hks h
   go_loopg [48] 8 (fun g s48 wx=>∃ i:Nat,i+g=8/\s48=.int .i64 (i:Int)/\wx.heap[k]?=some (vls t0 t1 p n a j t6 q)/\Bld B b (s++jn (linV (vsF t0 t1 p n a j t6 q) i)) wx/\Below B w wx/\k < wx.heap.size)
   case atStart=>exact⟨0,rfl,rfl,hv5,by simpa [linV,jn] using h5,hbw5,hks5⟩
   case round =>
    obtain⟨i,hi,rfl,hv,hB',hbw',hks⟩:=hrel
    cases gk with
    | zero =>
     obtain rfl:i=8:=by omega
     go_wp2
     go_end0
     exact⟨rfl,hB',hbw'⟩
    | succ g =>
     have hi8:i < 8:=by omega
     have hi0:(0:Int)<=(i:Int):=by omega
     have hi1:(i:Int) < 8:=by omega
     obtain⟨nm,hnm⟩:∃ nm,fnm.getD i []=nm:=⟨_,rfl⟩
     have hix:∀ W,(Instr.index 108 (.agg #[.string ⟨#[115,111,117,114,99,101]⟩,.string ⟨#[116,97,114,103,101,116]⟩,.string ⟨#[112,114,101,118,105,111,117,115]⟩,.string ⟨#[110,101,120,116]⟩,.string ⟨#[97,117,116,104,111,114]⟩,.string ⟨#[112,114,111,106,101,99,116]⟩,.string ⟨#[99,114,101,97,116,101,100]⟩,.string ⟨#[111,114,105,103,105,110]⟩]) (.int .i64 (i:Int))).run Tryz.prog W=.ok (.string ⟨nm.toArray⟩) W:=fun W=>by
      refine run_ix (n:=8) (e:=9) (by kernel_rfl) (fun W=>by kernel_rfl) (fun W=>by kernel_rfl) hi0 hi1 ?_;rw[<- hnm,Int.toNat_natCast]
      match i,hi8 with
      | 0,_ | 1,_ | 2,_ | 3,_ | 4,_ | 5,_ | 6,_ | 7,_=>rfl
     have hc:wr.cell? ⟨k,i,none⟩=some (.string ⟨(vsF t0 t1 p n a j t6 q i).toArray⟩):=by
      rw[Lib.cell_of_heap hv]
      match i,hi8 with
      | 0,_ | 1,_ | 2,_ | 3,_ | 4,_ | 5,_ | 6,_ | 7,_=>rfl
     have hszl':=hszl i (by omega);have hnl:nm.length<=8:=by
      rw[<- hnm]
      match i,hi8 with
      | 0,_ | 1,_ | 2,_ | 3,_ | 4,_ | 5,_ | 6,_ | 7,_=>decide
     have HL:=Lib.hid (show linV (vsF t0 t1 p n a j t6 q) (i+1)=linV (vsF t0 t1 p n a j t6 q) i++lnE i (vsF t0 t1 p n a j t6 q i) from rfl);have HN:=Lib.hid hnm
     clear hnm
     have hsz:=hszv i;generalize vsF t0 t1 p n a j t6 q i=v at hc HL hsz;by_cases hv0:v=[]
     ·subst hv0
      by_cases hi2:2<=i
      ·have hi2':(2:Int)<=(i:Int):=by omega
       go_wp2_with fail
       go_roundg g
       case measure=>omega
       case rel =>
        refine⟨i+1,by omega,by go_num,hv,?_,hbw',hks⟩;rw[HL.out,lnE,if_pos ⟨hi2,rfl⟩,append_nil];exact hB'
      ·have hi2':(i:Int) < 2:=by omega
       go_wp2_with (go_at_call 33;refine (hB'.writeB _ (by simp;omega) (by omega)).mono ?_;rintro e w6 ⟨⟨m,rfl⟩,h6,hb6,ho6⟩)
       go_roundg g
       case measure=>omega
       case rel =>
        have hv6:w6.heap[k]?=some (vls t0 t1 p n a j t6 q):=ho6 k _ hv (by simp;exact HKB.out) (by intro c fz hh;cases hh);refine⟨i+1,by omega,by go_num,hv6,?_,hbw'.trans hb6,by have:=hb6.size;omega⟩;rw[HL.out,lnE,if_neg (by simp_all)];rw[show s++jn (linV (vsF t0 t1 p n a j t6 q) i++[lnK i []])=(s++jn (linV (vsF t0 t1 p n a j t6 q) i))++(nm++32 :: ([]++[10])) by simp [jn,lnK,<- HN.out]];simpa using h6
     ·go_wp2_with (go_at_call 33;refine (hB'.writeB _ (by simp;omega) (by omega)).mono ?_;rintro e w6 ⟨⟨m,rfl⟩,h6,hb6,ho6⟩)
      go_roundg g
      case measure=>omega
      case rel =>
       have hv6:w6.heap[k]?=some (vls t0 t1 p n a j t6 q):=ho6 k _ hv (by simp;exact HKB.out) (by intro c fz hh;cases hh);refine⟨i+1,by omega,by go_num,hv6,?_,hbw'.trans hb6,by have:=hb6.size;omega⟩;rw[HL.out,lnE,if_neg (by simp_all)];rw[show s++jn (linV (vsF t0 t1 p n a j t6 q) i++[lnK i v])=(s++jn (linV (vsF t0 t1 p n a j t6 q) i))++(nm++32 :: (v++[10])) by simp [jn,lnK,<- HN.out]];simpa using h6
end Go.Av
namespace Go.Av
open Go.Proofs Go.Shelf Go.RowKit Go.Nt
set_option maxHeartbeats 4000000
def txK (m:List En) (i:Nat):List UInt8:=hdT m.length++10 :: (m.take i).flatMap fun e=>jn (linE e)
structure RowX (w:World) (bb off:Nat) (e:En) (v0 v1:Value) (t6:List UInt8):Prop where
 c0:∀ W:World,Below w.heap.size w W->W.cell? ⟨bb,off,none⟩=some v0
 c1:∀ W:World,Below w.heap.size w W->W.cell? ⟨bb,off+1,none⟩=some v1
 c2:∀ W:World,Below w.heap.size w W->W.cell? ⟨bb,off+2,none⟩=some (.string ⟨e.p.toArray⟩)
 c3:∀ W:World,Below w.heap.size w W->W.cell? ⟨bb,off+3,none⟩=some (.string ⟨e.n.toArray⟩)
 c4:∀ W:World,Below w.heap.size w W->W.cell? ⟨bb,off+4,none⟩=some (.string ⟨e.a.toArray⟩)
 c5:∀ W:World,Below w.heap.size w W->W.cell? ⟨bb,off+5,none⟩=some (.string ⟨e.j.toArray⟩)
 c6:∀ W:World,Below w.heap.size w W->W.cell? ⟨bb,off+6,none⟩=some (.int .i64 e.c)
 c7:∀ W:World,Below w.heap.size w W->W.cell? ⟨bb,off+7,none⟩=some (.int .i64 e.o)
 f0:∀ W:World,Below w.heap.size w W->Calls Tryz.prog 66 #[v0] W fun e' w'=>e'=.returned (.tuple #[.string ⟨(fmE e.S).toArray⟩,.int .i64 0])/\Below W.heap.size W w'
 f1:∀ W:World,Below w.heap.size w W->Calls Tryz.prog 66 #[v1] W fun e' w'=>e'=.returned (.tuple #[.string ⟨(fmE e.T).toArray⟩,.int .i64 0])/\Below W.heap.size W w'
 f6:e.c≠0->∀ W:World,Below w.heap.size w W->Calls Tryz.prog 34 #[.int .i64 e.c] W fun e' w'=>e'=.returned (.string ⟨t6.toArray⟩)/\Below W.heap.size W w'
 z6:e.c=0->t6=[]
 e6:t6=vlE e 6
 s0:∃ a l k,v0=.slice a l k
 s1:∃ a l k,v1=.slice a l k
 o1:1<=e.o
 o3:e.o<=3
 sz:∀ i,(vsF (fmE e.S) (fmE e.T) e.p e.n e.a e.j t6 (orn.getD (e.o - 1).toNat []) i).length<=1000000
 sl:∀ i,i<=8->(jn (linV (vsF (fmE e.S) (fmE e.T) e.p e.n e.a e.j t6 (orn.getD (e.o - 1).toNat [])) i)).length<=100000000
theorem txK_s {m:List En} {i:Nat} {e:En} (h:m[i]?=some e):txK m (i+1)=txK m i++jn (linE e):=by
 unfold txK;rw[take_add_one,h,flatMap_append,append_assoc];simp
theorem lin_all {e:En} {t6:List UInt8} (h:t6=vlE e 6):linV (vsF (fmE e.S) (fmE e.T) e.p e.n e.a e.j t6 (orn.getD (e.o - 1).toNat [])) 8=linE e:=by
 subst h;rfl
theorem fmt_x (m:List En) (w:World) (v:Value) (A:Option Addr) (bb oo c:Nat) (hv:v=.slice A m.length c) (hA:m≠[]->A=some ⟨bb,oo,none⟩) (hcap:m.length<=c) (hlen:m.length<=1000) (htl:(txM m).length<=1048576) (htk:∀ i,(txK m i).length<=100000000)
  (h0:∀ W:World,Below w.heap.size w W->Calls Tryz.prog 32 #[v] W fun e w'=>e=.returned (.int .i64 0)/\Below W.heap.size W w')
  (h1:∀ W:World,Below w.heap.size w W->Calls Tryz.prog 34 #[.int .i64 (m.length:Int)] W fun e w'=>e=.returned (.string ⟨(dcN m.length).toArray⟩)/\Below W.heap.size W w')
  (hr:∀ (i:Nat) (e:En),m[i]?=some e->∃ v0 v1 t6,RowX w bb (oo+i*8) e v0 v1 t6) :
  Calls Tryz.prog 17 #[v] w fun r w'=>r=.returned (.tuple #[.string ⟨(txM m).toArray⟩,.int .i64 0])/\Below w.heap.size w w':=by
 subst hv;have HTL:=Lib.hid htl;have HTK:=Lib.hid htk
 clear htl htk
 have hd:(dcN m.length).length<=10:=(dcN_p 9 m.length (by omega)).2.2.2.1
 go_enter Tryz.func17,Tryz.ntmps17
 go_wp2_with (first | (go_at_call 32;(with_reducible refine (h0 _ (Below.refl _ _)).mono ?_);rintro e w1 ⟨rfl,hb1⟩) | (go_at_call 34;(with_reducible refine (h1 _ (hb1.trans ((Below.refl _ _).alloc hb1.size _))).mono ?_);rintro e w2 ⟨rfl,hb2⟩;have hB2:=Bld.keep (Bld.fresh (w:=w1)) hb2.block) | (go_at_call 33;refine (hB2.writeB _ (by simp;omega) (by have:=hb2.size;simp at this;omega)).mono ?_;rintro e w3 ⟨⟨k0,rfl⟩,hB3,hb3,_⟩))
 have hb13:Below w1.heap.size w1 w3:=(((Below.refl _ _).alloc (Nat.le_refl _) _).trans (hb2.mono (by simp))).trans hb3;have hB3':Bld w1.heap.size w1.heap.size (txK m 0) w3:=by simpa [txK,hdT,hdB] using hB3
 clear h0 h1 hB2 hb2 hB3 hb3
 go_loopg [21] m.length (fun g s21 wx=>∃ i:Nat,i+g=m.length/\s21=.int .i64 (i:Int)/\Bld w1.heap.size w1.heap.size (txK m i) wx/\Below w1.heap.size w1 wx)
 case atStart=>exact⟨0,by omega,rfl,hB3',hb13⟩
 case round =>
  obtain⟨i,hi,rfl,hB,hbx⟩:=hrel
  cases gk with
  | zero =>
   obtain rfl:i=m.length:=by omega
   have ht:txK m m.length=txM m:=by rw[txM_eq,txK,take_length]
   rw[ht] at hB;have hlen':=hB.len;obtain⟨L,hL⟩:∃ L,(txM m).length=L:=⟨_,rfl⟩
   rw[hL] at hlen';have hLi:(L:Int)<=1048576:=by have:=HTL.out;omega
   have hst:=hB.str hbx.size;obtain⟨tx,htx⟩:∃ tx,(txM m).toArray=tx:=⟨_,rfl⟩
   rw[htx] at hst;have HTX:=Lib.hid htx
   clear ht hL hi htx
   go_wp2_with (first | (go_at_call 36;refine hlen'.mono ?_;rintro e w' ⟨rfl,rfl⟩) | (go_at_call 37;refine hst.mono ?_;rintro e w4 ⟨rfl,hb4⟩))
   go_ret2
   exact⟨by rw[HTX.out];rfl,hb1.trans ((hbx.mono hb1.size).trans (hb4.mono hb1.size))⟩
  | succ g =>
   have him:i < m.length:=by omega
   have hg:m[i]?=some m[i]:=getElem?_eq_getElem him;obtain⟨v0,v1,t6,hx⟩:=hr i _ hg
   obtain rfl:=hA (by intro q;rw[q] at him;simp at him)
   generalize m[i]=e at hx hg;obtain⟨a0,l0,k0',rfl⟩:=hx.s0;obtain⟨a1,l1,k1',rfl⟩:=hx.s1;have HG:=Lib.hid hg
   clear hg
   have hwr:Below w.heap.size w wr:=hb1.trans (hbx.mono hb1.size);have hi0:(0:Int)<=(i:Int):=by omega
   have hi1:(i:Int) < (m.length:Int):=by omega
   have c0:=hx.c0 wr hwr;have c1:=hx.c1 wr hwr;have c2:=hx.c2 wr hwr;have c3:=hx.c3 wr hwr;have c4:=hx.c4 wr hwr;have c5:=hx.c5 wr hwr;have c6:=hx.c6 wr hwr;have c7:=hx.c7 wr hwr;have hsl:(txK m i).length<=100000000:=HTK.out i;have HX:=Lib.hid hx
   go_wp2_with ((go_at_call 35;refine (text_x w1.heap.size w1.heap.size (txK m i) _ (hB.keep fun k hk=>Below.heap_alloc _ _ k hk) (by have:=hbx.size;simp;omega) _ _ e _ _ t6 _ rfl (fun W hW=>HX.out.f0 W (hwr.trans (((Below.refl _ _).alloc hwr.size _).trans (hW.mono hb1.size)))) (fun W hW=>HX.out.f1 W (hwr.trans (((Below.refl _ _).alloc hwr.size _).trans (hW.mono hb1.size)))) (fun hz W hW=>HX.out.f6 hz W (hwr.trans (((Below.refl _ _).alloc hwr.size _).trans (hW.mono hb1.size)))) HX.out.z6 HX.out.o1 HX.out.o3 hsl HX.out.sz HX.out.sl).mono ?_;rintro r w5 ⟨rfl,hB5,hb5⟩))
   go_roundg g
   case measure=>omega
   case rel =>
    refine⟨i+1,by omega,by go_num,?_,hbx.trans (((Below.refl _ _).alloc hbx.size _).trans hb5)⟩;rw[txK_s HG.out,<- lin_all HX.out.e6];exact hB5
theorem fmt_e (v:Value) (w:World) (k:Int) (hk:k≠0) (h0:Calls Tryz.prog 32 #[v] w fun e w'=>e=.returned (.int .i64 k)/\Below w.heap.size w w') :
  Calls Tryz.prog 17 #[v] w fun r w'=>r=.returned (.tuple #[.string ⟨#[]⟩,.int .i64 k])/\Below w.heap.size w w':=by
 go_enter Tryz.func17,Tryz.ntmps17
 go_wp2_with ((go_at_call 32;(with_reducible refine h0.mono ?_);rintro e w1 ⟨rfl,hb1⟩))
 go_ret2
 exact⟨rfl,hb1⟩
end Go.Av
namespace Go.Av
open Go.Nt
theorem kOrd (a b:Bs):G0 63 [.str a,.str b] []=some (.int .i64 (if a=b then 5 else if ltB b a=true then 11 else 0),[]):=by
 refine contract F63 rfl rfl rfl ?_;by_cases q:a=b
 ·subst q
  simp only[F63,go_sem,beq_self_eq_true]
 ·have q':(b == a)=false:=by simpa using fun h:b=a=>q h.symm
  rw[if_neg q]
  cases r:ltB b a<;>simp only[F63,go_sem,q',ltB_def,r]
theorem beh_v {p:List En} {e:En} (h:vE e≠0):behE p e=vE e:=by unfold behE;rw[if_pos h]
theorem beh_0 {e:En} (h:vE e=0):behE [] e=0:=by unfold behE;rw[if_neg (by simp [h])];rfl
theorem beh_s {p:List En} {e f:En} (h:vE e=0) (hp:p.getLast?=some f):behE p e=if keyE f=keyE e then 5 else if ltB (keyE e) (keyE f)=true then 11 else 0:=by
 unfold behE;rw[if_neg (by simp [h]),hp]
theorem last_take {m:List En} {j:Nat} {f:En} (h:m[j]?=some f):(m.take (j+1)).getLast?=some f:=by
 rw[take_add_one,h];simp
theorem take_s {m:List En} {j:Nat} {f:En} (h:m[j]?=some f):m.take j++[f]=m.take (j+1):=by
 rw[take_add_one,h];rfl
theorem chkG_c (p:List En) (e:En) (r:List En):chkG p (e :: r)=if behE p e≠0 then behE p e else chkG (p++[e]) r:=rfl
theorem l32c (m:List En) (hl:m.length<=2000) (hB:∀ e∈m,BE e):∀ (k i:Nat),i+k=m.length ->
  (chkG (m.take i) (m.drop i)=0->execX G0 L32_0 (ST [(3,.str (lst m i)),(11,.bool false),(12,.sl .no 8 (ens m)),(13,.int .i64 m.length),(14,.int .i64 i)] [] [])=some (.ex 0,ST [(3,.str (lst m m.length)),(11,.bool false),(12,.sl .no 8 (ens m)),(13,.int .i64 m.length),(14,.int .i64 m.length),(15,.bool false)] [] [])) /\
  (chkG (m.take i) (m.drop i)≠0->∃ l' M,execX G0 L32_0 (ST [(3,.str (lst m i)),(11,.bool false),(12,.sl .no 8 (ens m)),(13,.int .i64 m.length),(14,.int .i64 i)] [] [])=some (.ret,ST l' M [])/\look .any l' 2=.int .i64 (chkG (m.take i) (m.drop i)))
 | 0,i,h=>by
  have:i=m.length:=by omega
  subst this;rw[drop_length];refine⟨fun _=>?_,fun q=>absurd rfl q⟩;rw[Y_loop (L:=L32_0) rfl];simp only[go_sem,Int.lt_irrefl]
 | k+1,i,h=>by
  have hi:i < m.length:=by omega
  have h4:(i:Int) < (m.length:Int):=by omega
  have h0:(0:Int)<=(i:Int):=by omega
  have hw:IntKind.i64.wrap ((i:Int)+1)=((i+1:Nat):Int):=by rw[w64 (by omega) (by omega)];rfl
  have hg:m[i]?=some m[i]:=getElem?_eq_getElem hi;have hd:m.drop i=m[i] :: m.drop (i+1):=drop_eq_getElem_cons hi;have hBe:=hB _ (getElem_mem hi);generalize m[i]=e at hg hd hBe;have hr:=ens_at hg;have a1:=k23 e hBe;have a2:=k24 e hBe;simp only[rowE] at a1 a2;have ih:=l32c m hl hB k (i+1) (by omega);rw[lst_s hg] at ih;rw[hd,chkG_c,take_s hg];by_cases q:vE e=0
  case neg =>
   rw[beh_v q,if_pos q];refine⟨fun z=>absurd z q,fun _=>?_⟩;refine Exists.intro ?_ (Exists.intro ?_ (And.intro ?_ ?_))
   rotate_left 2
   ·rw[Y_loop (L:=L32_0) rfl]
    simp only[go_sem,h4,h0,hr,hw,a1,q,decide_false,not_false_eq_true,decide_true];rfl
   ·rfl
  rw[q] at a1;by_cases hz0:i=0
  ·have hz:¬ (0:Int) < (i:Int):=by omega
   have hb:behE (m.take i) e=0:=by rw[hz0];exact beh_0 q
   rw[hb,if_neg (by simp)];have step:execX G0 L32_0 (ST [(3,.str (lst m i)),(11,.bool false),(12,.sl .no 8 (ens m)),(13,.int .i64 m.length),(14,.int .i64 i)] [] [])=execX G0 L32_0 (ST [(3,.str (keyE e)),(11,.bool false),(12,.sl .no 8 (ens m)),(13,.int .i64 m.length),(14,.int .i64 ((i+1:Nat):Int))] [] []):=by
    conv=>lhs;rw[Y_loop (L:=L32_0) rfl]
    simp only[go_sem,h4,h0,hr,hw,a1,a2,hz,decide_false,not_true_eq_false]
   rw[step];exact ih
  obtain⟨j,rfl⟩:∃ j,i=j+1:=⟨i - 1,by omega⟩
  have hgj:m[j]?=some m[j]:=getElem?_eq_getElem (by omega);generalize m[j]=f at hgj;have el:lst m (j+1)=keyE f:=lst_s hgj;have hj0:(0:Int) < ((j+1:Nat):Int):=by omega
  have ho:=kOrd (keyE f) (keyE e);rw[<- beh_s q (last_take hgj)] at ho;rw[el];by_cases hb:behE (m.take (j+1)) e=0
  ·rw[hb] at ho ⊢
   rw[if_neg (by simp)];have step:execX G0 L32_0 (ST [(3,.str (keyE f)),(11,.bool false),(12,.sl .no 8 (ens m)),(13,.int .i64 m.length),(14,.int .i64 ((j+1:Nat):Int))] [] [])=execX G0 L32_0 (ST [(3,.str (keyE e)),(11,.bool false),(12,.sl .no 8 (ens m)),(13,.int .i64 m.length),(14,.int .i64 ((j+1+1:Nat):Int))] [] []):=by
    conv=>lhs;rw[Y_loop (L:=L32_0) rfl]
    simp only[go_sem,h4,h0,hr,hw,a1,a2,hj0,ho,decide_true,not_true_eq_false]
   rw[step];exact ih
  ·rw[if_pos hb]
   refine⟨fun z=>absurd z hb,fun _=>?_⟩;refine Exists.intro ?_ (Exists.intro ?_ (And.intro ?_ ?_))
   rotate_left 2
   ·rw[Y_loop (L:=L32_0) rfl]
    simp only[go_sem,h4,h0,hr,hw,a1,a2,hj0,ho,hb,decide_true,decide_false,not_true_eq_false,not_false_eq_true];rfl
   ·rfl
theorem kChk (m:List En) (hl:m.length<=2000) (hB:∀ e∈m,BE e):G0 32 [.sl .no 8 (ens m)] []=some (.int .i64 (chkM m),[]):=by
 refine contract F32 rfl rfl rfl ?_;unfold chkM;by_cases hc:1024 < m.length
 ·have hc':(1024:Int) < (m.length:Int):=by omega
  rw[if_pos hc];simp only[F32,go_sem,ens_len,hc']
 have hc':¬ (1024:Int) < (m.length:Int):=by omega
 rw[if_neg hc];obtain⟨x1,x2⟩:=l32c m hl hB m.length 0 (by omega);have ec:((0:Nat):Int)=0:=rfl;have e3:lst m 0=[]:=rfl;rw[drop_zero,take_zero,ec,e3] at x1 x2;by_cases hq:chkG [] m=0
 ·have y:=x1 hq
  rw[hq];simp only[F32,go_sem,ens_len,hc',y]
 ·obtain⟨l',M,y1,y2⟩:=x2 hq
  simp only[F32,go_sem,ens_len,hc',y1,y2]
theorem kBeh (p:List En) (hl:p.length<=1000000) (hB:∀ e∈p,BE e) (e:En) (he:BE e):G0 69 [.sl .no 8 (ens p),.agg (rowE e)] []=some (.int .i64 (behE p e),[]):=by
 have a1:=k38 e he;have a2:=k26 e he;simp only[rowE] at a1 a2;refine contract F69 rfl rfl rfl ?_;by_cases q:vE e=0
 case neg =>
  rw[beh_v q];simp only[F69,rowE,go_sem,a1,q,decide_false,not_false_eq_true,decide_true]
 rw[q] at a1;rcases eq_nil_or_concat p with rfl | ⟨g,f,hp⟩
 ·rw[beh_0 q]
  simp only[F69,rowE,go_sem,a1,ens,not_true_eq_false,decide_false]
 ·have hp:p=g++[f]:=by rw[hp,concat_eq_append]
  subst hp;rw[beh_s q (f:=f) (by simp)];have hn:(g++[f]).length=g.length+1:=by simp
  have hz:¬ ((g.length+1:Nat):Int)=0:=by omega
  have hw:IntKind.i64.wrap (((g.length+1:Nat):Int) - 1)=(g.length:Int):=by rw[w64 (by omega) (by omega)];omega
  have h0:(0:Int)<=(g.length:Int):=by omega
  have hg:(g++[f])[g.length]?=some f:=by simp
  have hr:=ens_at hg;have hBf:=hB f (by simp);have a3:=k26 f hBf;simp only[rowE] at a3;by_cases r:keyE f=keyE e
  ·have r':(keyE f == keyE e)=true:=by simpa using r
   rw[if_pos r];simp only[F69,rowE,go_sem,a1,a2,a3,ens_len,hn,hz,hw,h0,hr,r',not_true_eq_false,decide_false]
  ·have r':(keyE f == keyE e)=false:=by simpa using r
   rw[if_neg r];have hgt:=gt_str (keyE f) (keyE e)
   cases t:ltB (keyE e) (keyE f) with
   | true =>
    have t2:ltB (keyE f) (keyE e)=false:=ltB_asym t;simp only[F69,rowE,go_sem,a1,a2,a3,ens_len,hn,hz,hw,h0,hr,r',t2,ltB_def,Bool.or_false,Bool.not_false,Bool.not_true,not_true_eq_false,decide_false]
   | false =>
    have t2:ltB (keyE f) (keyE e)=true:=ltB_tri _ _ t (fun h=>r h.symm);simp only[F69,rowE,go_sem,a1,a2,a3,ens_len,hn,hz,hw,h0,hr,r',t2,ltB_def,Bool.or_false,Bool.not_false,Bool.not_true,not_true_eq_false,decide_false]
end Go.Av
namespace Go.Av
open Go.Proofs Go.RowKit Go.Nt
set_option maxHeartbeats 4000000
theorem str_eq {b:ByteArray} {s:List UInt8} (h:b.data.toList=s):b=⟨s.toArray⟩:=by cases b;subst h;simp
theorem rep_si {c:Cx} {s:List UInt8} {n:Int} {v:Value} (h:RepT c noOwn (.tup [.str s,.int .i64 n]) v):v=.tuple #[.string ⟨s.toArray⟩,.int .i64 n]:=by
 obtain⟨⟨l⟩,rfl,h⟩:=h
 match l,h with
 | [x,y],⟨⟨b,hx,hb⟩,hy,_⟩ =>
  have hy:y=.int .i64 n:=hy;rw[hx,hy,str_eq hb]
theorem glob_mono {S0:Nat->Nat->Prop} {w W:World} (h:GlobOK S0 w) (hc:∀ b o,S0 b o->W.cell? ⟨b,o,none⟩=w.cell? ⟨b,o,none⟩):GlobOK S0 W:=fun i k l hi=>RepC.mono (fun b o hs=>⟨hs,hc b o hs⟩) _ _ _ (h i k l hi)
structure Ent (S0:Nat->Nat->Prop) (w:World):Prop where
 lt:∀ b o,S0 b o->b < w.heap.size
 gl:GlobOK S0 w
theorem Ent.cell {S0:Nat->Nat->Prop} {w W:World} (h:Ent S0 w) (hb:Below w.heap.size w W):∀ b o,S0 b o->W.cell? ⟨b,o,none⟩=w.cell? ⟨b,o,none⟩:=fun b o hs=>hb.cell (p:=⟨b,o,none⟩) (h.lt b o hs)
theorem Ent.next {S0:Nat->Nat->Prop} {w W:World} (h:Ent S0 w) (hb:Below w.heap.size w W):Ent S0 W:=⟨fun b o hs=>Nat.lt_of_lt_of_le (h.lt b o hs) hb.size,glob_mono h.gl (h.cell hb)⟩
theorem ent66:∀ vs w,(callFunc 66 vs).run Tryz.prog w=.ok (.enter 66 vs) w:=enters_of Tryz.func66 (by kernel_rfl) rfl
theorem ent34:∀ vs w,(callFunc 34 vs).run Tryz.prog w=.ok (.enter 34 vs) w:=enters_of Tryz.func34 (by kernel_rfl) rfl
theorem ent32:∀ vs w,(callFunc 32 vs).run Tryz.prog w=.ok (.enter 32 vs) w:=enters_of Tryz.func32 (by kernel_rfl) rfl
theorem fm66 {S0:Nat->Nat->Prop} {w:World} (hE:Ent S0 w) {f:List Tk} (hf:vld f=0) (hl:f.length<=1000000) (hb:∀ t∈f,t.2.1.length<=cap47) {v:Value} (hv:RepF S0 w (.sl .no 3 (tks f)) v) :
  ∀ W:World,Below w.heap.size w W->Calls Tryz.prog 66 #[v] W fun e w'=>e=.returned (.tuple #[.string ⟨(fmE f).toArray⟩,.int .i64 0])/\Below W.heap.size W w':=fun W hW=>by
 have c:=c32 f hl hb;rw[hf,fmE_eq] at c;have hE':=hE.next hW;refine (pure_call c ent66 hE'.lt hE'.gl (vs:=#[v]) ⟨RepF.mono (fun b o hs=>⟨hs,hE.cell hW b o hs⟩) _ _ hv,trivial⟩).mono ?_
 rintro e w' ⟨u,_,_,_,rfl,h1,h2⟩
 exact⟨by rw[rep_si h1],h2⟩
theorem dec_dc {n:Nat} (h:n<=999):Nt.dec n=dcN n:=by
 unfold Nt.dec;split
 ·rename_i q;rw[dcN_lt q]
 ·rename_i q
  rw[dcN_ge q];split
  ·rename_i r;rw[dcN_lt (by omega)];rfl
  ·rename_i r
   rw[dcN_ge (by omega),dcN_lt (by omega),show n / 10 / 10=n / 100 by omega];rfl
theorem it34 (n:Nat) (h:n<=999) {S0:Nat->Nat->Prop} {w:World} (hE:Ent S0 w):∀ W:World,Below w.heap.size w W->Calls Tryz.prog 34 #[.int .i64 (n:Int)] W fun e w'=>e=.returned (.string ⟨(dcN n).toArray⟩)/\Below W.heap.size W w':=fun W hW=>by
 have c:=c50 n h;rw[dec_dc h] at c;have hE':=hE.next hW;refine (pure_call c ent34 hE'.lt hE'.gl (vs:=#[.int .i64 (n:Int)]) ⟨rfl,trivial⟩).mono ?_
 rintro e w' ⟨u,_,_,_,rfl,⟨b,h1,h3⟩,h2⟩
 exact⟨by rw[h1,str_eq h3],h2⟩
theorem ctx_len {s:Bs} (h:perr s=0):s.length<=50000:=by
 obtain⟨c1,c2,_⟩:=parse_canon (s:=s) (g:=(parse s).1) (b:=(parse s).2.1) (by rw[<- h];rfl)
 have:=fmE_len (f:=(parse s).1)
 unfold fmE at this;rw[if_pos c1,c2] at this;exact this
theorem vs_len {e:En} (h:VE e) (i:Nat):(vsF (fmE e.S) (fmE e.T) e.p e.n e.a e.j (vlE e 6) (orn.getD (e.o - 1).toNat []) i).length<=60000:=by
 have h0:=fmE_len (f:=e.S);have h1:=fmE_len (f:=e.T);have h2:=ctx_len h.pp;have h3:=ctx_len h.pn;have h4:=nm_len h.na;have h5:=nm_len h.nj;have h6:=vl6_len h;have h7:=orn_len (e.o - 1).toNat
 match i with
 | 0=>show (fmE e.S).length<=_;omega
 | 1=>show (fmE e.T).length<=_;omega
 | 2=>show e.p.length<=_;omega
 | 3=>show e.n.length<=_;omega
 | 4=>show e.a.length<=_;omega
 | 5=>show e.j.length<=_;omega
 | 6=>show (vlE e 6).length<=_;omega
 | k+7=>show (orn.getD (e.o - 1).toNat []).length<=_;omega
theorem fnm_ln:∀ k,(fnm.getD k []).length<=8
 | 0 | 1 | 2 | 3 | 4 | 5 | 6 | 7=>by decide
 | k+8=>by simp [fnm]
theorem lin_len {f:Nat->List UInt8} (h:∀ i,(f i).length<=60000):∀ i,(jn (linV f i)).length<=i*60010
 | 0=>by simp [linV,jn]
 | i+1=>by
  have h1:=lin_len h i;have h2:=lnE_len i (f i);have h3:=h i;have h4:=fnm_ln i;show (jn (linV f i++lnE i (f i))).length<=_;rw[jn_app,length_append];omega
theorem szE_len {e:En} (h:VE e):szE e<=200048:=by
 have h0:=fmE_len (f:=e.S);have h1:=fmE_len (f:=e.T);have h2:=ctx_len h.pp;have h3:=ctx_len h.pn;have h4:=nm_len h.na;have h5:=nm_len h.nj;unfold szE;omega
theorem txK_len {m:List En} (hl:m.length<=100) (h:∀ e∈m,VE e) (i:Nat):(txK m i).length<=100000000:=by
 have h1:=hdT_len (n:=m.length) (by omega);have h2:=flat_len (B:=200048) (m:=m.take i) (fun e he=>⟨h e (mem_of_mem_take he),szE_len (h e (mem_of_mem_take he))⟩);have h3:(m.take i).length<=100:=by rw[length_take];omega
 have h4:(m.take i).length*(200048+100)<=100*(200048+100):=Nat.mul_le_mul_right _ h3;unfold txK;rw[length_append,length_cons];omega
structure FOK (m:List En):Prop where
 l:m.length<=100
 b:∀ e∈m,BE e
 c:chkM m=0->(∀ e∈m,e.c<=999)/\(txM m).length<=1048576
theorem row_x {S0:Nat->Nat->Prop} {w:World} (hE:Ent S0 w) {e:En} (hV:VE e) (hB:BE e) (hc:e.c<=999) {b o:Nat} (hr:RepC S0 w (rowE e) b o):∃ v0 v1 t6,RowX w b o e v0 v1 t6:=by
 obtain⟨s0,v0,k0,r0⟩:=hr.get (j:=0) (x:=.sl .no 3 (tks e.S)) rfl;obtain⟨s1,v1,k1,r1⟩:=hr.get (j:=1) (x:=.sl .no 3 (tks e.T)) rfl;obtain⟨s2,v2,k2,b2,rfl,r2⟩:=hr.get (j:=2) (x:=.str e.p) rfl;obtain⟨s3,v3,k3,b3,rfl,r3⟩:=hr.get (j:=3) (x:=.str e.n) rfl;obtain⟨s4,v4,k4,b4,rfl,r4⟩:=hr.get (j:=4) (x:=.str e.a) rfl;obtain⟨s5,v5,k5,b5,rfl,r5⟩:=hr.get (j:=5) (x:=.str e.j) rfl;obtain⟨s6,v6,k6,r6⟩:=hr.get (j:=6) (x:=.int .i64 e.c) rfl;obtain⟨s7,v7,k7,r7⟩:=hr.get (j:=7) (x:=.int .i64 e.o) rfl;have r6:v6=.int .i64 e.c:=r6;have r7:v7=.int .i64 e.o:=r7;rw[str_eq r2] at k2;rw[str_eq r3] at k3;rw[str_eq r4] at k4;rw[str_eq r5] at k5;rw[r6] at k6;rw[r7] at k7;obtain⟨l1,l2,l3⟩:=hB.lS;obtain⟨l4,l5,l6⟩:=hB.lT;have hc0:=hV.c0;have q0:∃ a l k,v0=.slice a l k:=by
  have:∃ A c,v0=.slice A (tks e.S).length c/\_:=r0
  obtain⟨A,c,h,_⟩:=this;exact⟨_,_,_,h⟩
 have q1:∃ a l k,v1=.slice a l k:=by
  have:∃ A c,v1=.slice A (tks e.T).length c/\_:=r1
  obtain⟨A,c,h,_⟩:=this;exact⟨_,_,_,h⟩
 refine⟨v0,v1,vlE e 6,⟨fun W h=>(hE.cell h _ _ s0).trans k0,fun W h=>(hE.cell h _ _ s1).trans k1,fun W h=>(hE.cell h _ _ s2).trans k2,fun W h=>(hE.cell h _ _ s3).trans k3,fun W h=>(hE.cell h _ _ s4).trans k4,fun W h=>(hE.cell h _ _ s5).trans k5,fun W h=>(hE.cell h _ _ s6).trans k6,fun W h=>(hE.cell h _ _ s7).trans k7,
  fm66 hE hV.vS (by omega) l3 r0,fm66 hE hV.vT (by omega) l6 r1,fun hz W hW=>?_,fun hz=>?_,rfl,q0,q1,hV.o1,hV.o3,fun i=>by have:=vs_len hV i;omega,fun i hi=>?_⟩⟩
 ·have:=it34 e.c.toNat (by omega) hE W hW
  rw[show ((e.c.toNat:Nat):Int)=e.c by omega] at this;rw[show vlE e 6=dcN e.c.toNat from if_neg hz];exact this
 ·show (if e.c=0 then [] else _)=[]
  rw[if_pos hz]
 ·have:=lin_len (vs_len hV) i
  omega
end Go.Av
namespace Go.Av
open Go.Proofs Go.RowKit Go.Nt
set_option maxHeartbeats 4000000
theorem fm_calls {m:List En} (h:FOK m) {S0:Nat->Nat->Prop} {w:World} (hE:Ent S0 w) {v:Value} (hv:RepF S0 w (.sl .no 8 (ens m)) v) :
  Calls Tryz.prog 17 #[v] w fun e w'=>e=.returned (.tuple #[.string ⟨(fmM m).1.toArray⟩,.int .i64 (fmM m).2])/\Below w.heap.size w w':=by
 have hchk:∀ W:World,Below w.heap.size w W->Calls Tryz.prog 32 #[v] W fun e w'=>e=.returned (.int .i64 (chkM m))/\Below W.heap.size W w':=fun W hW=>by
  have hE':=hE.next hW;refine (pure_call (kChk m (by have:=h.l;omega) h.b) ent32 hE'.lt hE'.gl (vs:=#[v]) ⟨RepF.mono (fun b o hs=>⟨hs,hE.cell hW b o hs⟩) _ _ hv,trivial⟩).mono ?_
  rintro e w' ⟨u,_,_,_,rfl,h1,h2⟩
  have h1:u=.int .i64 (chkM m):=h1;exact⟨by rw[h1],h2⟩
 have hl:=h.l;by_cases hc:chkM m=0
 ·obtain⟨h1,h2⟩:=(chkM_0 m).1 hc
  obtain⟨h3,h4⟩:=h.c hc;rw[fmM_ok h2 h1 h4];rw[hc] at hchk;obtain⟨A,c,q1,q2,_,_,q3⟩:∃ A c,v=.slice A (ens m).length c/\(ens m).length<=c/\(Own.no=.full->c=(ens m).length)/\Own.no≠.own/\(ens m=[]\/∃ b o,A=some ⟨b,o,none⟩/\RepR S0 w 8 (ens m) b o):=hv;rw[ens_len] at q1 q2;rcases q3 with q3 | ⟨b,o,q3,q4⟩
  ·have hm:m=[]:=by simpa [ens] using q3
   subst hm;exact fmt_x [] w v A 0 0 c q1 (fun z=>absurd rfl z) q2 (by simp) h4 (fun i=>txK_len (by simp) h2.1 i) hchk (it34 0 (by decide) hE) (fun i e hi=>by simp at hi)
  ·refine fmt_x m w v A b o c q1 (fun _=>q3) q2 (by omega) h4 (fun i=>txK_len hl h2.1 i) hchk (it34 m.length (by omega) hE) (fun i e hi=>?_)
   have hm:=mem_of_getElem? hi;obtain⟨_,q5⟩:=q4.get (i:=i) (e:=rowE e) (by simp [ens,hi]);exact row_x hE (h2.1 e hm) (h.b e hm) (h3 e hm) q5
 ·have:fmM m=([],chkM m):=by unfold fmM;rw[if_pos hc]
  rw[this];exact fmt_e v w (chkM m) hc (hchk w (Below.refl _ _))
theorem fm_sem {m:List En} (h:FOK m):SemCall Tryz.prog 17 [.sl .no 8 (ens m)] [] (.tup [.str (fmM m).1,.int .i64 (fmM m).2]) []:=by
 intro kd β bs S0 O0 w vs hent hargs;obtain⟨_,h3,h4,h5,h6⟩:=hent;obtain⟨l⟩:=vs
 match l,hargs with
 | [v],⟨hv,_⟩ =>
  have hE:Ent S0 w:=⟨fun b o hs=>(h3 b o hs).1,h6⟩
  refine (fm_calls h hE hv).mono ?_
  rintro e w' ⟨rfl,hb⟩
  refine⟨_,fun b=>if b < w.heap.size then kd b else .stab,β,bs,rfl,⟨fun i hi=>absurd hi (by simp),Nat.le_refl _,⟨fun i c hi=>(by simp at hi),fun i hi=>(by simp at hi)⟩,⟨_,rfl,⟨_,rfl,by simp⟩,rfl,trivial⟩,hb.os,hb.tape,hb.output,hb.size,fun b q _ _=>hb.block b q,fun b o hs=>hE.cell hb b o hs,fun b k hk=>?_,fun b t k hk=>?_,fun i _ hi=>absurd hi (by simp),fun i hi=>(by simp at hi)⟩⟩
  ·obtain⟨q1,_,t,k',q2,q3⟩:=h4 b k hk
   exact⟨t,k',by rw[if_pos q1];exact q2,q3⟩
  ·by_cases q:b < w.heap.size
   ·rw[if_pos q] at hk
    exact .inr (h5 b t k hk q)
   ·exact .inl (by omega)
theorem tks_inj {f g:List Tk} (h:tks f=tks g):f=g:=by
 unfold tks at h;refine (map_inj_right (f:=tkR) (fun x y hxy=>?_)).1 h;obtain⟨a,b,c⟩:=x;obtain⟨a',b',c'⟩:=y;simpa [tkR] using hxy
theorem ens_inj {m n:List En} (h:ens m=ens n):m=n:=by
 unfold ens at h;refine (map_inj_right (f:=rowE) (fun x y hxy=>?_)).1 h;simp only[rowE,List.cons.injEq,AV.sl.injEq,AV.str.injEq,AV.int.injEq,true_and,and_true] at hxy;obtain⟨h1,h2,h3,h4,h5,h6,h7,h8⟩:=hxy;exact En.eq (tks_inj h1) (tks_inj h2) h3 h4 h5 h6 h7 h8
def T9:FuncId->Option AFun
 | 4=>some F4
 | 12=>some F12
 | _=>none
theorem T9_ok:∀ f F,T9 f=some F->okFun Tryz.prog f F=true:=by
 intro f F h;unfold T9 at h
 split at h
 ·cases h;exact ok4
 ·cases h;exact ok12
 ·cases h
open Classical in
noncomputable def fmB:Calls':=fun f args sh=>if f=17 then (if h:sh=[]/\∃ m,args=[.sl .no 8 (ens m)]/\FOK m then some (.tup [.str (fmM h.2.choose).1,.int .i64 (fmM h.2.choose).2],[]) else none) else if (T9 f).isSome=true then none else G0 f args sh
theorem fmB_good:Good Tryz.prog fmB:=by
 intro f args sh r sh' h;unfold fmB at h
 split at h
 ·rename_i hf
  subst hf
  split at h
  ·rename_i q
   obtain⟨q1,q2⟩:=q.2.choose_spec;simp only[Option.some.injEq,Prod.mk.injEq] at h;obtain⟨rfl,rfl⟩:=h;generalize q.2.choose=m at q1 q2 ⊢;rw[q.1,q1];exact .inl ⟨⟨Tryz.f17,Tryz.func17,by kernel_rfl,by kernel_rfl⟩,fm_sem q2⟩
  ·cases h
 ·split at h
  ·cases h
  ·exact G0_good _ _ _ _ _ h
theorem fmB_17 {m:List En} (h:FOK m):fmB 17 [.sl .no 8 (ens m)] []=some (.tup [.str (fmM m).1,.int .i64 (fmM m).2],[]):=by
 unfold fmB;have q:([]:LL)=[]/\∃ m',[AV.sl .no 8 (ens m)]=[.sl .no 8 (ens m')]/\FOK m':=⟨rfl,m,rfl,h⟩
 rw[if_pos rfl,dif_pos q];have q1:=q.2.choose_spec.1
 have:m=q.2.choose:=ens_inj (by simpa using q1)
 rw[<- this]
noncomputable abbrev G9:Calls':=Gx fmB T9
theorem G9_good:Good Tryz.prog G9:=Gx_good mix fmB_good T9_ok
theorem up {f:FuncId} {args:List AV} {sh:LL} {r:AV × LL} (h:G0 f args sh=some r) (hf:f≠17) (hT:T9 f=none):G9 f args sh=some r:=by
 refine Gx_base ?_;unfold fmB;rw[if_neg hf,hT,if_neg (by simp)];exact h
theorem k17 {m:List En} (h:FOK m):G9 17 [.sl .no 8 (ens m)] []=some (.tup [.str (fmM m).1,.int .i64 (fmM m).2],[]):=Gx_base (fmB_17 h)
end Go.Av
namespace Go.Av
open Go.Nt
theorem int_eqb (a b:Int):(a == b)=decide (a=b):=by by_cases h:a=b<;>simp [h]
theorem ln44 (s:Bs) (hs:s.length<=10) (M:Int):∀ (r p:Bs) (n:Nat),s=p++r->n < 10 ^ p.length ->
  (r.all digB=true->execX G0 L44_0 (ST [(0,.str s),(1,.int .i64 M),(6,.int .i64 n),(24,.bool false),(26,.int .i64 s.length),(27,.int .i64 p.length)] [] [])=some (.ex 0,ST [(0,.str s),(1,.int .i64 M),(6,.int .i64 (numV r n:Nat)),(24,.bool false),(26,.int .i64 s.length),(27,.int .i64 s.length),(28,.bool false)] [] [])/\numV r n < 10 ^ s.length) /\
  (r.all digB=false->∃ l',execX G0 L44_0 (ST [(0,.str s),(1,.int .i64 M),(6,.int .i64 n),(24,.bool false),(26,.int .i64 s.length),(27,.int .i64 p.length)] [] [])=some (.ret,ST l' [] [])/\look .any l' 4=.int .i64 0/\look .any l' 5=.bool false)
 | [],p,n,h,hn=>by
  have h:s=p:=by simp [h]
  subst h;refine⟨fun _=>⟨?_,hn⟩,fun h=>(by simp at h)⟩;rw[Y_loop (L:=L44_0) rfl];simp only[go_sem,Int.lt_irrefl];rfl
 | c :: r,p,n,h,hn=>by
  have hl:s.length=p.length+1+r.length:=by simp [h];omega
  have h4:(p.length:Int) < (s.length:Int):=by omega
  have h0:(0:Int)<=(p.length:Int):=by omega
  have h5:s[p.length]?=some c:=by rw[h];simp
  have hw:IntKind.i64.wrap ((p.length:Int)+1)=((p.length+1:Nat):Int):=by rw[w64 (by omega) (by omega)];rfl
  have hI:=digB_I c;have e1:((p++[c]).length:Int)=((p.length+1:Nat):Int):=by simp
  have hp3:10 ^ p.length<=10 ^ 10:=Nat.pow_le_pow_right (by decide) (by omega);rw[all_cons];cases hc:digB c with
  | true =>
   obtain⟨a1,a2⟩:=hI.1 hc;have ih:=ln44 s hs M r (p++[c]) (10*n+(c.toNat - 48)) (by simp [h]) (by rw[length_append,length_singleton,Nat.pow_succ];omega);rw[e1] at ih;have b1:¬ (c.toNat:Int) < 48:=by omega
   have b2:¬ 57 < (c.toNat:Int):=by omega
   have w1:IntKind.i64.wrap (10*(n:Int))=10*(n:Int):=w64 (by omega) (by omega);have w2:IntKind.u8.wrap ((c.toNat:Int) - 48)=(c.toNat:Int) - 48:=wu8 (by omega) (by omega);have w3:IntKind.i64.wrap ((c.toNat:Int) - 48)=(c.toNat:Int) - 48:=w64 (by omega) (by omega);have w4:IntKind.i64.wrap (10*(n:Int)+((c.toNat:Int) - 48))=((10*n+(c.toNat - 48):Nat):Int):=by rw[w64 (by omega) (by omega)];omega
   have step:execX G0 L44_0 (ST [(0,.str s),(1,.int .i64 M),(6,.int .i64 n),(24,.bool false),(26,.int .i64 s.length),(27,.int .i64 p.length)] [] [])=execX G0 L44_0 (ST [(0,.str s),(1,.int .i64 M),(6,.int .i64 ((10*n+(c.toNat - 48):Nat):Int)),(24,.bool false),(26,.int .i64 s.length),(27,.int .i64 ((p.length+1:Nat):Int))] [] []):=by
    conv=>lhs;rw[Y_loop (L:=L44_0) rfl]
    simp only[go_sem,h4,h5,h0,b1,b2,w1,w2,w3,w4,hw]
   rw[step,Bool.true_and];exact ih
  | false =>
   refine⟨fun q=>(by simp at q),fun _=>?_⟩;by_cases a1:(c.toNat:Int) < 48
   ·refine Exists.intro ?_ (And.intro ?_ ?_)
    rotate_left 1
    ·rw[Y_loop (L:=L44_0) rfl]
     simp only[go_sem,h4,h5,h0,a1];rfl
    ·exact⟨rfl,rfl⟩
   ·have a2:57 < (c.toNat:Int):=by
     by_cases q:57 < (c.toNat:Int)
     ·exact q
     ·rw[hI.2 ⟨by omega,by omega⟩] at hc;cases hc
    refine Exists.intro ?_ (And.intro ?_ ?_)
    rotate_left 1
    ·rw[Y_loop (L:=L44_0) rfl]
     simp only[go_sem,h4,h5,h0,a1,a2];rfl
    ·exact⟨rfl,rfl⟩
theorem kn44 (s:Bs) (most:Nat):∃ (n:Int) (b:Bool),G0 44 [.str s,.int .i64 most] []=some (.tup [.int .i64 n,.bool b],[])/\b=(numX s most).isSome/\∀ k,numX s most=some k->n=(k:Int):=by
 by_cases h1:s=[]
 ·subst h1
  refine⟨0,false,?_,rfl,fun k hk=>(by cases hk)⟩;refine contract F44 rfl rfl rfl ?_;simp only[F44,go_sem,beq_self_eq_true]
 have h1':(s == [])=false:=by simpa using h1
 have hl:1<=s.length:=by cases s with | nil=>exact absurd rfl h1 | cons=>simp
 by_cases h2:10 < s.length
 ·have h2':(10:Int) < (s.length:Int):=by omega
  have hn:numX s most=none:=by unfold numX;rw[if_neg (fun q=>by omega)]
  refine⟨0,false,?_,by rw[hn];rfl,fun k hk=>(by rw[hn] at hk;cases hk)⟩;refine contract F44 rfl rfl rfl ?_;simp only[F44,go_sem,h1',h2']
 have h2':¬ (10:Int) < (s.length:Int):=by omega
 have h3:=headI (s:=s) (by omega);have hh:s.head?=some (s.headD 0):=by cases s with | nil=>exact absurd rfl h1 | cons=>rfl
 generalize s.headD 0=c at h3 hh;by_cases h4:1 < s.length/\c=48
 ·have h4':(1:Int) < (s.length:Int):=by omega
  have h5':(c.toNat:Int)=48:=by rw[h4.2];rfl
  have hn:numX s most=none:=by unfold numX;rw[if_neg (fun q=>q.2.2.1 ⟨h4.1,by rw[hh,h4.2]⟩)]
  refine⟨0,false,?_,by rw[hn];rfl,fun k hk=>(by rw[hn] at hk;cases hk)⟩;refine contract F44 rfl rfl rfl ?_;simp only[F44,go_sem,h1',h2',h3,h4',h5',int_eqb]
 obtain⟨x1,x2⟩:=ln44 s (by omega) most s [] 0 rfl (by simp);have ec:((([]:Bs).length:Nat):Int)=0:=rfl;have ec2:(((0:Nat)):Int)=0:=rfl;rw[ec,ec2] at x1 x2;cases hv:s.all digB with
 | true =>
  obtain⟨y1,y2⟩:=x1 hv;have hp3:10 ^ s.length<=10 ^ 10:=Nat.pow_le_pow_right (by decide) (by omega);refine⟨(numV s 0:Nat),decide ((numV s 0:Int)<=(most:Int)),?_,?_,fun k hk=>?_⟩
  ·refine contract F44 rfl rfl rfl ?_
   by_cases g1:(1:Int) < (s.length:Int)
   ·have g2:¬ (c.toNat:Int)=48:=nat_ne fun q=>h4 ⟨by omega,q⟩
    simp only[F44,go_sem,h1',h2',h3,g1,g2,y1,int_eqb,decide_false]
   ·simp only[F44,go_sem,h1',h2',g1,y1]
  ·unfold numX
   by_cases q:numV s 0<=most
   ·rw[if_pos ⟨hl,by omega,fun z=>h4 ⟨z.1,by rw[hh] at z;exact Option.some.inj z.2⟩,hv,q⟩,decide_eq_true (by omega)];rfl
   ·rw[if_neg (fun z=>q z.2.2.2.2),decide_eq_false (by omega)];rfl
  ·unfold numX at hk
   split at hk
   ·cases hk;rfl
   ·cases hk
 | false =>
  obtain⟨l',y1,y2,y3⟩:=x2 hv;have hn:numX s most=none:=by unfold numX;rw[if_neg (fun q=>by rw[hv] at q;exact absurd q.2.2.2.1 (by decide))]
  refine⟨0,false,?_,by rw[hn];rfl,fun k hk=>(by rw[hn] at hk;cases hk)⟩;refine contract F44 rfl rfl rfl ?_;by_cases g1:(1:Int) < (s.length:Int)
  ·have g2:¬ (c.toNat:Int)=48:=nat_ne fun q=>h4 ⟨by omega,q⟩
   simp only[F44,go_sem,h1',h2',h3,g1,g2,y1,y2,y3,int_eqb,decide_false]
  ·simp only[F44,go_sem,h1',h2',g1,y1,y2,y3]
theorem ln72 (s:Bs) (hs:s.length<=10) (M:Int):∀ (r p:Bs) (n:Nat),s=p++r->n < 10 ^ p.length ->
  (r.all digB=true->execX G0 L72_0 (ST [(0,.str s),(1,.int .i64 M),(6,.int .i64 n),(7,.int .i64 p.length),(24,.bool false)] [] [])=some (.ex 0,ST [(0,.str s),(1,.int .i64 M),(6,.int .i64 (numV r n:Nat)),(7,.int .i64 s.length),(24,.bool false),(28,.bool false)] [] [])/\numV r n < 10 ^ s.length) /\
  (r.all digB=false->∃ l',execX G0 L72_0 (ST [(0,.str s),(1,.int .i64 M),(6,.int .i64 n),(7,.int .i64 p.length),(24,.bool false)] [] [])=some (.ret,ST l' [] [])/\look .any l' 4=.int .i64 0/\look .any l' 5=.bool false)
 | [],p,n,h,hn=>by
  have h:s=p:=by simp [h]
  subst h;refine⟨fun _=>⟨?_,hn⟩,fun h=>(by simp at h)⟩;rw[Y_loop (L:=L72_0) rfl];simp only[go_sem,Int.lt_irrefl];rfl
 | c :: r,p,n,h,hn=>by
  have hl:s.length=p.length+1+r.length:=by simp [h];omega
  have h4:(p.length:Int) < (s.length:Int):=by omega
  have h0:(0:Int)<=(p.length:Int):=by omega
  have h5:s[p.length]?=some c:=by rw[h];simp
  have hw:IntKind.i64.wrap ((p.length:Int)+1)=((p.length+1:Nat):Int):=by rw[w64 (by omega) (by omega)];rfl
  have hI:=digB_I c;have e1:((p++[c]).length:Int)=((p.length+1:Nat):Int):=by simp
  have hp3:10 ^ p.length<=10 ^ 10:=Nat.pow_le_pow_right (by decide) (by omega);rw[all_cons];cases hc:digB c with
  | true =>
   obtain⟨a1,a2⟩:=hI.1 hc;have ih:=ln72 s hs M r (p++[c]) (10*n+(c.toNat - 48)) (by simp [h]) (by rw[length_append,length_singleton,Nat.pow_succ];omega);rw[e1] at ih;have b1:¬ (c.toNat:Int) < 48:=by omega
   have b2:¬ 57 < (c.toNat:Int):=by omega
   have w1:IntKind.i64.wrap ((n:Int)*10)=(n:Int)*10:=w64 (by omega) (by omega);have w2:IntKind.u8.wrap ((c.toNat:Int) - 48)=(c.toNat:Int) - 48:=wu8 (by omega) (by omega);have w3:IntKind.i64.wrap ((c.toNat:Int) - 48)=(c.toNat:Int) - 48:=w64 (by omega) (by omega);have w4:IntKind.i64.wrap ((n:Int)*10+((c.toNat:Int) - 48))=((10*n+(c.toNat - 48):Nat):Int):=by rw[w64 (by omega) (by omega)];omega
   have step:execX G0 L72_0 (ST [(0,.str s),(1,.int .i64 M),(6,.int .i64 n),(7,.int .i64 p.length),(24,.bool false)] [] [])=execX G0 L72_0 (ST [(0,.str s),(1,.int .i64 M),(6,.int .i64 ((10*n+(c.toNat - 48):Nat):Int)),(7,.int .i64 ((p.length+1:Nat):Int)),(24,.bool false)] [] []):=by
    conv=>lhs;rw[Y_loop (L:=L72_0) rfl]
    simp only[go_sem,h4,h5,h0,b1,b2,w1,w2,w3,w4,hw]
   rw[step,Bool.true_and];exact ih
  | false =>
   refine⟨fun q=>(by simp at q),fun _=>?_⟩;by_cases a1:(c.toNat:Int) < 48
   ·refine Exists.intro ?_ (And.intro ?_ ?_)
    rotate_left 1
    ·rw[Y_loop (L:=L72_0) rfl]
     simp only[go_sem,h4,h5,h0,a1];rfl
    ·exact⟨rfl,rfl⟩
   ·have a2:57 < (c.toNat:Int):=by
     by_cases q:57 < (c.toNat:Int)
     ·exact q
     ·rw[hI.2 ⟨by omega,by omega⟩] at hc;cases hc
    refine Exists.intro ?_ (And.intro ?_ ?_)
    rotate_left 1
    ·rw[Y_loop (L:=L72_0) rfl]
     simp only[go_sem,h4,h5,h0,a1,a2];rfl
    ·exact⟨rfl,rfl⟩
theorem kn72 (s:Bs) (most:Nat):∃ (n:Int) (b:Bool),G0 72 [.str s,.int .i64 most] []=some (.tup [.int .i64 n,.bool b],[])/\b=(numX s most).isSome/\∀ k,numX s most=some k->n=(k:Int):=by
 by_cases h1:s=[]
 ·subst h1
  refine⟨0,false,?_,rfl,fun k hk=>(by cases hk)⟩;refine contract F72 rfl rfl rfl ?_;simp only[F72,go_sem,beq_self_eq_true]
 have h1':(s == [])=false:=by simpa using h1
 have hl:1<=s.length:=by cases s with | nil=>exact absurd rfl h1 | cons=>simp
 by_cases h2:10 < s.length
 ·have h2':(10:Int) < (s.length:Int):=by omega
  have hn:numX s most=none:=by unfold numX;rw[if_neg (fun q=>by omega)]
  refine⟨0,false,?_,by rw[hn];rfl,fun k hk=>(by rw[hn] at hk;cases hk)⟩;refine contract F72 rfl rfl rfl ?_;simp only[F72,go_sem,h1',h2']
 have h2':¬ (10:Int) < (s.length:Int):=by omega
 have h3:=headI (s:=s) (by omega);have hh:s.head?=some (s.headD 0):=by cases s with | nil=>exact absurd rfl h1 | cons=>rfl
 generalize s.headD 0=c at h3 hh;by_cases h4:1 < s.length/\c=48
 ·have h4':(1:Int) < (s.length:Int):=by omega
  have h5':(c.toNat:Int)=48:=by rw[h4.2];rfl
  have hn:numX s most=none:=by unfold numX;rw[if_neg (fun q=>q.2.2.1 ⟨h4.1,by rw[hh,h4.2]⟩)]
  refine⟨0,false,?_,by rw[hn];rfl,fun k hk=>(by rw[hn] at hk;cases hk)⟩;refine contract F72 rfl rfl rfl ?_;simp only[F72,go_sem,h1',h2',h3,h4',h5',int_eqb]
 obtain⟨x1,x2⟩:=ln72 s (by omega) most s [] 0 rfl (by simp);have ec:((([]:Bs).length:Nat):Int)=0:=rfl;have ec2:(((0:Nat)):Int)=0:=rfl;rw[ec,ec2] at x1 x2;cases hv:s.all digB with
 | true =>
  obtain⟨y1,y2⟩:=x1 hv;have hp3:10 ^ s.length<=10 ^ 10:=Nat.pow_le_pow_right (by decide) (by omega);refine⟨(numV s 0:Nat),decide ((numV s 0:Int)<=(most:Int)),?_,?_,fun k hk=>?_⟩
  ·refine contract F72 rfl rfl rfl ?_
   by_cases g1:(1:Int) < (s.length:Int)
   ·have g2:¬ (c.toNat:Int)=48:=nat_ne fun q=>h4 ⟨by omega,q⟩
    simp only[F72,go_sem,h1',h2',h3,g1,g2,y1,int_eqb,decide_false]
   ·simp only[F72,go_sem,h1',h2',g1,y1]
  ·unfold numX
   by_cases q:numV s 0<=most
   ·rw[if_pos ⟨hl,by omega,fun z=>h4 ⟨z.1,by rw[hh] at z;exact Option.some.inj z.2⟩,hv,q⟩,decide_eq_true (by omega)];rfl
   ·rw[if_neg (fun z=>q z.2.2.2.2),decide_eq_false (by omega)];rfl
  ·unfold numX at hk
   split at hk
   ·cases hk;rfl
   ·cases hk
 | false =>
  obtain⟨l',y1,y2,y3⟩:=x2 hv;have hn:numX s most=none:=by unfold numX;rw[if_neg (fun q=>by rw[hv] at q;exact absurd q.2.2.2.1 (by decide))]
  refine⟨0,false,?_,by rw[hn];rfl,fun k hk=>(by rw[hn] at hk;cases hk)⟩;refine contract F72 rfl rfl rfl ?_;by_cases g1:(1:Int) < (s.length:Int)
  ·have g2:¬ (c.toNat:Int)=48:=nat_ne fun q=>h4 ⟨by omega,q⟩
   simp only[F72,go_sem,h1',h2',h3,g1,g2,y1,y2,y3,int_eqb,decide_false]
  ·simp only[F72,go_sem,h1',h2',g1,y1,y2,y3]
theorem kPre (s b:Bs):G0 102 [.str s,.str b] []=some (.bool (b.isPrefixOf s),[]):=by
 refine contract F102 rfl rfl rfl ?_;by_cases h:(b.length:Int)<=(s.length:Int)
 ·have h0:(0:Int)<=(b.length:Int):=by omega
  have e:(s.take b.length == b)=b.isPrefixOf s:=by
   rw[Bool.eq_iff_iff,beq_iff_eq,isPrefixOf_iff_prefix];exact⟨fun q=>by rw[<- q];exact take_prefix _ _,fun q=>(prefix_iff_eq_take.1 q).symm⟩
  simp only[F102,go_sem,h,h0,e]
 ·have e:b.isPrefixOf s=false:=by
   cases q:b.isPrefixOf s with
   | false=>rfl
   | true=>have:=(isPrefixOf_iff_prefix.1 q).length_le;omega
  simp only[F102,go_sem,h,e]
theorem kCutP (s b:Bs):(∀ v,after b s=some v->G0 43 [.str s,.str b] []=some (.tup [.str v,.bool true],[]))/\(after b s=none->G0 43 [.str s,.str b] []=some (.tup [.str s,.bool false],[])):=by
 have a:=kPre s b;unfold after
 cases q:b.isPrefixOf s with
 | true =>
  rw[q] at a;have hl:=(isPrefixOf_iff_prefix.1 q).length_le;have h1:(b.length:Int)<=(s.length:Int):=by omega
  have h0:(0:Int)<=(b.length:Int):=by omega
  have c:G0 75 [.str s,.str b] []=some (.tup [.str (s.drop b.length),.bool true],[]):=by
   refine contract F75 rfl rfl rfl ?_;simp only[F75,go_sem,a,h0,h1,take_length]
  refine⟨fun v hv=>?_,fun h=>(by cases h)⟩;cases hv;refine contract F43 rfl rfl rfl ?_;simp only[F43,go_sem,c]
 | false =>
  rw[q] at a;have c:G0 75 [.str s,.str b] []=some (.tup [.str s,.bool false],[]):=by
   refine contract F75 rfl rfl rfl ?_;simp only[F75,go_sem,a]
  refine⟨fun v hv=>(by cases hv),fun _=>?_⟩;refine contract F43 rfl rfl rfl ?_;simp only[F43,go_sem,c]
theorem kAft (s b:Bs):(∀ v,after b s=some v->G0 22 [.str s,.str b] []=some (.tup [.str v,.bool true],[]))/\(after b s=none->G0 22 [.str s,.str b] []=some (.tup [.str [],.bool false],[])):=by
 unfold after;by_cases h:(s.length:Int) < (b.length:Int)
 ·have e:b.isPrefixOf s=false:=by
   cases q:b.isPrefixOf s with
   | false=>rfl
   | true=>have:=(isPrefixOf_iff_prefix.1 q).length_le;omega
  rw[e];refine⟨fun v hv=>(by cases hv),fun _=>?_⟩;refine contract F22 rfl rfl rfl ?_;simp only[F22,go_sem,h]
 ·have h1:(b.length:Int)<=(s.length:Int):=by omega
  have h0:(0:Int)<=(b.length:Int):=by omega
  cases q:b.isPrefixOf s with
  | true =>
   have e:(s.take b.length != b)=false:=by simpa using (prefix_iff_eq_take.1 (isPrefixOf_iff_prefix.1 q)).symm
   refine⟨fun v hv=>?_,fun h=>(by cases h)⟩;cases hv;refine contract F22 rfl rfl rfl ?_;simp only[F22,go_sem,h,h0,h1,e,take_length]
  | false =>
   have e:(s.take b.length != b)=true:=by
    simp only[bne_iff_ne,ne_eq];intro z;rw[isPrefixOf_iff_prefix.2 (by rw[<- z];exact take_prefix _ _)] at q;cases q
   refine⟨fun v hv=>(by cases hv),fun _=>?_⟩;refine contract F22 rfl rfl rfl ?_;simp only[F22,go_sem,h,h0,h1,e]
end Go.Av
namespace Go.Av
open Go.Nt
def Ro (b x y:Bool) (r:Rd) (last:Bs):List AV:=[.sl (md b) 8 (ens r.m),.sl (mdn x) 3 (tks r.e.S),.sl (mdn y) 3 (tks r.e.T),.str r.e.p,.str r.e.n,.str r.e.a,.str r.e.j,.int .i64 r.e.c,.int .i64 r.e.o,.str last,.int .i64 (r.k:Int)]
theorem rf_ok (m1 m2 m3:Own) (l1 l2 l3:LL) (a b c d e:Bs) (i j k:Int):refsOk false 1 [[.sl m1 8 l1,.sl m2 3 l2,.sl m3 3 l3,.str a,.str b,.str c,.str d,.int .i64 i,.int .i64 j,.str e,.int .i64 k]]=true:=rfl
theorem kFits (b x y:Bool) (r:Rd) (last:Bs) (k:Nat):G0 76 [.ptr 0 0,.int .i64 k] [Ro b x y r last]=some (.bool (if r.k < 2 then decide (k=r.k) else decide (r.k<=k)),[Ro b x y r last]):=by
 refine contract F76 rfl rfl rfl ?_;by_cases h:r.k < 2
 ·have h':(r.k:Int) < 2:=by omega
  have e:decide ((k:Int)=(r.k:Int))=decide (k=r.k):=by by_cases q:k=r.k<;>simp [q];omega
  rw[if_pos h];simp only[F76,go_sem,Ro,h',e,int_eqb,rf_ok]
 ·have h':¬ (r.k:Int) < 2:=by omega
  have e:decide ((r.k:Int)<=(k:Int))=decide (r.k<=k):=by by_cases q:r.k<=k<;>simp [q]
  rw[if_neg h];simp only[F76,go_sem,Ro,h',e,int_eqb,rf_ok]
theorem c67':G0 67 [] []=some (.agg [.str [104,117,109,97,110],.str [97,108,105,103,110,101,100],.str [109,97,99,104,105,110,101]],[]):=by
 refine contract F67 rfl rfl rfl ?_;simp only[F67,go_sem]
def bfr:List (Nat × AV):=[(34,.bool false),(46,.bool false),(58,.bool false),(71,.bool false),(84,.bool false),(91,.bool false),(98,.bool false)]
theorem l77s (b x y:Bool) (m:List En) (e:En) (k:Nat) (last v:Bs) (i:Nat) (hi:i < 3) (a13:List AV) (h13:a13=[.str [104,117,109,97,110],.str [97,108,105,103,110,101,100],.str [109,97,99,104,105,110,101]]) :
  execX G0 L77_0 (ST ((0,.ptr 0 0) :: (2,.str v) :: (7,.int .i64 0) :: (13,.agg a13) :: (14,.int .i64 i) :: bfr) [] [Ro b x y ⟨m,e,k⟩ last])=execX G0 L77_0 (ST ((0,.ptr 0 0) :: (2,.str v) :: (7,.int .i64 0) :: (13,.agg a13) :: (14,.int .i64 ((i+1:Nat):Int)) :: bfr) [] [Ro b x y ⟨m,if orn.getD i []=v then { e with o:=(i:Int)+1 } else e,k⟩ last]):=by
 have h0:(0:Int)<=(i:Int):=by omega
 have h1:(i:Int) < 3:=by omega
 have hw:IntKind.i64.wrap ((i:Int)+1)=((i+1:Nat):Int):=by rw[w64 (by omega) (by omega)];rfl
 have hw2:IntKind.i64.wrap (1+(i:Int))=(i:Int)+1:=by rw[w64 (by omega) (by omega)];omega
 have ht:takeC false (i*1) 1 a13=some (.str (orn.getD i [])):=by
  subst h13
  match i,hi with
  | 0,_ | 1,_ | 2,_=>rfl
 have hl:a13.length=3:=by rw[h13];rfl
 generalize orn.getD i []=q at ht
 conv=>lhs;rw[Y_loop (L:=L77_0) rfl]
 by_cases hq:q=v
 ·have hq':(q == v)=true:=by simpa using hq
  rw[if_pos hq];simp only[go_sem,bfr,Ro,h0,h1,hl,ht,hq',hw,hw2]
 ·have hq':(q == v)=false:=by simpa using hq
  rw[if_neg hq];simp only[go_sem,bfr,Ro,h0,h1,hl,ht,hq',hw]
theorem idx_no {l:List Bs} {a:Bs} (h:idx l a=none):∀ x∈l,x≠a:=by
 induction l with
 | nil=>intro x hx;cases hx
 | cons z l ih =>
  unfold idx at h;by_cases q:z=a
  ·rw[if_pos q] at h;cases h
  ·rw[if_neg q] at h
   intro x hx;rcases mem_cons.1 hx with r | r
   ·rw[r];exact q
   ·exact ih (by simpa using h) x r
theorem l77 (b x y:Bool) (m:List En) (e:En) (k:Nat) (last v:Bs) (a13:List AV) (h13:a13=[.str [104,117,109,97,110],.str [97,108,105,103,110,101,100],.str [109,97,99,104,105,110,101]]) (ho:e.o=0) :
  execX G0 L77_0 (ST ((0,.ptr 0 0) :: (2,.str v) :: (7,.int .i64 0) :: (13,.agg a13) :: (14,.int .i64 0) :: bfr) [] [Ro b x y ⟨m,e,k⟩ last])=some (.ex 1,ST ((0,.ptr 0 0) :: (2,.str v) :: (7,.int .i64 0) :: (13,.agg a13) :: (14,.int .i64 3) :: (15,.bool false) :: bfr) [] [Ro b x y ⟨m,(setE 7 v e).2,k⟩ last]):=by
 have s0:=l77s b x y m e k last v 0 (by decide) a13 h13;have s1:=l77s b x y m (if orn.getD 0 []=v then { e with o:=((0:Nat):Int)+1 } else e) k last v 1 (by decide) a13 h13;have s2:=l77s b x y m (if orn.getD 1 []=v then { (if orn.getD 0 []=v then { e with o:=((0:Nat):Int)+1 } else e) with o:=((1:Nat):Int)+1 } else (if orn.getD 0 []=v then { e with o:=((0:Nat):Int)+1 } else e)) k last v 2 (by decide) a13 h13;refine s0.trans (s1.trans (s2.trans ?_));have hE:(if orn.getD 2 []=v then { (if orn.getD 1 []=v then { (if orn.getD 0 []=v then { e with o:=((0:Nat):Int)+1 } else e) with o:=((1:Nat):Int)+1 } else (if orn.getD 0 []=v then { e with o:=((0:Nat):Int)+1 } else e)) with o:=((2:Nat):Int)+1 } else (if orn.getD 1 []=v then { (if orn.getD 0 []=v then { e with o:=((0:Nat):Int)+1 } else e) with o:=((1:Nat):Int)+1 } else (if orn.getD 0 []=v then { e with o:=((0:Nat):Int)+1 } else e)))=(setE 7 v e).2:=by
  show _=(match idx orn v with | some i=>((0:Int),{ e with o:=(i:Int)+1 }) | none=>((2:Int),e)).2;have n0:¬ orn.getD 0 []=orn.getD 1 []:=by decide
  have n1:¬ orn.getD 0 []=orn.getD 2 []:=by decide
  have n2:¬ orn.getD 1 []=orn.getD 2 []:=by decide
  by_cases q0:orn.getD 0 []=v
  ·subst q0
   rw[idx_orn 0 (by decide),if_neg (fun h=>n1 h.symm),if_neg (fun h=>n0 h.symm),if_pos rfl]
  ·by_cases q1:orn.getD 1 []=v
   ·subst q1
    rw[idx_orn 1 (by decide),if_neg (fun h=>n2 h.symm),if_pos rfl,if_neg q0]
   ·by_cases q2:orn.getD 2 []=v
    ·subst q2
     rw[idx_orn 2 (by decide),if_pos rfl,if_neg q1,if_neg q0]
    ·have:idx orn v=none:=by
      cases h:idx orn v with
      | none=>rfl
      | some i =>
       have h5:=idx_at h;have hi:=(List.getElem?_eq_some_iff.1 h5).1
       match i,hi,h5 with
       | 0,_,h5=>exact absurd (Option.some.inj h5) q0
       | 1,_,h5=>exact absurd (Option.some.inj h5) q1
       | 2,_,h5=>exact absurd (Option.some.inj h5) q2
     rw[this,if_neg q2,if_neg q1,if_neg q0]
 rw[hE];have e3:(((2+1:Nat)):Int)=3:=rfl;rw[e3,Y_loop (L:=L77_0) rfl];simp only[go_sem,bfr]
theorem set7 (v:Bs) (e:En) (ho:e.o=0):((setE 7 v e).1=0/\¬ (setE 7 v e).2.o=0)\/((setE 7 v e).1=2/\(setE 7 v e).2.o=0):=by
 show ((match idx orn v with | some i=>((0:Int),{ e with o:=(i:Int)+1 }) | none=>((2:Int),e)).1=0/\¬ (match idx orn v with | some i=>((0:Int),{ e with o:=(i:Int)+1 }) | none=>((2:Int),e)).2.o=0)\/_;cases h:idx orn v with
 | some i=>exact .inl ⟨rfl,by show ¬ (i:Int)+1=0;omega⟩
 | none=>exact .inr ⟨by show (match idx orn v with | some i=>((0:Int),{ e with o:=(i:Int)+1 }) | none=>((2:Int),e)).1=2;rw[h],by show (match idx orn v with | some i=>((0:Int),{ e with o:=(i:Int)+1 }) | none=>((2:Int),e)).2.o=0;rw[h];exact ho⟩
theorem kField (b x y:Bool) (m:List En) (e:En) (kk:Nat) (last v:Bs) (hv:v.length<=50000) (ho:e.o=0) (k:Nat) (hk:k < 8) :
  G0 77 [.ptr 0 0,.int .i64 k,.str v] [Ro b x y ⟨m,e,kk⟩ last]=some (.int .i64 (setE k v e).1,[Ro b (x || decide (k=0)) (y || decide (k=1)) ⟨m,(setE k v e).2,kk⟩ last]):=by
 have p:=c35 v (by omega);have mT:mdn true=.no:=rfl;refine contract F77 rfl rfl rfl ?_
 match k,hk with
 | 0,_ =>
  simp only[F77,go_sem,Ro,p,rf_ok,setE,Bool.or_true,Bool.or_false,mT]
 | 1,_ =>
  simp only[F77,go_sem,Ro,p,rf_ok,setE,Bool.or_true,Bool.or_false,mT]
 | 2,_ =>
  simp only[F77,go_sem,Ro,p,rf_ok,setE,Bool.or_true,Bool.or_false,mT]
 | 3,_ =>
  simp only[F77,go_sem,Ro,p,rf_ok,setE,Bool.or_true,Bool.or_false,mT]
 | 4,_ =>
  simp only[F77,go_sem,Ro,p,rf_ok,setE,Bool.or_true,Bool.or_false,mT]
 | 5,_ =>
  simp only[F77,go_sem,Ro,p,rf_ok,setE,Bool.or_true,Bool.or_false,mT]
 | 6,_ =>
  obtain⟨n,bb,g1,g2,g3⟩:=kn44 v 1073741824;have ec:((1073741824:Nat):Int)=1073741824:=rfl;rw[ec] at g1;have hs:setE 6 v e=(match numX v 1073741824 with | some n=>if n=0 then ((2:Int),e) else (0,{ e with c:=(n:Int) }) | none=>((2:Int),e)):=rfl;cases hn:numX v 1073741824 with
  | none =>
   rw[hn] at g2 hs;have g2:bb=false:=g2;subst g2;rw[hs];simp only[F77,go_sem,Ro,g1,rf_ok,Bool.or_false]
  | some k =>
   rw[hn] at g2 hs;have g2:bb=true:=g2;subst g2;have g3:=g3 k hn;subst g3;rw[hs];by_cases q:k=0
   ·subst q
    have q':(((0:Nat):Int) == 0)=true:=rfl;simp only[F77,go_sem,Ro,g1,rf_ok,q',Bool.or_false,if_true]
   ·have q':¬ (k:Int)=0:=by omega
    simp only[F77,go_sem,Ro,g1,rf_ok,int_eqb,q,q',decide_false,Bool.or_false,if_false]
 | 7,_ =>
  have l:=l77 b x y m e kk last v _ rfl ho;simp only[bfr,Ro] at l;rcases set7 v e ho with ⟨h1,h2⟩ | ⟨h1,h2⟩
  ·rw[h1]
   simp only[F77,go_sem,Ro,c67',l,rf_ok,int_eqb,h2,decide_false,Bool.or_false]
  ·rw[h1]
   simp only[F77,go_sem,Ro,c67',l,rf_ok,int_eqb,h2,decide_true,Bool.or_false]
end Go.Av
