/- What the rows' condition on the listed tables gives the walks; a start that meets it. No conditions. -/
import Derived.Test.YthnlilndompbaaaGreatDoorTie
import Derived.Test.YthnlilndompbaaaGreatDoorCards
import Derived.Test.YthnlilndompbaaaGreatDoorT1Sm
import Derived.Test.YthnlilndompbaaaGreatDoorT1Ev21to28
import Derived.Lib.LaidTab
import Derived.Stop.LaidErr
import Derived.LaidMore
import Derived.LaidLaws
import Derived.SevenTiedAt
import Derived.Shelf.Vars
import Derived.HandedShaped
open List
set_option linter.all false
set_option maxRecDepth 100000
set_option maxHeartbeats 16000000
def an7:=@Go.Proofs.Tryz.underlying3
namespace Go.Proofs.YthnlilndompbaaaGreatDoor
open Go.ChangeShapes Go.WideShapes Go.ChangeAt Go.RowKit Go.Av
variable{bk:Array Value}{x:World}
def own:ownKnob Tryz.prog.godebug=none:=by kernel_rfl
def ny:laidOutB Tryz.prog=true:=by kernel_rfl
def lst:List (String×DataW Unit):=[("math/bits.deBruijn32tab",Rows.laid_math_bits_deBruijn32tab),("math/bits.deBruijn64tab",Rows.laid_math_bits_deBruijn64tab),("internal/strconv.uint64pow10",Rows.laid_internal_strconv_uint64pow10),("unicode/utf8.acceptRanges",Rows.laid_unicode_utf8_acceptRanges),("unicode/utf8.first",Rows.laid_unicode_utf8_first)]
def UF:List Int:=[1,10,100,1000,10000,100000,1000000,10000000,100000000,1000000000,10000000000,100000000000,1000000000000,10000000000000,100000000000000,1000000000000000,10000000000000000,100000000000000000,1000000000000000000,10000000000000000000]
def EE{W:World}(k:IntKind)(b:Nat):∀ (l:List Int) (o:Nat),(∀ i,i<l.length->W.cell? ⟨b,o+i,none⟩=some (.int k (l.getD i 0)))->dR (λb _=>b<W.heap.size) W (l.map (AV.int k)) b o
 | [],_,_=>by simp [dR]
 | x::l,o,h=>by
  have a:=h 0 (by simp);simp only[rh] at a;refine⟨⟨ak5 W _ a,_,a,rfl⟩,EE k b l (o+1) λi hi=>?_⟩
  have:=h (i+1) (by simp;omega)
  rw[show o+1+i=o+(i+1) by omega];simpa using this
def Zu(h:x.ShapedOpen Tryz.prog):∃ m,x.cell? ⟨0,0,none⟩=some (.int .i64 m):=
 cell_of_shapedOpen_int (P:=Tryz.prog) (g:=0) (t:=3) (zero:=#[.int .i64 0]) h (by decide +kernel) (by kernel_rfl) rfl (by kernel_rfl) (by kernel_rfl) an7
def glob{D:Int}(d:x.cell? ⟨0,0,none⟩=some (.int .i64 D))(h:laidMetH Tryz.prog lst x):@qF (@seatTabs ⟨D⟩) (λb _=>b<x.heap.size) x:=by
 rw[MakeChecks.laidMetH_plain _ _ _ (by kernel_rfl)] at h;have hg:Tryz.prog.globalNamed "internal/strconv.uint64pow10"=some 1:=by kernel_rfl
 have c:Lib.TabIs Tryz.prog x "internal/strconv.uint64pow10" .u64 UF:=Lib.tabIs_of_head (t:=313) (e:=286) (n:=20) (rest:=[("unicode/utf8.acceptRanges",Rows.laid_unicode_utf8_acceptRanges),("unicode/utf8.first",Rows.laid_unicode_utf8_first)]) hg (by kernel_rfl) Tryz.underlying313 Tryz.underlying286 (by kernel_rfl) (by kernel_rfl) (laidMet.tail (laidMet.tail h));intro i k l a;have hi:(i=1/\k=.u64/\l=UF)\/(i=0/\k=.i64/\l=[D]):=by
  unfold Gtab.tab seatTabs at a;simp only at a
  split at a
  ·cases a;exact .inr ⟨rfl,rfl,rfl⟩
  ·cases a;exact .inl ⟨rfl,rfl,rfl⟩
  ·cases a
 rcases hi with ⟨rfl,rfl,rfl⟩ | ⟨rfl,rfl,rfl⟩
 ·exact EE .u64 1 UF 0 λi hi=>by rw[km];exact c.cell hg i hi
 ·exact EE .i64 0 [D] 0 λi hi=>by
   have:i=0:=by simpa using hi
   subst this;exact d
noncomputable def lw(os:Os):World:=
 { World.doorLaid Tryz.prog 400 os with heap:=(World.doorLaid Tryz.prog 400 os).heap.modify 2 fun
  | .cells _ t frozen=>.cells (Go.Pinned.utf8FirstZ.map λ(z:Nat)=>Value.int .u8 (z:Int)).toArray t frozen
  | o=>o }
def WX(a:Os):laidMetH Tryz.prog lst ((lw a).forCall (λ_ _=>0) ⟨#[],bk,[]⟩).memory:=
 laidMetH_of_parts3 (fuel:=8) (laidMet_of_run' 8 (by kernel_rfl) (by kernel_rfl)) (by kernel_rfl) (by kernel_rfl)
end Go.Proofs.YthnlilndompbaaaGreatDoor
