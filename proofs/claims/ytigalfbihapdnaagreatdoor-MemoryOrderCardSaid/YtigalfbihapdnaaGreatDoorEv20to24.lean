/- A part of the frame (Ev20 Ev21 Ev22 Ev23 Ev24). No conditions. -/
import Derived.Test.YtigalfbihapdnaaGreatDoorEv19
import Derived.IntWalk
import Derived.Test.YtigalfbihapdnaaGreatDoorEv14to18
import Derived.WalkKit
import Derived.ProofKit
import Derived.OpenShut
import Derived.Below
import Derived.Carry
import Derived.Lib.SmallJoins
import Derived.Lib.Overlaps
import Derived.Lib.AppendZerosOnto
set_option linter.unusedSimpArgs false
set_option linter.unusedVariables false
set_option linter.unusedSectionVars false
set_option maxRecDepth 100000
set_option maxHeartbeats 16000000
namespace Go.Av
variable {G:Calls'} {l:List (Nat × AV)} {m:List (Nat × Option (List AV))} {sh:List (List AV)}
noncomputable def loopY (G:Calls') (L:ACode) (kill:List Nat) (r:Option (AX × AS)):Option (AX × AS):=match r with
 | some (.norm,σ')=>execX G L (forget kill σ')
 | r=>r
theorem scrubV_idem (a:List Nat) (v:AV):scrubV a (scrubV a v)=scrubV a v:=by
 cases v with
 | loc s o=>by_cases h:s∈a<;>simp [scrubV,h]
 | _=>rfl
theorem forget_idem (kill:List Nat) (σ:AS):forget kill (forget kill σ)=forget kill σ:=by
 unfold forget
 simp only[AS.mk.injEq,and_true]
 refine⟨?_,?_⟩
 ·funext t
  by_cases h:t∈kill
  ·simp [h]
  ·simp [h,scrubV_idem]
 ·funext t
  by_cases h:t∈kill<;>simp [h]
theorem Y_loop {L:ACode} {kill:List Nat} {a:ACode} (h:L=.loop kill a) (l:List (Nat × AV)) (m:List (Nat × Option (List AV))) (sh:List (List AV)) :
  execX G L (ST l m sh)=loopY G L kill (execX G a (ST (killl kill l) (dropl kill m) sh)):=by
 subst h
 rw[X_loop]
 have hf:∀ σ,execX G (.loop kill a) σ=execX G (.loop kill a) (forget kill σ):=by
  intro σ
  show iterX (fun σ=>execX G a (forget kill σ)) σ=iterX (fun σ=>execX G a (forget kill σ)) (forget kill σ)
  rw[@iterX_eq tab0,@iterX_eq tab0 _ (forget kill σ)]
  simp only[forget_idem]
 cases execX G a (ST (killl kill l) (dropl kill m) sh) with
 | none=>rfl
 | some r =>
  obtain⟨x,σ⟩:=r
  cases x with
  | norm=>exact hf σ
  | _=>rfl
@[go_sem] theorem loopY_norm (L:ACode) (kill:List Nat) (l:List (Nat × AV)) (m:List (Nat × Option (List AV))) (sh:List (List AV)):loopY G L kill (some (.norm,ST l m sh))=execX G L (ST (killl kill l) (dropl kill m) sh):=by
 rw[← forget_ST];rfl
@[go_sem] theorem loopY_ex (L:ACode) (kill:List Nat) (i:Nat) (σ:AS):loopY G L kill (some (.ex i,σ))=some (.ex i,σ):=(rfl)
@[go_sem] theorem loopY_ret (L:ACode) (kill:List Nat) (σ:AS):loopY G L kill (some (.ret,σ))=some (.ret,σ):=(rfl)
@[go_sem] theorem loopY_none (L:ACode) (kill:List Nat):loopY G L kill none=none:=(rfl)
@[go_sem] theorem loopY_ite (L:ACode) (kill:List Nat) (c:Prop) [Decidable c] (x y:Option (AX × AS)):loopY G L kill (if c then x else y)=if c then loopY G L kill x else loopY G L kill y:=by split<;>rfl
@[go_sem] theorem isNone_none':(none:Option (List AV)).isNone=true:=(rfl)
@[go_sem] theorem isNone_some' (x:List AV):(some x).isNone=false:=(rfl)
def consR:Option (List AV)→Option (List (List AV))→Option (List (List AV))
 | some r,some rs=>some (r :: rs)
 | _,_=>none
def mkRows (z:Nat):List AV→Option (List (List AV))
 | []=>some []
 | x :: xs=>consR (cellsOfV z x) (mkRows z xs)
@[go_sem] theorem mkRows_nil (z:Nat):mkRows z []=some []:=(rfl)
@[go_sem] theorem mkRows_cons (z:Nat) (x:AV) (xs:List AV):mkRows z (x :: xs)=consR (cellsOfV z x) (mkRows z xs):=(rfl)
@[go_sem] theorem consR_some (r:List AV) (rs:List (List AV)):consR (some r) (some rs)=some (r :: rs):=(rfl)
@[go_sem] theorem consR_none (r:Option (List AV)):consR r none=none:=by cases r<;>rfl
theorem cellsOfV_len {n:Nat} {x:AV} {cs:List AV} (h:cellsOfV n x=some cs):cs.length=n:=by
 unfold cellsOfV at h
 split at h
 ·split at h
  ·cases h;assumption
  ·cases h
 ·split at h
  ·cases h;rename_i h1;simp [h1.1]
  ·cases h
theorem mkRows_len {z:Nat}:∀ {xs:List AV} {rs:List (List AV)},mkRows z xs=some rs→rs.length=xs.length∧∀ r∈rs,r.length=z
 | [],rs,h=>by cases h;simp
 | x :: xs,rs,h=>by
  simp only[mkRows] at h
  cases h1:cellsOfV z x with
  | none=>rw[h1] at h;cases h
  | some r =>
   cases h2:mkRows z xs with
   | none=>rw[h1,h2] at h;cases h
   | some rs' =>
    rw[h1,h2] at h;cases h
    have:=mkRows_len h2
    have h3:=cellsOfV_len h1
    simp only[List.length_cons,this.1,true_and,List.mem_cons,forall_eq_or_imp]
    exact⟨h3,this.2⟩
theorem rowsOf_flat' (z:Nat):∀ (rs:List (List AV)),(∀ r∈rs,r.length=z)→rowsOf z rs.length rs.flatten=rs
 | [],_=>rfl
 | r :: rs,h=>by
  have h1:=h r (by simp)
  have h2:=rowsOf_flat' z rs (fun r hr=>h r (by simp [hr]))
  show ((r :: rs).flatten).take z :: rowsOf z rs.length (((r :: rs).flatten).drop z)=_
  rw[List.flatten_cons,List.take_left' h1,List.drop_left' h1,h2]
theorem fillA_range {z:Nat} {zero:List AV} (hz:zero.length=z):∀ (xs:List AV) (pre:List AV) (k:Nat),pre.length=k*z →
  fillA (pre++zeroRow zero xs.length) ((List.range' k xs.length).map fun i=>(i*z,z)) xs=(mkRows z xs).map fun rs=>pre++rs.flatten
 | [],pre,k,h=>by simp [fillA,mkRows,zeroRow]
 | x :: xs,pre,k,h=>by
  simp only[List.length_cons,List.range'_succ,List.map_cons,fillA,mkRows]
  cases h1:cellsOfV z x with
  | none=>cases h3:mkRows z xs<;>rfl
  | some cs =>
   have hc:=cellsOfV_len h1
   have h2:putC (k*z) cs (pre++zeroRow zero (xs.length+1))=some ((pre++cs)++zeroRow zero xs.length):=by
    rw[show zeroRow zero (xs.length+1)=zero++zeroRow zero xs.length from rfl]
    unfold putC
    rw[if_pos (by simp only[List.length_append];omega)]
    rw[List.take_left' h,← List.append_assoc pre zero,List.drop_left' (by simp [hc,h,hz])]
   simp only[h2]
   rw[fillA_range hz xs (pre++cs) (k+1) (by simp [h,hc,Nat.add_mul])]
   cases mkRows z xs with
   | none=>rfl
   | some rs=>simp [consR]
theorem mksA_rows {z:Nat} {zero:List AV} {len:Nat} {pl:List Nat} {xs:List AV} (hz:zero.length=z) (hl:xs.length=len) (hp:pl=List.range' 0 len) :
  mksA z zero len pl xs=(mkRows z xs).map fun rs=>.sl .full z rs:=by
 subst hl;subst hp
 unfold mksA
 rw[show zeroRow zero xs.length=[]++zeroRow zero xs.length from rfl,fillA_range hz xs [] 0 (by simp)]
 cases h:mkRows z xs with
 | none=>rfl
 | some rs =>
  have:=mkRows_len h
  simp only[Option.map_some,List.nil_append]
  rw[← this.1,rowsOf_flat' z rs this.2]
@[go_sem] theorem mks_1_1 (c0 x0:AV):mksA 1 [c0] 1 [0] [x0]=(mkRows 1 [x0]).map fun rs=>.sl .full 1 rs:=mksA_rows rfl rfl rfl
@[go_sem] theorem mks_1_2 (c0 x0 x1:AV):mksA 1 [c0] 2 [0,1] [x0,x1]=(mkRows 1 [x0,x1]).map fun rs=>.sl .full 1 rs:=mksA_rows rfl rfl rfl
@[go_sem] theorem mks_1_3 (c0 x0 x1 x2:AV):mksA 1 [c0] 3 [0,1,2] [x0,x1,x2]=(mkRows 1 [x0,x1,x2]).map fun rs=>.sl .full 1 rs:=mksA_rows rfl rfl rfl
@[go_sem] theorem mks_1_4 (c0 x0 x1 x2 x3:AV):mksA 1 [c0] 4 [0,1,2,3] [x0,x1,x2,x3]=(mkRows 1 [x0,x1,x2,x3]).map fun rs=>.sl .full 1 rs:=mksA_rows rfl rfl rfl
@[go_sem] theorem mks_1_5 (c0 x0 x1 x2 x3 x4:AV):mksA 1 [c0] 5 [0,1,2,3,4] [x0,x1,x2,x3,x4]=(mkRows 1 [x0,x1,x2,x3,x4]).map fun rs=>.sl .full 1 rs:=mksA_rows rfl rfl rfl
@[go_sem] theorem mks_1_6 (c0 x0 x1 x2 x3 x4 x5:AV):mksA 1 [c0] 6 [0,1,2,3,4,5] [x0,x1,x2,x3,x4,x5]=(mkRows 1 [x0,x1,x2,x3,x4,x5]).map fun rs=>.sl .full 1 rs:=mksA_rows rfl rfl rfl
@[go_sem] theorem mks_1_10 (c0 x0 x1 x2 x3 x4 x5 x6 x7 x8 x9:AV):mksA 1 [c0] 10 [0,1,2,3,4,5,6,7,8,9] [x0,x1,x2,x3,x4,x5,x6,x7,x8,x9]=(mkRows 1 [x0,x1,x2,x3,x4,x5,x6,x7,x8,x9]).map fun rs=>.sl .full 1 rs:=mksA_rows rfl rfl rfl
@[go_sem] theorem mks_2_1 (c0 c1 x0:AV):mksA 2 [c0,c1] 1 [0] [x0]=(mkRows 2 [x0]).map fun rs=>.sl .full 2 rs:=mksA_rows rfl rfl rfl
@[go_sem] theorem mks_2_2 (c0 c1 x0 x1:AV):mksA 2 [c0,c1] 2 [0,1] [x0,x1]=(mkRows 2 [x0,x1]).map fun rs=>.sl .full 2 rs:=mksA_rows rfl rfl rfl
@[go_sem] theorem mks_2_3 (c0 c1 x0 x1 x2:AV):mksA 2 [c0,c1] 3 [0,1,2] [x0,x1,x2]=(mkRows 2 [x0,x1,x2]).map fun rs=>.sl .full 2 rs:=mksA_rows rfl rfl rfl
@[go_sem] theorem mks_2_4 (c0 c1 x0 x1 x2 x3:AV):mksA 2 [c0,c1] 4 [0,1,2,3] [x0,x1,x2,x3]=(mkRows 2 [x0,x1,x2,x3]).map fun rs=>.sl .full 2 rs:=mksA_rows rfl rfl rfl
@[go_sem] theorem mks_2_5 (c0 c1 x0 x1 x2 x3 x4:AV):mksA 2 [c0,c1] 5 [0,1,2,3,4] [x0,x1,x2,x3,x4]=(mkRows 2 [x0,x1,x2,x3,x4]).map fun rs=>.sl .full 2 rs:=mksA_rows rfl rfl rfl
@[go_sem] theorem mks_2_6 (c0 c1 x0 x1 x2 x3 x4 x5:AV):mksA 2 [c0,c1] 6 [0,1,2,3,4,5] [x0,x1,x2,x3,x4,x5]=(mkRows 2 [x0,x1,x2,x3,x4,x5]).map fun rs=>.sl .full 2 rs:=mksA_rows rfl rfl rfl
@[go_sem] theorem mks_2_10 (c0 c1 x0 x1 x2 x3 x4 x5 x6 x7 x8 x9:AV):mksA 2 [c0,c1] 10 [0,1,2,3,4,5,6,7,8,9] [x0,x1,x2,x3,x4,x5,x6,x7,x8,x9]=(mkRows 2 [x0,x1,x2,x3,x4,x5,x6,x7,x8,x9]).map fun rs=>.sl .full 2 rs:=mksA_rows rfl rfl rfl
@[go_sem] theorem mks_3_1 (c0 c1 c2 x0:AV):mksA 3 [c0,c1,c2] 1 [0] [x0]=(mkRows 3 [x0]).map fun rs=>.sl .full 3 rs:=mksA_rows rfl rfl rfl
@[go_sem] theorem mks_3_2 (c0 c1 c2 x0 x1:AV):mksA 3 [c0,c1,c2] 2 [0,1] [x0,x1]=(mkRows 3 [x0,x1]).map fun rs=>.sl .full 3 rs:=mksA_rows rfl rfl rfl
@[go_sem] theorem mks_3_3 (c0 c1 c2 x0 x1 x2:AV):mksA 3 [c0,c1,c2] 3 [0,1,2] [x0,x1,x2]=(mkRows 3 [x0,x1,x2]).map fun rs=>.sl .full 3 rs:=mksA_rows rfl rfl rfl
@[go_sem] theorem mks_3_4 (c0 c1 c2 x0 x1 x2 x3:AV):mksA 3 [c0,c1,c2] 4 [0,1,2,3] [x0,x1,x2,x3]=(mkRows 3 [x0,x1,x2,x3]).map fun rs=>.sl .full 3 rs:=mksA_rows rfl rfl rfl
@[go_sem] theorem mks_3_5 (c0 c1 c2 x0 x1 x2 x3 x4:AV):mksA 3 [c0,c1,c2] 5 [0,1,2,3,4] [x0,x1,x2,x3,x4]=(mkRows 3 [x0,x1,x2,x3,x4]).map fun rs=>.sl .full 3 rs:=mksA_rows rfl rfl rfl
@[go_sem] theorem mks_3_6 (c0 c1 c2 x0 x1 x2 x3 x4 x5:AV):mksA 3 [c0,c1,c2] 6 [0,1,2,3,4,5] [x0,x1,x2,x3,x4,x5]=(mkRows 3 [x0,x1,x2,x3,x4,x5]).map fun rs=>.sl .full 3 rs:=mksA_rows rfl rfl rfl
@[go_sem] theorem mks_3_10 (c0 c1 c2 x0 x1 x2 x3 x4 x5 x6 x7 x8 x9:AV):mksA 3 [c0,c1,c2] 10 [0,1,2,3,4,5,6,7,8,9] [x0,x1,x2,x3,x4,x5,x6,x7,x8,x9]=(mkRows 3 [x0,x1,x2,x3,x4,x5,x6,x7,x8,x9]).map fun rs=>.sl .full 3 rs:=mksA_rows rfl rfl rfl
@[go_sem] theorem mks_4_1 (c0 c1 c2 c3 x0:AV):mksA 4 [c0,c1,c2,c3] 1 [0] [x0]=(mkRows 4 [x0]).map fun rs=>.sl .full 4 rs:=mksA_rows rfl rfl rfl
@[go_sem] theorem mks_4_2 (c0 c1 c2 c3 x0 x1:AV):mksA 4 [c0,c1,c2,c3] 2 [0,1] [x0,x1]=(mkRows 4 [x0,x1]).map fun rs=>.sl .full 4 rs:=mksA_rows rfl rfl rfl
@[go_sem] theorem mks_4_3 (c0 c1 c2 c3 x0 x1 x2:AV):mksA 4 [c0,c1,c2,c3] 3 [0,1,2] [x0,x1,x2]=(mkRows 4 [x0,x1,x2]).map fun rs=>.sl .full 4 rs:=mksA_rows rfl rfl rfl
@[go_sem] theorem mks_4_4 (c0 c1 c2 c3 x0 x1 x2 x3:AV):mksA 4 [c0,c1,c2,c3] 4 [0,1,2,3] [x0,x1,x2,x3]=(mkRows 4 [x0,x1,x2,x3]).map fun rs=>.sl .full 4 rs:=mksA_rows rfl rfl rfl
@[go_sem] theorem mks_4_5 (c0 c1 c2 c3 x0 x1 x2 x3 x4:AV):mksA 4 [c0,c1,c2,c3] 5 [0,1,2,3,4] [x0,x1,x2,x3,x4]=(mkRows 4 [x0,x1,x2,x3,x4]).map fun rs=>.sl .full 4 rs:=mksA_rows rfl rfl rfl
@[go_sem] theorem mks_4_6 (c0 c1 c2 c3 x0 x1 x2 x3 x4 x5:AV):mksA 4 [c0,c1,c2,c3] 6 [0,1,2,3,4,5] [x0,x1,x2,x3,x4,x5]=(mkRows 4 [x0,x1,x2,x3,x4,x5]).map fun rs=>.sl .full 4 rs:=mksA_rows rfl rfl rfl
@[go_sem] theorem mks_4_10 (c0 c1 c2 c3 x0 x1 x2 x3 x4 x5 x6 x7 x8 x9:AV):mksA 4 [c0,c1,c2,c3] 10 [0,1,2,3,4,5,6,7,8,9] [x0,x1,x2,x3,x4,x5,x6,x7,x8,x9]=(mkRows 4 [x0,x1,x2,x3,x4,x5,x6,x7,x8,x9]).map fun rs=>.sl .full 4 rs:=mksA_rows rfl rfl rfl
theorem cellsOfO_len {n:Nat} {x:AV} {cs:List AV} (h:cellsOfO n x=some cs):cs.length=n:=by
 unfold cellsOfO at h
 split at h
 ·split at h
  ·cases h;assumption
  ·cases h
 ·split at h
  ·rename_i h1;cases h;exact h1.1
  ·cases h
 ·split at h
  ·cases h;rename_i h1;simp [h1.1]
  ·cases h
theorem appOK_le {bytes n:Nat} (h1:bytes≤100000) (h2:n≤1000000000):appOK bytes n=true:=by
 have:n*bytes≤1000000000*100000:=Nat.mul_le_mul h2 h1
 simp only[appOK,decide_eq_true_eq];omega
theorem appA_gen (md o:Own) (hm:md≠.no) (z bytes:Nat) (hz:0 < z) (x y:List (List AV)) :
  appA false z bytes (.sl md z x) (.sl o z y)=if appOK bytes (x.length+y.length)=true then some (.sl .own z (x++y)) else none:=by
 simp [appA,rowsA,appOK,hm,hz]
@[go_sem] theorem app_own1 (o:Own) (bytes:Nat) (x y:List (List AV)):appA false 1 bytes (.sl .own 1 x) (.sl o 1 y)=if appOK bytes (x.length+y.length)=true then some (.sl .own 1 (x++y)) else none:=appA_gen _ _ (by decide) _ _ (by decide) _ _
@[go_sem] theorem app_full1 (o:Own) (bytes:Nat) (x y:List (List AV)):appA false 1 bytes (.sl .full 1 x) (.sl o 1 y)=if appOK bytes (x.length+y.length)=true then some (.sl .own 1 (x++y)) else none:=appA_gen _ _ (by decide) _ _ (by decide) _ _
@[go_sem] theorem app_own2 (o:Own) (bytes:Nat) (x y:List (List AV)):appA false 2 bytes (.sl .own 2 x) (.sl o 2 y)=if appOK bytes (x.length+y.length)=true then some (.sl .own 2 (x++y)) else none:=appA_gen _ _ (by decide) _ _ (by decide) _ _
@[go_sem] theorem app_full2 (o:Own) (bytes:Nat) (x y:List (List AV)):appA false 2 bytes (.sl .full 2 x) (.sl o 2 y)=if appOK bytes (x.length+y.length)=true then some (.sl .own 2 (x++y)) else none:=appA_gen _ _ (by decide) _ _ (by decide) _ _
@[go_sem] theorem app_own3 (o:Own) (bytes:Nat) (x y:List (List AV)):appA false 3 bytes (.sl .own 3 x) (.sl o 3 y)=if appOK bytes (x.length+y.length)=true then some (.sl .own 3 (x++y)) else none:=appA_gen _ _ (by decide) _ _ (by decide) _ _
@[go_sem] theorem app_full3 (o:Own) (bytes:Nat) (x y:List (List AV)):appA false 3 bytes (.sl .full 3 x) (.sl o 3 y)=if appOK bytes (x.length+y.length)=true then some (.sl .own 3 (x++y)) else none:=appA_gen _ _ (by decide) _ _ (by decide) _ _
@[go_sem] theorem app_own4 (o:Own) (bytes:Nat) (x y:List (List AV)):appA false 4 bytes (.sl .own 4 x) (.sl o 4 y)=if appOK bytes (x.length+y.length)=true then some (.sl .own 4 (x++y)) else none:=appA_gen _ _ (by decide) _ _ (by decide) _ _
@[go_sem] theorem app_full4 (o:Own) (bytes:Nat) (x y:List (List AV)):appA false 4 bytes (.sl .full 4 x) (.sl o 4 y)=if appOK bytes (x.length+y.length)=true then some (.sl .own 4 (x++y)) else none:=appA_gen _ _ (by decide) _ _ (by decide) _ _
theorem app_str (md:Own) (hm:md≠.no) (bytes:Nat) (x:List (List AV)) (y:List UInt8) :
  appA true 1 bytes (.sl md 1 x) (.str y)=if appOK bytes (x.length+y.length)=true then some (.sl .own 1 (x++bytesRows y)) else none:=by
 have:(bytesRows y).length=y.length:=by simp [bytesRows]
 simp [appA,rowsA,appOK,hm,this]
@[go_sem] theorem app_strO (bytes:Nat) (x:List (List AV)) (y:List UInt8) :
  appA true 1 bytes (.sl .own 1 x) (.str y)=if appOK bytes (x.length+y.length)=true then some (.sl .own 1 (x++bytesRows y)) else none:=app_str _ (by decide) _ _ _
@[go_sem] theorem app_strF (bytes:Nat) (x:List (List AV)) (y:List UInt8) :
  appA true 1 bytes (.sl .full 1 x) (.str y)=if appOK bytes (x.length+y.length)=true then some (.sl .own 1 (x++bytesRows y)) else none:=app_str _ (by decide) _ _ _
theorem appOK_zero (bytes:Nat):appOK bytes 0=true:=by simp [appOK]
def fillX (cells:Option (List AV)) (pl:List (Nat × Nat)) (xs:List AV):Option (List AV):=cells.bind fun c=>fillA c pl xs
@[go_sem] theorem fillA_nil (cells:List AV):fillA cells [] []=some cells:=(rfl)
@[go_sem] theorem fillA_cons (cells:List AV) (off n:Nat) (pl:List (Nat × Nat)) (x:AV) (xs:List AV):fillA cells ((off,n) :: pl) (x :: xs)=fillX ((cellsOfV n x).bind fun cs=>putC off cs cells) pl xs:=by
 simp only[fillA,fillX]
 cases cellsOfV n x with
 | none=>rfl
 | some cs=>simp only[Option.bind_some];cases putC off cs cells<;>rfl
@[go_sem] theorem fillX_some (c:List AV) (pl:List (Nat × Nat)) (xs:List AV):fillX (some c) pl xs=fillA c pl xs:=(rfl)
@[go_sem] theorem fillX_none (pl:List (Nat × Nat)) (xs:List AV):fillX none pl xs=none:=(rfl)
def fillRX (cells:Option (List AV)) (pl:List (Nat × Nat)) (xs:List AV):Option (List AV):=cells.bind fun c=>fillR c pl xs
@[go_sem] theorem fillR_nil (cells:List AV):fillR cells [] []=some cells:=(rfl)
@[go_sem] theorem fillR_cons (cells:List AV) (off n:Nat) (pl:List (Nat × Nat)) (x:AV) (xs:List AV):fillR cells ((off,n) :: pl) (x :: xs)=fillRX ((cellsOfO n x).bind fun cs=>putC off cs cells) pl xs:=by
 simp only[fillR,fillRX]
 cases cellsOfO n x with
 | none=>rfl
 | some cs=>simp only[Option.bind_some];cases putC off cs cells<;>rfl
@[go_sem] theorem fillRX_some (c:List AV) (pl:List (Nat × Nat)) (xs:List AV):fillRX (some c) pl xs=fillR c pl xs:=(rfl)
@[go_sem] theorem fillRX_none (pl:List (Nat × Nat)) (xs:List AV):fillRX none pl xs=none:=(rfl)
def putL:Nat→List AV→List AV→Option (List AV)
 | _,[],cells=>some cells
 | _,_ :: _,[]=>none
 | 0,c :: cs,_ :: r=>(putL 0 cs r).map fun t=>c :: t
 | n+1,c :: cs,x :: r=>(putL n (c :: cs) r).map fun t=>x :: t
theorem putL_none:∀ (n:Nat) (cs cells:List AV),cells.length < n+cs.length→cs≠[]→putL n cs cells=none
 | _,[],_,_,h=>absurd rfl h
 | _,_ :: _,[],_,_=>by simp [putL]
 | 0,c :: cs,x :: r,h,_=>by
  simp only[putL]
  cases cs with
  | nil=>simp at h
  | cons c2 cs=>rw[putL_none 0 (c2 :: cs) r (by simp at h ⊢;omega) (by simp)];rfl
 | n+1,c :: cs,x :: r,h,_=>by
  simp only[putL]
  rw[putL_none n (c :: cs) r (by simp at h ⊢;omega) (by simp)];rfl
theorem putC_L:∀ (n:Nat) (cs cells:List AV),cs≠[]→putC n cs cells=putL n cs cells
 | _,[],_,h=>absurd rfl h
 | n,c :: cs,[],_=>by simp [putC,putL]
 | 0,[c],x :: r,_=>by simp [putC,putL]
 | 0,c :: c2 :: cs,x :: r,_=>by
  have:=putC_L 0 (c2 :: cs) r (by simp)
  simp only[putL]
  rw[← this]
  unfold putC
  simp only[List.length_cons,Nat.zero_add,List.take_zero,List.nil_append,Nat.add_le_add_iff_right]
  split<;>simp
 | n+1,c :: cs,x :: r,_=>by
  have:=putC_L n (c :: cs) r (by simp)
  simp only[putL]
  rw[← this]
  unfold putC
  simp only[List.length_cons]
  by_cases h:n+(cs.length+1)≤r.length
  ·rw[if_pos h,if_pos (by omega)]
   simp [show n+1+(cs.length+1)=n+(cs.length+1)+1 by omega]
  ·rw[if_neg h,if_neg (by omega)];rfl
@[go_sem] theorem putC_eqL (n:Nat) (c:AV) (cs cells:List AV):putC n (c :: cs) cells=putL n (c :: cs) cells:=putC_L _ _ _ (by simp)
@[go_sem] theorem putL_nil (n:Nat) (cells:List AV):putL n [] cells=some cells:=by cases n<;>simp [putL]
@[go_sem] theorem putL_z (c x:AV) (cs r:List AV):putL 0 (c :: cs) (x :: r)=(putL 0 cs r).map fun t=>c :: t:=(rfl)
@[go_sem] theorem putL_s (n:Nat) (c x:AV) (cs r:List AV):putL (n+1) (c :: cs) (x :: r)=(putL n (c :: cs) r).map fun t=>x :: t:=(rfl)
@[go_sem] theorem putL_s1 (c x:AV) (cs r:List AV):putL 1 (c :: cs) (x :: r)=(putL 0 (c :: cs) r).map fun t=>x :: t:=(rfl)
@[go_sem] theorem putL_s2 (c x:AV) (cs r:List AV):putL 2 (c :: cs) (x :: r)=(putL 1 (c :: cs) r).map fun t=>x :: t:=(rfl)
@[go_sem] theorem putL_s3 (c x:AV) (cs r:List AV):putL 3 (c :: cs) (x :: r)=(putL 2 (c :: cs) r).map fun t=>x :: t:=(rfl)
@[go_sem] theorem putL_s4 (c x:AV) (cs r:List AV):putL 4 (c :: cs) (x :: r)=(putL 3 (c :: cs) r).map fun t=>x :: t:=(rfl)
@[go_sem] theorem putL_s5 (c x:AV) (cs r:List AV):putL 5 (c :: cs) (x :: r)=(putL 4 (c :: cs) r).map fun t=>x :: t:=(rfl)
@[go_sem] theorem putL_s6 (c x:AV) (cs r:List AV):putL 6 (c :: cs) (x :: r)=(putL 5 (c :: cs) r).map fun t=>x :: t:=(rfl)
@[go_sem] theorem putL_s7 (c x:AV) (cs r:List AV):putL 7 (c :: cs) (x :: r)=(putL 6 (c :: cs) r).map fun t=>x :: t:=(rfl)
@[go_sem] theorem putL_s8 (c x:AV) (cs r:List AV):putL 8 (c :: cs) (x :: r)=(putL 7 (c :: cs) r).map fun t=>x :: t:=(rfl)
def demO:Own→Own
 | .own=>.no
 | o=>o
@[go_sem] theorem demO_own:demO .own=.no:=(rfl)
@[go_sem] theorem demO_no:demO .no=.no:=(rfl)
@[go_sem] theorem demO_full:demO .full=.full:=(rfl)
theorem demV_sl (o:Own) (z:Nat) (x:List (List AV)):demV (.sl o z x)=.sl (demO o) z x:=by cases o<;>rfl
def mdK (o:Own):Nat→Own
 | 0=>o
 | _+1=>.own
@[go_sem] theorem mdK_own (k:Nat):mdK .own k=.own:=by cases k<;>rfl
@[go_sem] theorem mdK_zero (o:Own):mdK o 0=o:=(rfl)
@[go_sem] theorem mdK_succ (o:Own) (k:Nat):mdK o (k+1)=.own:=(rfl)
theorem natOf_pos {n:Int} (h:0≤n):natOf n=some n.toNat:=by simp [natOf,h]
@[go_sem] theorem slcA_hi (md:Own) (z:Nat) (x:List (List AV)) (k:IntKind) (n:Int) (h:0≤n) (h2:n≤(x.length:Int)):sliceA false z (.sl md z x) none (some (.int k n))=some (.sl .no z (x.take n.toNat)):=by
 simp only[sliceA,boundA,natOf_pos h]
 rw[if_pos ⟨by omega,by omega,.inl trivial⟩];simp
@[go_sem] theorem slcA_lo (md:Own) (z:Nat) (x:List (List AV)) (k:IntKind) (n:Int) (h:0≤n) (h2:n≤(x.length:Int)):sliceA false z (.sl md z x) (some (.int k n)) none=some (.sl .no z (x.drop n.toNat)):=by
 simp only[sliceA,boundA,natOf_pos h]
 rw[if_pos ⟨by omega,by omega,.inl trivial⟩];simp
@[go_sem] theorem slcA_both (md:Own) (z:Nat) (x:List (List AV)) (k k':IntKind) (n j:Int) (h:0≤n) (h1:n≤j) (h2:j≤(x.length:Int)):sliceA false z (.sl md z x) (some (.int k n)) (some (.int k' j))=some (.sl .no z ((x.take j.toNat).drop n.toNat)):=by
 simp only[sliceA,boundA,natOf_pos h,natOf_pos (Int.le_trans h h1)]
 rw[if_pos ⟨by omega,by omega,.inl trivial⟩]
@[go_sem] theorem slcA_all (md:Own) (z:Nat) (x:List (List AV)):sliceA false z (.sl md z x) none none=some (.sl .no z x):=by
 simp [sliceA,boundA]
@[go_sem] theorem slcS_hi (z:Nat) (x:List UInt8) (k:IntKind) (n:Int) (h:0≤n) (h2:n≤(x.length:Int)):sliceA true z (.str x) none (some (.int k n))=some (.str (x.take n.toNat)):=by
 simp only[sliceA,boundA,natOf_pos h]
 rw[if_pos ⟨by omega,by omega⟩];simp
@[go_sem] theorem slcS_lo (z:Nat) (x:List UInt8) (k:IntKind) (n:Int) (h:0≤n) (h2:n≤(x.length:Int)):sliceA true z (.str x) (some (.int k n)) none=some (.str (x.drop n.toNat)):=by
 simp only[sliceA,boundA,natOf_pos h]
 rw[if_pos ⟨by omega,by omega⟩];simp
@[go_sem] theorem slcS_both (z:Nat) (x:List UInt8) (k k':IntKind) (n j:Int) (h:0≤n) (h1:n≤j) (h2:j≤(x.length:Int)):sliceA true z (.str x) (some (.int k n)) (some (.int k' j))=some (.str ((x.take j.toNat).drop n.toNat)):=by
 simp only[sliceA,boundA,natOf_pos h,natOf_pos (Int.le_trans h h1)]
 rw[if_pos ⟨by omega,by omega⟩]
@[go_sem] theorem slcO_hi (z o off m:Nat) (k:IntKind) (n:Int) (h:0≤n) (h2:n≤(m:Int)):sliceA false z (.ss o off m z) none (some (.int k n))=some (.ss o off n.toNat z):=by
 simp only[sliceA,boundA,natOf_pos h]
 rw[if_pos ⟨by omega,by omega,trivial⟩];simp
@[go_sem] theorem slcO_lo (z o off m:Nat) (k:IntKind) (n:Int) (h:0≤n) (h2:n≤(m:Int)):sliceA false z (.ss o off m z) (some (.int k n)) none=if n=0∨n < m then some (.ss o (off+n.toNat*z) (m - n.toNat) z) else some (.sl .no z []):=by
 simp only[sliceA,boundA,natOf_pos h]
 rw[if_pos ⟨by omega,by omega,trivial⟩]
 by_cases hc:n=0∨n < m
 ·rw[if_pos hc,if_pos (by omega)]
 ·rw[if_neg hc,if_neg (by omega)]
@[go_sem] theorem slcO_all (z o off m:Nat):sliceA false z (.ss o off m z) none none=some (.ss o off m z):=by
 simp [sliceA,boundA]
theorem w64 {n:Int} (h1:-9223372036854775808≤n) (h2:n≤9223372036854775807):IntKind.i64.wrap n=n:=IntWalk.i64_in n ⟨h1,h2⟩
theorem wI {i:Nat} (h:i≤4611686018427387904):IntKind.i64.wrap ((i:Int)+1)=((i+1:Nat):Int):=by rw[w64 (by omega) (by omega)];rfl
end Go.Av
namespace Go.Av
variable [Gtab]
open Go.ChangeShapes Go.WideShapes Go.ChangeAt Go.RowKit
section
variable {H:Type} {enc:TypeId × Value→H} {P:Program}
theorem trodAll_below {W W':World} {sp:Nat→Bool} (hl:laidOutB P=true) (hb:Below W.heap.size W W') :
  ∀ {ts:List TypeId} {vs:List Value} {ds:List (DataW H)} {ps:List MemPlace},(ts.all fun t=>P.readableRec t && decide (t < P.types.size))=true →
  DataW.TrodAll enc P W 0 (fun _=>true) true ts vs ds ps→(∀ p∈ps,p.block < W.heap.size)→(∀ p∈ps,sp p.block=true)→DataW.TrodAll enc P W' 0 sp true ts vs ds ps
 | [],_,_,_,_,h,_,_=>by
  obtain⟨rfl,rfl,rfl⟩:=trodAll_nil h
  exact trodAll_mk0
 | t :: ts,_,_,_,ha,h,hlt,hs=>by
  obtain⟨v,vs,d,ds,p,q,rfl,rfl,rfl,h1,h2⟩:=trodAll_cons h
  simp only[List.all_cons,Bool.and_eq_true,decide_eq_true_eq] at ha
  refine⟨p,q,?_,?_,rfl⟩
  ·exact WideElems.Trod_stays hl ha.1.1 ha.1.2 h1 (fun x hx=>hb.same (hlt x (by simp [hx]))) (fun x hx=>hs x (by simp [hx]))
  ·exact trodAll_below hl hb ha.2 h2 (fun x hx=>hlt x (by simp [hx])) (fun x hx=>hs x (by simp [hx]))
theorem post_below {f:Func} {s:ChangeSpec} {apart fresh handsOn again:Bool} {W W':World} {args:Array Value} {v:Value} {ds gs:List (DataW H)} {before pa pv:List MemPlace}
  (hW:DataW.Whole enc P f.params.toList s.vars apart W args.toList ds gs before)
  (hres:∀ (b:Nat) (sp:Nat→Bool) (hd:Bool),DataW.TrodAll enc P W' b sp hd f.resultTypes.toList (v.resultList f.resultTypes.size) (s.fn H (ds++gs)).results [])
  (hargs:∀ sp:Nat→Bool,(∀ p∈before,sp p.block=true)→DataW.TrodAll enc P W' 0 sp true f.params.toList args.toList (s.fn H (ds++gs)).args pa)
  (hvars:∀ sp:Nat→Bool,(∀ p∈before,sp p.block=true)→DataW.TrodVars enc P W' sp s.vars (s.fn H (ds++gs)).vars pv)
  (hps:before=pa++pv) (hb:Below W.heap.size W W')
  (hok:∀ (j:Nat) (t:TypeId) (r:Value),f.resultTypes[j]?=some t→(v.resultList f.resultTypes.size)[j]?=some r→Value.okWide P W' .any 0 t r) :
  s.post enc P f apart fresh handsOn again W args v W':=by
 have hold:∀ p∈before,(fun b=>decide (b < W.heap.size)) p.block=true:=fun p hp=>by simpa using hW.lt p hp
 refine⟨ds,gs,before,[],pa,pv,hW,hres _ _ _,hargs _ hold,hvars _ hold,World.keptBut_mono (fun p hp=>⟨hp,?_⟩) (hb.frame (·∈before)),fun _=>?_⟩
 ·rw[hps,List.mem_append] at hp
  exact Or.inr hp
 ·have hW2:=hW
  obtain⟨_,_,_,_,_,hz,hn⟩:=hW
  refine⟨hok,_,_,([]++pa)++pv,⟨[]++pa,pv,trodAll_append (hargs _ (fun _ _=>rfl)) (hres _ _ _),hvars _ (fun _ _=>rfl),rfl,?_,?_⟩,?_⟩
  ·intro b off hp
   have hp':MemPlace.cell b off∈before:=by rw[hps];simpa using hp
   rw[hb.frozen (p:=⟨b,off,none⟩) (hW2.lt _ hp')]
   exact hz b off hp'
  ·intro ha
   have:=hn ha
   rw[hps] at this
   simpa using this
  ·intro p hp _
   rw[hps]
   simpa using hp
theorem law_goal {f:Func} {n:Nat} {s:ChangeSpec} {W:World} {args:Array Value} {ds gs:List (DataW H)} {before:List MemPlace} {apart fresh handsOn again:Bool} {tb:TypeId} {G:Calls'} {avs:List AV}
  (hW:DataW.Whole enc P f.params.toList s.vars apart W args.toList ds gs before) (hv:s.vars=[]) (hl:laidOutB P=true)
  (hpar:(f.params.toList.all fun t=>P.readableRec t && decide (t < P.types.size))=true) (hrt:f.resultTypes=#[tb]) (htb:P.underlying tb=some .bool)
  (hG:Good P G) (hrep:RepL (RepT (cx0 (fun _=>0) (fun _=>0) (fun b _=>b < W.heap.size) W 0) noOwn) avs args.toList)
  (hg:G n avs []=some (.bool true,[])) (hfn:s.fn H ds={ results:=[.lit (.bool true)],args:=ds }) (hreal:Real P n) (hgl:GlobOK (fun b _=>b < W.heap.size) W) :
  Calls P n args W fun e W'=>∃ v,e=.returned v∧s.post enc P f apart fresh handsOn again W args v W':=by
 have hsem:SemCall P n avs [] (.bool true) []:=by
  rcases hG _ _ _ _ _ hg with h | hx
  ·exact h.2
  ·intro kd β bs S0 O0 w vs he hr
   obtain⟨v,w',_,_,_,hrn,_⟩:=hx kd β bs S0 O0 w vs he hr
   rw[callFunc_run hreal] at hrn
   cases hrn
 have hS:=hsem (fun _=>.stab) (fun _=>0) (fun _=>0) (fun b _=>b < W.heap.size) (fun _=>none) W args (entP (fun b n hb=>hb) hgl) hrep
 refine hS.mono ?_
 rintro e W' ⟨v,kd',β',bs',rfl,ha⟩
 have hr:=ha.rep
 have hv':v=.bool true:=by simpa [RepT,RepE,RepF] using hr
 subst hv'
 have hb:Below W.heap.size W W':=⟨ha.os,ha.tape,ha.output,ha.size,fun k hk=>ha.frame k hk (fun i hi=>by simp at hi) rfl⟩
 refine⟨_,rfl,?_⟩
 have hW2:=hW
 obtain⟨p,q,hA,hV,hpq,_,_⟩:=hW2
 rw[hv] at hV
 obtain⟨rfl,rfl⟩:=trodVars_none hV
 rw[List.append_nil] at hpq
 subst hpq
 have e1:(s.fn H (ds++[])).results=[.lit (.bool true)]:=by rw[List.append_nil,hfn]
 have e2:(s.fn H (ds++[])).args=ds:=by rw[List.append_nil,hfn]
 have e3:(s.fn H (ds++[])).vars=[]:=by rw[List.append_nil,hfn]
 have hsz:f.resultTypes.size=1:=by rw[hrt];rfl
 refine post_below (pa:=before) (pv:=[]) hW ?_ ?_ ?_ (by simp) hb ?_
 ·intro b sp hd
  rw[e1,hsz,hrt]
  exact trodAll_cons_mk (shut_bool htb true) trodAll_mk0
 ·intro sp hsp
  rw[e2]
  exact trodAll_below hl hb hpar hA (fun p hp=>hW.lt p hp) hsp
 ·intro sp _
  rw[hv,e3]
  exact rfl
 ·exact ok_one hrt rfl (okWide_bool_mk htb true)
variable {w:World} {base:Nat} {spare:Nat→Bool} {held:Bool}
theorem spot_of_cell {a:Addr} {u:Value} (h:w.cell? a=some u):a.spot=none:=by
 unfold World.cell? at h
 split at h
 ·split at h
  ·cases h
  ·rename_i hs;simpa using hs
 ·cases h
theorem rep_rows {S:Nat→Nat→Prop} {k:IntKind} (b:Nat):∀ (l:List Int) (o:Nat),(∀ i,i < l.length→S b (o+i)∧w.cell? ⟨b,o+i,none⟩=some (.int k (l.getD i 0)))→RepR S w 1 (l.map fun x=>[.int k x]) b o
 | [],o,_=>by simp [RepR]
 | x :: l,o,h=>by
  have h0:=h 0 (by simp)
  simp only[List.map_cons,RepR,RepC,List.length_cons,List.length_nil,Nat.zero_add,and_true,true_and]
  refine⟨⟨h0.1,_,h0.2,rfl⟩,?_⟩
  exact rep_rows b l (o+1) fun i hi=>by
   have:=h (i+1) (by simp;omega)
   rw[show o+1+i=o+(i+1) by omega]
   simpa using this
theorem rep_ints {r:Reach} {b0 n:Nat} {t e:TypeId} {k:IntKind} {v:Value} {d:DataW H} {ps:List MemPlace} {ow:Value→Nat→Nat→Prop} (ht:P.underlying t=some (.slice e)) (he:P.underlying e=some (.int k)) (hc:P.cellsOf e=1)
  (hval:Value.okWide P w r b0 t v) (hd:DataW.Trod enc P w base spare held t v d ps) :
  ∃ l:List Int,RepT (cx0 (fun _=>0) (fun _=>0) (fun b _=>b < w.heap.size) w n) ow (.sl .no 1 (l.map fun x=>[.int k x])) v:=by
 obtain⟨a0,len,cap,rfl⟩:=okWide_slice ht hval
 obtain⟨fuel,hf⟩:=hd
 rcases open_ints ht he hc hf with ⟨hcs,hx⟩ | ⟨a,len',cap',zs,hcs,_,hl,hm,hz,hx,hcell,hwz⟩
 ·simp [Value.cells] at hcs
  obtain⟨rfl,rfl,rfl⟩:=hcs
  refine⟨[],?_⟩
  simp only[RepT,RepE,RepF]
  exact⟨none,0,rfl,Nat.le_refl _,by simp,by simp,.inl rfl⟩
 ·simp [Value.cells] at hcs
  obtain⟨rfl,rfl,rfl⟩:=hcs
  have hlen:len≤zs.length:=by rw[hz];split<;>omega
  refine⟨zs.take len,?_⟩
  simp only[RepT,RepE,RepF]
  have hl2:((zs.take len).map fun x=>([.int k x]:List AV)).length=len:=by simp;omega
  refine⟨some a,cap,by rw[hl2],by rw[hl2];omega,by simp,by simp,?_⟩
  by_cases h0:len=0
  ·left;subst h0;simp
  ·right
   have c0:=hcell 0 (by omega)
   have hsp:a.spot=none:=spot_of_cell (by simpa [Addr.add] using c0)
   obtain⟨b,o,sp⟩:=a
   simp only at hsp
   subst hsp
   refine⟨b,o,rfl,rep_rows b _ _ fun i hi=>?_⟩
   have hi':i < len:=by simpa [Nat.lt_min] using (show i < (zs.take len).length from hi) |> fun h=>by simp at h;omega
   have ci:=hcell i (by omega)
   have e1:(⟨b,o,none⟩:Addr).add i=⟨b,o+i,none⟩:=by
    unfold Addr.add;split
    ·rename_i h;subst h;rfl
    ·rfl
   rw[e1] at ci
   refine⟨World.block_lt_of_cell? w _ ci,?_⟩
   show w.cell? _=_
   rw[ci]
   simp [List.getD_eq_getElem?_getD,hi']
theorem rep_int {r:Reach} {b0 n:Nat} {t:TypeId} {k:IntKind} {v:Value} {d:DataW H} {ps:List MemPlace} {ow:Value→Nat→Nat→Prop} (ht:P.underlying t=some (.int k))
  (hval:Value.okWide P w r b0 t v) (hd:DataW.Trod enc P w base spare held t v d ps) :
  ∃ x:Int,(Lit.int k x).wf=true∧RepT (cx0 (fun _=>0) (fun _=>0) (fun b _=>b < w.heap.size) w n) ow (.int k x) v:=by
 obtain⟨x,rfl,_,_,hw⟩:=open_int ht hval hd
 exact⟨x,hw,by simp [RepT,RepE,RepF]⟩
theorem rep_bool {r:Reach} {b0 n:Nat} {t:TypeId} {v:Value} {d:DataW H} {ps:List MemPlace} {ow:Value→Nat→Nat→Prop} (ht:P.underlying t=some .bool)
  (hval:Value.okWide P w r b0 t v) (hd:DataW.Trod enc P w base spare held t v d ps) :
  ∃ x:Bool,RepT (cx0 (fun _=>0) (fun _=>0) (fun b _=>b < w.heap.size) w n) ow (.bool x) v:=by
 obtain⟨x,rfl,_⟩:=open_bool ht hval hd
 exact⟨x,by simp [RepT,RepE,RepF]⟩
theorem rep_int3 {r:Reach} {b0 n:Nat} {t:TypeId} {f0 f1 f2:Field} {k0 k1 k2:IntKind} {v:Value} {d:DataW H} {ps:List MemPlace} {ow:Value→Nat→Nat→Prop} (hs:P.underlying t=some (.struct #[f0,f1,f2])) (hone:Go.Deep.oneCellFields P #[f0,f1,f2]=true) (hC:P.cellsOf t=3)
  (h0:P.underlying f0.type=some (.int k0)) (h1:P.underlying f1.type=some (.int k1)) (h2:P.underlying f2.type=some (.int k2))
  (hval:Value.okWide P w r b0 t v) (hd:DataW.Trod enc P w base spare held t v d ps) :
  ∃ x y z:Int,RepT (cx0 (fun _=>0) (fun _=>0) (fun b _=>b < w.heap.size) w n) ow (.agg [.int k0 x,.int k1 y,.int k2 z]) v:=by
 obtain⟨v0,v1,v2,y0,y1,y2,m,rfl,_,_,a0,a1,a2⟩:=Go.Joins.open_agg3 hs hone hC hval hd
 obtain⟨x,e0,_⟩:=DataW.trod_int h0 a0
 obtain⟨y,e1,_⟩:=DataW.trod_int h1 a1
 obtain⟨z,e2,_⟩:=DataW.trod_int h2 a2
 simp at e0 e1 e2
 subst e0 e1 e2
 exact⟨x,y,z,by simp [RepT,RepE,RepL,RepF]⟩
end
end Go.Av
namespace Go.Av
variable [Gtab]
open Go.RowKit
section
variable {P:Program}
theorem fun_wp {f:FuncId} {fn:Func} {C:Code} {nargs:Nat} {keep:Bool} {res:List ARes} (hfn:P.funcs[f]?=some fn) (hC:fn.body=some C) (hnt:nargs≤fn.ntmps) (hres:okRes P fn.results.toList res=true)
  (hname:(fn.name == "runtime.NumGoroutine")=false) {args:List AV} {sh sh':List (List AV)} {r:AV} (hlen:args.length=nargs)
  (hwp:∀ (E:Env) (g:Gh) (a:Act) (w:World),E.nt=fn.ntmps→E.n0=sh.length→Sim E g (initA args sh) a w →
   C.wp P (fun e a w=>(e=.ret∨e=.normal)∧∃ σ,Post E σ a w∧finA ⟨nargs,keep,.skip,res⟩ sh (some (.ret,σ))=some (r,sh')) a w) :
  Real P f∧SemCall P f args sh r sh':=by
 refine⟨⟨fn,hfn,by rw[hC];rfl,hname⟩,?_⟩
 intro kd β bs S0 O0 w vs hent hargs
 obtain⟨⟨e1,e2⟩,e3,e4,e5,e6⟩:=hent
 have hsz:vs.size=nargs:=by have:=hargs.length;simp at this;omega
 let E:Env:={ w0:=w,S0:=S0,β0:=β,bs0:=bs,O0:=O0,D0:=fun j=>match sh[j]? with | some c=>isDead c | none=>false,n0:=sh.length,nt:=fn.ntmps }
 let g:Gh:={ β:=β,bs:=bs,lam:=fun _=>0,kd:=kd }
 have hSS:∀ b m,S0 b m→SS E g w b m:=fun b m hS=>.inl ⟨(e3 b m hS).1,hS⟩
 have hle0:Cx.le (cx0 β bs S0 w sh.length) (cx E g (initA args sh) w):=⟨fun b m hS=>⟨hSS b m hS,rfl⟩,Nat.le_refl _,fun _ _=>rfl,fun _ _=>rfl,fun s hs=>hs.elim⟩
 have hsim:Sim E g (initA args sh) { tmps:=vs++Array.replicate (fn.ntmps - vs.size) undef,defers:=[] } w:=by
  refine { size:=by show (vs++Array.replicate (fn.ntmps - vs.size) undef).size=fn.ntmps;simp;omega,defers:=rfl,slots:=?_,shr:=?_,shr0:=fun _ _=>⟨rfl,rfl⟩,shr1:=?_,dd:=?_,shrlt:=fun i hi=>(e2 i hi).1,shrk:=fun i hi=>(e2 i hi).2,loc:=fun s c hc=>by simp [initA] at hc,n0:=Nat.le_refl _,s0:=e3,o0:=e4,own0:=?_,os:=rfl,tape:=rfl,output:=rfl,hsize:=Nat.le_refl _,frame:=fun _ _ _ _=>rfl,sframe:=fun _ _ _=>rfl,gl:=e6 }
  ·intro t
   have h1:=args_get hargs (fn.ntmps - vs.size) t
   exact RepT.mono hle0 _ _ (fun _ _ _ h=>h.elim) h1
  ·intro i cells hi hd
   obtain⟨f1,f2⟩:=e1 i cells hi hd
   exact⟨f1,f2.mono hle0 rfl (fun _ _ _ _ _ h=>h)⟩
  ·intro i hi hn
   have hi':i < sh.length:=hi
   have hn':sh.length≤i:=hn
   omega
  ·intro i hi hd
   have hi':i < sh.length:=hi
   have hd':(match sh[i]? with | some c=>isDead c | none=>false)=true:=hd
   show sh[i]?=some dead
   rw[List.getElem?_eq_getElem hi'] at hd' ⊢
   rw[isDead_eq.1 hd']
  ·intro b t k hk
   rcases Nat.lt_or_ge b w.heap.size with hb | hb
   ·exact .inr (e5 b t k hk hb)
   ·exact .inl hb
 refine calls_of_wp hfn hC (Code.wp_mono ?_ (hwp E g _ w rfl rfl hsim))
 rintro e a1 w1 ⟨hen,σ,⟨g1,hs1⟩,h⟩
 unfold finA at h
 split at h
 ·cases h
 ·rename_i e' σ' hx hex
  simp only[Option.some.injEq,Prod.mk.injEq] at hex
  obtain⟨_,rfl⟩:=hex
  split at h
  case h_2=>cases h
  rename_i xs hxs
  unfold packA at h
  split at h
  case isFalse=>cases h
  rename_i hall
  obtain⟨hall,hkeep⟩:=hall
  simp only[Option.some.injEq,Prod.mk.injEq] at h
  obtain⟨hr,hsh'⟩:=h
  have hn0:sh.length≤σ.sh.length:=hs1.n0
  have hlen':sh'.length=if keep then σ.sh.length else sh.length:=by
   rw[← hsh'];split
   ·rfl
   ·simp;omega
  have hshl:sh'.length≤σ.sh.length∧sh.length≤sh'.length:=by
   rw[hlen'];split<;>omega
  have hshget:∀ (i:Nat),i < sh'.length→sh'[i]?=σ.sh[i]?:=by
   intro i hi
   rw[← hsh'] at hi ⊢
   split
   ·rfl
   ·rename_i hk
    rw[if_neg hk] at hi
    rw[List.getElem?_take_of_lt (by simp at hi;omega)]
  have hβ0:∀ i,i < E.n0→E.β0 i < E.w0.heap.size:=fun i hi=>(e2 i hi).1
  have hD:∀ (j:Nat) (x:List AV),sh[j]?=some x→isDead x=true→E.D0 j=true:=by
   intro j x hj hx
   show (match sh[j]? with | some c=>isDead c | none=>false)=true
   rw[hj];exact hx
  obtain⟨us,hu1,hu2,hu3⟩:=results_sound hs1 (sh0:=sh) (k:=keep) (n:=sh'.length) hlen' rfl hβ0 hD hres hxs hall
  have hrun:=results_run (fn:=fn) hu1
  have hm1:∀ b m,SS E g1 w1 b m→S1 S0 w w1 (kdF g1.kd g1.β sh'.length) b m:=SS.out hs1
  have hfin:∃ v kd' β' bs',Ending.returned (packV us)=Ending.returned v∧After S0 O0 β bs w sh sh' r v kd' β' bs' w1:=by
   refine⟨_,kdF g1.kd g1.β sh'.length,g1.β,g1.bs,rfl,?_⟩
   refine { same:=fun i hi=>hs1.shr0 i hi,len:=hshl.2,shok:=⟨fun i cells hi hd=>?_,fun i hi=>?_⟩,rep:=?_,os:=hs1.os,tape:=hs1.tape,output:=hs1.output,size:=hs1.hsize,frame:=fun b hb hnb ho=>hs1.frame b hb hnb ho,sframe:=fun b o hS=>hs1.sframe b o hS,o0:=fun b k hk=>?_,own0:=fun b t k hk=>hs1.own0 b t k (kdF_own.1 hk),new:=fun i h1 h2=>?_,deads:=fun i hi=>?_ }
   ·have hil:=(List.getElem?_eq_some_iff.1 hi).1
    have hi':σ.sh[i]?=some cells:=by rw[← hshget i hil];exact hi
    obtain⟨f1,f2,f3⟩:=hs1.shr i cells hi' hd
    refine⟨by rw[kdF_shr hil];exact f1,?_⟩
    have how:∀ j z v m,OwnAt g1.kd w1 (.cell i j) v z m→OwnAt (kdF g1.kd g1.β sh'.length) w1 (.cell i j) v z m:=by
     rintro j z v m ⟨A,c,q1,q2⟩
     refine⟨A,c,q1,?_⟩
     rcases q2 with q2 | ⟨b,ar,tt,q3,q4,q5,q6⟩
     ·exact .inl q2
     ·exact .inr ⟨b,ar,tt,q3,q4,q5,kdF_own.2 q6⟩
    refine⟨fun hbk=>?_,?_⟩
    ·obtain⟨arr,ty,fz,q1,q2,q3,q4⟩:=f2 hbk
     refine⟨arr,ty,fz,q1,q2,q3,fun j x hx=>?_⟩
     obtain⟨v,q5,q6⟩:=q4 j x hx
     refine⟨v,q5,?_⟩
     by_cases hk:keep=true
     ·have hln:sh'.length=σ.sh.length:=by rw[hlen',if_pos hk]
      have q7:=(RepC'_noloc (c:=cx E g1 σ w1)).2 q6
      refine RepC'.mono (c:=(cx E g1 σ w1).noloc) (c':=cx0 g1.β g1.bs (S1 S0 w w1 (kdF g1.kd g1.β sh'.length)) w1 sh'.length) ⟨fun b m hS=>⟨hm1 b m hS,rfl⟩,by show σ.sh.length≤sh'.length;omega,fun _ _=>rfl,fun _ _=>rfl,fun s hs=>hs.elim⟩ _ _ (fun z l _=>how _ _ _ _) q7
     ·have hall2:((σ.sh.take sh.length).all fun c=>c.all (refLt sh.length))=true:=by
       rcases hkeep with hk' | hk'
       ·exact absurd hk' hk
       ·exact hk'
      have hln:sh'.length=sh.length:=by rw[hlen',if_neg hk]
      refine refLt_mono (c:=cx E g1 σ w1) (n:=sh.length) (fun b m hS=>⟨hm1 b m hS,rfl⟩) rfl rfl hln ?_ (fun z l _=>how _ _ _ _) q6
      rw[List.all_eq_true] at hall2
      have h8:=hall2 cells (List.mem_iff_getElem?.2 ⟨i,by rw[List.getElem?_take_of_lt (by omega)];exact hi'⟩)
      rw[List.all_eq_true] at h8
      exact h8 x (List.mem_iff_getElem?.2 ⟨j,hx⟩)
    ·unfold ObjM at f3 ⊢
     split
     ·obtain⟨es,cl,q1,q2⟩:=f3
      exact⟨es,cl,q1,RepM_mono' (c:=cx E g1 σ w1) (c':=cx0 g1.β g1.bs (S1 S0 w w1 (kdF g1.kd g1.β sh'.length)) w1 sh'.length) (fun b m hS=>⟨hm1 b m hS,rfl⟩) q2⟩
     ·trivial
   ·obtain⟨j,hj⟩:=hs1.shrk i (by omega)
    exact⟨hs1.shrlt i (by omega),j,by rw[kdF_shr hi];exact hj⟩
   ·rw[← hr]
    match xs,us,hu2,hu3 with
    | [x],[v],hu2,hu3=>exact RepE.topT (hu3 x (by simp)) hu2.1
    | [],[],hu2,_=>exact⟨#[],rfl,trivial⟩
    | x :: y :: xs,v :: u :: us,hu2,_=>exact⟨(v :: u :: us).toArray,rfl,hu2⟩
    | [],_ :: _,hu2,_=>simp [RepL] at hu2
    | _ :: _,[],hu2,_=>simp [RepL] at hu2
    | [_],_ :: _ :: _,hu2,_=>simp [RepL] at hu2
    | _ :: _ :: _,[_],hu2,_=>simp [RepL] at hu2
   ·obtain⟨_,_,t,k',q1,q2⟩:=hs1.o0 b k hk
    exact⟨t,k',kdF_own.2 q1,q2⟩
   ·rcases hs1.shr1 i (by omega) h1 with q | ⟨j,q1,q2,q3,q4⟩
    ·exact .inl q
    ·have hjl:j < sh.length:=q1
     refine .inr ⟨j,q1,q2,fun hjd=>?_,?_⟩
     ·have:=hD j _ hjd (isDead_eq.2 rfl)
      rw[q3] at this;cases this
     ·rw[hshget j (by omega)];exact q4
   ·have hil:=(List.getElem?_eq_some_iff.1 hi).1
    rw[hshget i (by omega)]
    exact hs1.dd i hil (hD i _ hi (isDead_eq.2 rfl))
  rcases hen with rfl | rfl
  ·exact⟨hs1.defers,_,hrun,hfin⟩
  ·exact⟨hs1.defers,_,hrun,hfin⟩
 ·cases h
noncomputable abbrev GN:Calls':=Gx (fun _ _ _=>none) (fun _=>none)
theorem execX_sound (hmix:P.follows .mixedOrders=true) {E:Env} {a:Act} {w:World} {σ σ':AS} {C:Code} {c:ACode} {e:AX} {Q:Exit→Act→World→Prop} (hok:okCode P E.nt C c=true) (hx:execX GN c σ=some (e,σ')) (hp:Post E σ a w)
  (hQ:∀ a w,Post E σ' a w→Q (xp e) a w):C.wp P Q a w:=by
 obtain⟨n,hn⟩:=exec_lim c σ _ hx
 have hG:Good P (funA (fun _ _ _=>none) (fun _=>none) n):=funs_sound hmix (fun _ _ _ _ _ h=>by cases h) (fun _ _ h=>by cases h) n
 exact exec_sound hmix hG n C c σ σ' e a w Q hok (hn n (Nat.le_refl _)) hp hQ
theorem wpl_step {E:Env} {G:Calls'} {ops:Array Oper} {a:Act} {w:World} {σ σ1:AS} {o:Oper} {ao:AOper} {os:List Oper} {Q:Exit→Act→World→Prop} (hG:Good P G) (hp:Post E σ a w) (hok:okO P E.nt ops o ao=true) (h1:stepA G ao σ=some σ1)
  (hk:∀ a w,Post E σ1 a w→wpList P ops Q os a w):wpList P ops Q (o :: os) a w:=by
 obtain⟨g,hs⟩:=hp
 have hst:=step_sound (Q:=Q) hG hs hok h1
 unfold wpList
 split
 ·rename_i hw
  rw[if_pos hw] at hst
  exact .inl (Oper.wp_mono (fun a w hp=>hk a w hp) hst)
 ·rename_i hw
  rw[if_neg hw] at hst
  exact hk _ _ hst
def cloneA0 (z:Nat):ACode:=.reg false [] [⟨some 2,.mv,[.c (.sl .full z [])],.none,none,none⟩] []
def cloneA3 (z bytes:Nat) (zero:List AV):ACode:=.seq (.reg false [] [
 ⟨some 5,.mks z zero 0 [],[],.none,none,none⟩,
 ⟨some 6,.mv,[.t 0],.none,none,none⟩,
 ⟨some 7,.appS false z bytes,[.t 5,.t 6],.sh,none,none⟩,
 ⟨some 2,.mvo,[.t 7],.none,some 7,none⟩] []) .ret
def isNilEq (P:Program) (x:Operand):Op→Bool
 | .binOp .eql t y (.const (.slice none 0 0)) _=>(match x,y with | .tmp i,.tmp j=>i == j | _,_=>false) && (match P.underlying t with | some (.slice _)=>true | _=>false)
 | _=>false
def okClone (P:Program) (f:FuncId) (z bytes:Nat) (zero:List AV):Bool:=
 match P.funcs[f]? with
 | some fn=>(match fn.body with
  | some (.seq c0 (.seq (.seq (.region _ ops false) (.cond (.tmp 4) x .skip)) rest)) =>
   okCode P fn.ntmps c0 (cloneA0 z) && (match ops.toList with
     | [o3,o4]=>okO P fn.ntmps ops o3 ⟨some 3,.mv,[.t 0],.none,none,none⟩ && o4.dst == some 4 && o4.guard.isNone && isNilEq P (.tmp 3) o4.op
     | _=>false) && okCode P fn.ntmps x (.seq (cloneA0 z) .ret) && okCode P fn.ntmps rest (cloneA3 z bytes zero)
  | _=>false) && decide (8≤fn.ntmps) && okRes P fn.results.toList [.tmpD 2] && !(fn.name == "runtime.NumGoroutine")
 | none=>false
theorem nilEq_sound {E:Env} {g:Gh} {σ:AS} {a:Act} {w:World} {o:Oper} {Q:Exit→Act→World→Prop} {x:Nat} (hs:Sim E g σ a w) (hd:∀ d,o.dst=some d→d < E.nt) (hop:isNilEq P (.tmp x) o.op=true) {A:Option Addr} {n c:Nat}
  (hx:a.eval (.tmp x)=.slice A n c):o.wp P a w (Post E (put σ o.dst (.bool A.isNone))) Q:=by
 unfold isNilEq at hop
 split at hop
 ·rename_i t y t' hop'
  simp only[Bool.and_eq_true] at hop
  obtain⟨h1,h2⟩:=hop
  cases y<;>simp at h1
  subst h1
  split at h2
  ·rename_i e he
   refine plain_fin hs hd (val:=.bool A.isNone) ?_ rfl rfl
   have hq:∀ w,(Op.equal t (.slice A n c) (.slice none 0 0)).run P w=.ok A.isNone w:=by
    intro w
    have h:∀ d:Nat,(Op.equalIn (d+1) t (.slice A n c) (.slice none 0 0)).run P w=.ok A.isNone w:=fun d=>by
     simp only[Op.equalIn]
     cases A<;>simp [run_underlying he]
    exact h _
   have hx':a.eval (.tmp x)=.slice A n c:=hx
   have hc:a.eval (.const (.slice none 0 0))=.slice none 0 0:=rfl
   have hg:(eqGuard .eql t (.tmp x) (.const (.slice none 0 0)) (.slice A n c) (.slice none 0 0)).run P w=.ok () w:=rfl
   have hb:(binOp .eql t (.slice A n c) (.slice none 0 0)).run P w=.ok (.bool A.isNone) w:=by
    simp only[binOp]
    simp [hq]
   simp [execOp,hop',hx',hc,hg,hb]
  ·cases h2
 ·cases hop
def cloneR (z:Nat) (l:List (List AV)) (sh:List (List AV)):AV × List (List AV):=
 match l with
 | []=>(.sl .full z [],sh)
 | r :: l=>(.ss sh.length 0 (l.length+1) z,sh++[(r :: l).flatten])
theorem mks0 (z:Nat) (zero:List AV):mksA z zero 0 [] []=some (.sl .full z []):=rfl
theorem appSA_nn (z bytes z':Nat) (sh:List (List AV)):appSA z bytes sh (some []) (.sl .full z' [])=some (.sl .full z [],sh):=by simp [appSA]
theorem rowsS_nl (o:Own) (z z':Nat) (sh:List (List AV)):rowsS false z sh (.sl o z' [])=some []:=by simp [rowsS,rowsA]
theorem clone_sound (hmix:P.follows .mixedOrders=true) {f:FuncId} {z bytes:Nat} {zero:List AV} (hok:okClone P f z bytes zero=true) (hz:0 < z) {m:Own} {z':Nat} {l:List (List AV)} {sh:List (List AV)}
  (hzl:z'=z∨l=[]) (hb:appOK bytes l.length=true):Real P f∧SemCall P f [.sl m z' l] sh (cloneR z l sh).1 (cloneR z l sh).2:=by
 unfold okClone at hok
 split at hok
 case h_2=>cases hok
 rename_i fn hfn
 simp only[Bool.and_eq_true,decide_eq_true_eq] at hok
 obtain⟨⟨⟨hbody,hnt⟩,hres⟩,hname⟩:=hok
 split at hbody
 case h_2=>cases hbody
 rename_i c0 id ops x rest hC
 simp only[Bool.and_eq_true] at hbody
 obtain⟨⟨⟨h0,h1⟩,h2⟩,h3⟩:=hbody
 split at h1
 case h_2=>cases h1
 rename_i o3 o4 hops
 simp only[Bool.and_eq_true] at h1
 obtain⟨⟨⟨k1,k2⟩,k3⟩,k4⟩:=h1
 have k2':o4.dst=some 4:=by simpa using k2
 have k3':o4.guard=none:=by simpa using k3
 refine fun_wp (nargs:=1) (keep:=true) (res:=[.tmpD 2]) hfn hC (by omega) hres (by simpa using hname) rfl ?_
 intro E g a w hEt hn0 hs
 rw[← hEt] at h0 h2 h3 k1
 have hG:Good P (funA (fun _ _ _=>none) (fun _=>none) 0):=fun _ _ _ _ _ h=>by cases h
 rw[initA_ST] at hs
 refine wp_seq ?_
 have e0:execX GN (cloneA0 z) (ST (argl 0 [.sl m z' l]) [] sh)=some (.norm,ST [(0,.sl m z' l),(2,.sl .full z [])] [] sh):=by
  simp only[cloneA0,argl,go_sem,List.set_cons_zero,List.set_cons_succ,List.take_succ_cons,and_false,false_and,and_true,true_and,Nat.reduceAdd,Nat.reduceEqDiff,Nat.reduceLT,↓reduceIte,decide_eq_true_eq,List.take_nil,beq_self_eq_true,bne_self_eq_false,List.take_zero,List.map_cons,List.map_nil,Int.reduceNeg,Bool.and_true,and_self,Bool.true_and,Bool.and_self,ne_eq,not_true_eq_false,decide_false,decide_true,Bool.false_eq_true,Nat.reduceAdd,Option.map_some,Option.map_none,Option.bind_some,Option.bind_none,List.length_nil,List.length_cons,List.append_nil,Bool.and_false,w64,demV_sl,Int.cast_ofNat_Int,Int.reduceLT,Int.reduceAdd,Int.reduceSub,Int.reduceLE,Int.reduceEq,Int.reduceToNat,Int.toNat_natCast,Nat.reduceSub,Nat.reduceMul,Nat.reduceLeDiff,Nat.zero_add,Int.zero_add,not_false_eq_true,Bool.not_true,Bool.not_false,Bool.false_and,List.cons_append,List.nil_append]
 refine execX_sound hmix h0 e0 ⟨g,hs⟩ fun a1 w1 hp1=>?_
 refine wp_seq ?_
 refine wp_seq ?_
 refine wp_region_list ?_
 rw[hops]
 have e1:stepA (funA (fun _ _ _=>none) (fun _=>none) 0) ⟨some 3,.mv,[.t 0],.none,none,none⟩ (ST [(0,.sl m z' l),(2,.sl .full z [])] [] sh)=some (put (ST [(0,.sl m z' l),(2,.sl .full z [])] [] sh) (some 3) (demV (.sl m z' l))):=rfl
 have e1':put (ST [(0,.sl m z' l),(2,.sl .full z [])] [] sh) (some 3) (demV (.sl m z' l))=ST [(0,.sl m z' l),(2,.sl .full z []),(3,demV (.sl m z' l))] [] sh:=by
  simp only[put,ST,upd_look,setl]
  rfl
 rw[e1'] at e1
 refine wpl_step hG hp1 k1 e1 fun a2 w2 hp2=>?_
 obtain⟨g2,hs2⟩:=hp2
 have hr3:∃ A c,a2.eval (.tmp 3)=.slice A l.length c∧(l=[]∨A.isNone=false):=by
  obtain⟨A,c,q1,_,_,q4⟩:=hs2.rdSl (x:=.tmp 3) (r:=.t 3) (m:=match m with | .own=>.no | m=>m) (z:=z') (l:=l) (by simp [okR]) (by cases m<;>rfl)
  refine⟨A,c,q1,?_⟩
  rcases q4 with q4 | ⟨b,o,q4,_⟩
  ·exact .inl q4
  ·exact .inr (by rw[q4];rfl)
 obtain⟨A,c,q1,q2⟩:=hr3
 refine wpList_plain k3' fun K hK=>?_
 refine Oper.wp_mono ?_ (nilEq_sound hs2 (fun d hd=>by rw[k2'] at hd;injection hd with hd;rw[← hd,hEt];exact Nat.lt_of_lt_of_le (by decide) hnt) k4 q1)
 intro a3 w3 hp3
 rw[k2'] at hp3
 refine hK _ _ ?_
 show ((Code.cond (.tmp 4) x .skip).wp P _ _ _)
 have hp3':Post E (ST [(0,.sl m z' l),(2,.sl .full z []),(3,demV (.sl m z' l)),(4,.bool A.isNone)] [] sh) a3 w3:=by
  have:put (ST [(0,.sl m z' l),(2,.sl .full z []),(3,demV (.sl m z' l))] [] sh) (some 4) (.bool A.isNone)=ST [(0,.sl m z' l),(2,.sl .full z []),(3,demV (.sl m z' l)),(4,.bool A.isNone)] [] sh:=by
   simp only[put,ST,upd_look,setl]
   rfl
  rwa [← this]
 have hb4:a3.eval (.tmp 4)=.bool A.isNone:=by
  obtain⟨g3,hs3⟩:=hp3'
  exact hs3.rdBool (r:=.t 4) (by simp [okR]) rfl
 refine wp_cond hb4 ?_
 cases hA:A.isNone with
 | true =>
  have hl:l=[]:=by
   rcases q2 with q2 | q2
   ·exact q2
   ·rw[hA] at q2;cases q2
  subst hl
  rw[hA] at hp3'
  have e2:execX GN (.seq (cloneA0 z) .ret) (ST [(0,.sl m z' []),(2,.sl .full z []),(3,demV (.sl m z' [])),(4,.bool true)] [] sh)=some (.ret,ST [(0,.sl m z' []),(2,.sl .full z []),(3,demV (.sl m z' [])),(4,.bool true)] [] sh):=by
   simp only[cloneA0,go_sem,List.set_cons_zero,List.set_cons_succ,List.take_succ_cons,and_false,false_and,and_true,true_and,Nat.reduceAdd,Nat.reduceEqDiff,Nat.reduceLT,↓reduceIte,decide_eq_true_eq,List.take_nil,beq_self_eq_true,bne_self_eq_false,List.take_zero,List.map_cons,List.map_nil,Int.reduceNeg,Bool.and_true,and_self,Bool.true_and,Bool.and_self,ne_eq,not_true_eq_false,decide_false,decide_true,Bool.false_eq_true,Nat.reduceAdd,Option.map_some,Option.map_none,Option.bind_some,Option.bind_none,List.length_nil,List.length_cons,List.append_nil,Bool.and_false,w64,demV_sl,Int.cast_ofNat_Int,Int.reduceLT,Int.reduceAdd,Int.reduceSub,Int.reduceLE,Int.reduceEq,Int.reduceToNat,Int.toNat_natCast,Nat.reduceSub,Nat.reduceMul,Nat.reduceLeDiff,Nat.zero_add,Int.zero_add,not_false_eq_true,Bool.not_true,Bool.not_false,Bool.false_and,List.cons_append,List.nil_append]
  refine execX_sound hmix h2 e2 hp3' fun a4 w4 hp4=>?_
  exact⟨.inl rfl,_,hp4,by simp [finA,resultsA,resA,frzV,packA,outB,plainB,demV,ST,look,cloneR]⟩
 | false =>
  rw[hA] at hp3'
  refine wp_skip ?_
  cases l with
  | nil =>
   have e2:execX GN (cloneA3 z bytes zero) (ST [(0,.sl m z' []),(2,.sl .full z []),(3,demV (.sl m z' [])),(4,.bool false)] [] sh)=some (.ret,ST [(0,.sl m z' []),(2,.sl .full z []),(3,demV (.sl m z' [])),(4,.bool false),(5,.sl .full z []),(6,demV (.sl m z' [])),(7,.sl .full z [])] [] sh):=by
    simp only[cloneA3,mks0,appSA_nn,rowsS_nl,go_sem,List.set_cons_zero,List.set_cons_succ,List.take_succ_cons,and_false,false_and,and_true,true_and,Nat.reduceAdd,Nat.reduceEqDiff,Nat.reduceLT,↓reduceIte,decide_eq_true_eq,List.take_nil,beq_self_eq_true,bne_self_eq_false,List.take_zero,List.map_cons,List.map_nil,Int.reduceNeg,Bool.and_true,and_self,Bool.true_and,Bool.and_self,ne_eq,not_true_eq_false,decide_false,decide_true,Bool.false_eq_true,Nat.reduceAdd,Option.map_some,Option.map_none,Option.bind_some,Option.bind_none,List.length_nil,List.length_cons,List.append_nil,Bool.and_false,w64,demV_sl,Int.cast_ofNat_Int,Int.reduceLT,Int.reduceAdd,Int.reduceSub,Int.reduceLE,Int.reduceEq,Int.reduceToNat,Int.toNat_natCast,Nat.reduceSub,Nat.reduceMul,Nat.reduceLeDiff,Nat.zero_add,Int.zero_add,not_false_eq_true,Bool.not_true,Bool.not_false,Bool.false_and,List.cons_append,List.nil_append]
   refine execX_sound hmix h3 e2 hp3' fun a4 w4 hp4=>?_
   exact⟨.inl rfl,_,hp4,by simp [finA,resultsA,resA,frzV,packA,outB,plainB,demV,ST,look,cloneR]⟩
  | cons r l =>
   have hzz:z'=z:=by simpa using hzl
   subst hzz
   have hb':appOK bytes (l.length+1)=true:=hb
   have e2:execX GN (cloneA3 z' bytes zero) (ST [(0,.sl m z' (r :: l)),(2,.sl .full z' []),(3,demV (.sl m z' (r :: l))),(4,.bool false)] [] sh)=some (.ret,ST [(0,.sl m z' (r :: l)),(2,.ss sh.length 0 (l.length+1) z'),(3,demV (.sl m z' (r :: l))),(4,.bool false),(5,.sl .full z' []),(6,demV (.sl m z' (r :: l))),(7,.ss sh.length 0 (l.length+1) z')] [] (sh++[(r :: l).flatten])):=by
    cases m<;>simp only[cloneA3,mks0,appSA_nn,rowsS_nl,go_sem,List.set_cons_zero,List.set_cons_succ,List.take_succ_cons,and_false,false_and,and_true,true_and,Nat.reduceAdd,Nat.reduceEqDiff,Nat.reduceLT,↓reduceIte,decide_eq_true_eq,List.take_nil,beq_self_eq_true,bne_self_eq_false,List.take_zero,List.map_cons,List.map_nil,Int.reduceNeg,Bool.and_true,and_self,Bool.true_and,Bool.and_self,ne_eq,not_true_eq_false,decide_false,decide_true,Bool.false_eq_true,Nat.reduceAdd,Option.map_some,Option.map_none,Option.bind_some,Option.bind_none,List.length_nil,List.length_cons,List.append_nil,Bool.and_false,w64,demV_sl,Int.cast_ofNat_Int,Int.reduceLT,Int.reduceAdd,Int.reduceSub,Int.reduceLE,Int.reduceEq,Int.reduceToNat,Int.toNat_natCast,Nat.reduceSub,Nat.reduceMul,Nat.reduceLeDiff,Nat.zero_add,Int.zero_add,not_false_eq_true,Bool.not_true,Bool.not_false,Bool.false_and,List.cons_append,List.nil_append,hz,hb']
   refine execX_sound hmix h3 e2 hp3' fun a4 w4 hp4=>?_
   exact⟨.inl rfl,_,hp4,by simp [finA,resultsA,resA,frzV,packA,outB,plainB,demV,ST,look,cloneR]⟩
end
def cloneB (z bytes:Nat):List AV→List (List AV)→Option (AV × List (List AV))
 | [.sl _ z' l],sh=>if z'=z∧appOK bytes l.length=true then some (cloneR z l sh) else none
 | _,_=>none
theorem cloneB_sound {P:Program} (hmix:P.follows .mixedOrders=true) {f:FuncId} {z bytes:Nat} {zero:List AV} (hok:okClone P f z bytes zero=true) (hz:0 < z) {args:List AV} {sh sh':List (List AV)} {r:AV}
  (h:cloneB z bytes args sh=some (r,sh')):Real P f∧SemCall P f args sh r sh':=by
 unfold cloneB at h
 split at h
 ·rename_i m z' l
  split at h
  ·rename_i hc
   simp only[Option.some.injEq] at h
   have:=clone_sound (m:=m) (sh:=sh) hmix hok hz (.inl hc.1) hc.2
   rw[h] at this
   exact this
  ·cases h
 ·cases h
end Go.Av
namespace Go.Av
variable [Gtab]
open Go.RowKit
section
variable {P:Program}
theorem After.refl {sh:List (List AV)} {kd:Nat→BK} {β bs:Nat→Nat} {S0:Nat→Nat→Prop} {O0:Nat→Option Nat} {w:World} (h:EntOK sh kd β bs S0 O0 w) {r:AV} {v:Value} (hr:RepT (cx0 β bs (S1 S0 w w kd) w sh.length) noOwn r v) :
  After S0 O0 β bs w sh sh r v kd β bs w:=by
 obtain⟨⟨e1,e2⟩,e3,e4,e5,_⟩:=h
 have hle:Cx.le (cx0 β bs S0 w sh.length) (cx0 β bs (S1 S0 w w kd) w sh.length):=⟨fun b o hS=>⟨.inl hS,rfl⟩,Nat.le_refl _,fun _ _=>rfl,fun _ _=>rfl,fun s hs=>hs.elim⟩
 refine { same:=fun _ _=>⟨rfl,rfl⟩,len:=Nat.le_refl _,shok:=⟨fun i cells hi hd=>?_,e2⟩,rep:=hr,os:=rfl,tape:=rfl,output:=rfl,size:=Nat.le_refl _,frame:=fun _ _ _ _=>rfl,sframe:=fun _ _ _=>rfl,o0:=fun b k hk=>?_,own0:=fun b t k hk=>?_,new:=fun i h1 h2=>by omega,deads:=fun _ h=>h }
 ·obtain⟨f1,f2⟩:=e1 i cells hi hd
  exact⟨f1,f2.mono hle rfl (fun _ _ _ _ _ h=>h)⟩
 ·exact (e4 b k hk).2.2
 ·rcases Nat.lt_or_ge b w.heap.size with hb | hb
  ·exact .inr (e5 b t k hk hb)
  ·exact .inl hb
theorem run_overlaps_far (w:World) (tS tR e:TypeId) (ht:P.underlying tS=some (.slice e)) (size:Nat) (hz:∀ w,(Go.sizeOf e).run P w=.ok size w)
  (a b:Addr) (la ca lb cb:Nat) (hne:a.block≠b.block) (tA tB:TypeId) (kA kB:Nat)
  (hsa:w.shape? a.block=some (tA,kA)) (hkA:kA≠0) (hsb:w.shape? b.block=some (tB,kB)) (hfb:w.frozen? b=false) (hfe:w.frozen? { block:=b.block,off:=kB }=false) :
  (Extern.SlicesOverlaps.overlaps #[tS,tS] #[tR] #[.slice (some a) la ca,.slice (some b) lb cb]).run P w=.ok (.bool false) w:=by
 have hnb:(a.block != b.block)=true:=by simpa using hne
 have hnb':(a.block == b.block)=false:=by simpa using hne
 change Sem.run P (α:=Value) (do
  let some t:=(#[tS,tS]:Array TypeId)[0]? | stuck "slices.overlaps: no parameter types"
  let .slice elem ← underlying t | stuck "slices.overlaps: slice type expected"
  let size ← sizeOf elem
  match (some a:Option Addr),(some b:Option Addr) with
  | some a,some b =>
   if la=0∨lb=0∨size=0 then pure (Value.bool false)
   else if a.block != b.block && (← frozen a) && (← frozen b) then unsupported .addressObserved
   else do
    if a.block != b.block then do
     noView a;noView b
     if ← mayBeOne a b then return Value.bool ((← choose (.extern "sameAddr.stringBytes" 2)) == 1)
    pure (Value.bool (a.block == b.block && a.off < b.off+lb*size && b.off < a.off+la*size))
  | _,_=>pure (Value.bool false)) w=_
 by_cases h0:la=0∨lb=0∨size=0
 ·simp [run_underlying ht,hz,h0]
 ·cases kA with
  | zero=>exact absurd rfl hkA
  | succ kA =>
   cases hfa:w.frozen? a with
   | true=>simp [run_underlying ht,hz,h0,hnb,hnb',frozen,noView,viewAt,mayBeOne,stringish,shape,Sem.run,hsa,hsb,hfa,hfb,hfe]
   | false =>
    cases hfa2:w.frozen? { block:=a.block,off:=kA+1 }<;>simp [run_underlying ht,hz,h0,hnb,hnb',frozen,noView,viewAt,mayBeOne,stringish,shape,Sem.run,hsa,hsb,hfa,hfa2,hfb,hfe]
theorem overlaps_sem {f:FuncId} {fn:Func} (hf:P.funcs[f]?=some fn) (hname:(fn.name == "runtime.NumGoroutine")=false) (hb:fn.body.isNone=true) (hn:Extern.findNext fn=none) {t tr e:TypeId}
  (he:Extern.find fn=some (Extern.SlicesOverlaps.overlaps #[t,t] #[tr])) (ht:P.underlying t=some (.slice e)) {z:Nat} (hz:sizeOf' P e=some z) (hz1:z≠1)
  {m:Own} {z':Nat} {c:AV} {r:List AV} {l:List (List AV)} {o off n:Nat} {sh:List (List AV)} {cells:List AV} (ho:sh[o]?=some cells) (hbk:blkB cells=true) :
  SemX P f [.sl m z' ((c :: r) :: l),.ss o off n z] sh (.bool false) sh:=by
 intro kd β bs S0 O0 w vs hent hargs
 have hent':=hent
 obtain⟨⟨e1,e2⟩,e3,e4,e5,_⟩:=hent
 obtain⟨xs⟩:=vs
 have hl2:=hargs.length
 simp at hl2
 match xs,hl2 with
 | [u,v],_ =>
  obtain⟨h1,h2,_⟩:=hargs
  obtain⟨ho1,cp,rfl,h3,h4,h5⟩:=h2
  have hum:=(h5 hz1).2
  have h1':∃ A cc,u=.slice A (l.length+1) cc∧∃ b k,A=some ⟨b,k,none⟩∧RepR S0 w z' ((c :: r) :: l) b k:=by
   cases m with
   | own=>exact h1.2.elim
   | no =>
    obtain⟨A,cc,q1,_,_,_,q5⟩:=h1
    rcases q5 with q5 | ⟨b,k,q5,q6⟩
    ·cases q5
    ·exact⟨A,cc,q1,b,k,q5,q6⟩
   | full =>
    obtain⟨A,cc,q1,_,_,_,q5⟩:=h1
    rcases q5 with q5 | ⟨b,k,q5,q6⟩
    ·cases q5
    ·exact⟨A,cc,q1,b,k,q5,q6⟩
  obtain⟨A,cc,rfl,b,k,rfl,hrep⟩:=h1'
  obtain⟨_,hrc⟩:=hrep.get (i:=0) rfl
  obtain⟨hS,x,hx,_⟩:=hrc.get (j:=0) rfl
  simp only[Nat.zero_mul,Nat.add_zero] at hS hx
  obtain⟨hbl,hnb,_⟩:=e3 b k hS
  have hne:b≠β o:=fun h=>hnb o (List.getElem?_eq_some_iff.1 ho).1 h.symm
  have hsa:∃ tA kA,w.shape? b=some (tA,kA)∧kA≠0:=by
   unfold World.cell? at hx
   split at hx
   ·rename_i arr ty fz hh
    have hx':arr[k]?=some x:=by simpa using hx
    have hlt:=(Array.getElem?_eq_some_iff.1 hx').1
    exact⟨ty,arr.size,by unfold World.shape?;have hh':w.heap[b]?=some (.cells arr ty fz):=hh;rw[hh'],by omega⟩
   ·cases hx
  obtain⟨tA,kA,hsa,hkA⟩:=hsa
  obtain⟨_,hob,_⟩:=e1 o cells ho (blk_dead hbk)
  obtain⟨arr,ty,fz,q1,q2,q3,q4⟩:=hob hbk
  have hfz:=q3.2 hum
  subst hfz
  obtain⟨inf,hi,hin⟩:=size_info hz
  have hrun:=run_overlaps_far (P:=P) w t tr e ht z (fun w=>by simp [sizeOf,typeInfo,hi,hin]) ⟨b,k,none⟩ ⟨β o,off,none⟩ (l.length+1) cc n cp hne tA ty kA arr.size hsa hkA (by unfold World.shape?;have q1':w.heap[β o]?=_:=q1;rw[q1']) (by unfold World.frozen?;have q1':w.heap[β o]?=_:=q1;simp [q1']) (by unfold World.frozen?;have q1':w.heap[β o]?=_:=q1;simp [q1'])
  refine⟨.bool false,w,kd,β,bs,?_,After.refl hent' rfl⟩
  rw[run_callFunc_extern hf hname hb hn he]
  have:(#[.slice (some ⟨b,k,none⟩) (l.length+1) cc,.slice (some ⟨β o,off,none⟩) n cp]:Array Value)=⟨[.slice (some ⟨b,k,none⟩) (l.length+1) cc,.slice (some ⟨β o,off,none⟩) n cp]⟩:=rfl
  show ((Extern.SlicesOverlaps.overlaps #[t,t] #[tr] ⟨[.slice (some ⟨b,k,none⟩) (l.length+1) cc,.slice (some ⟨β o,off,none⟩) n cp]⟩).run P w).andThen _=_
  rw[← this,hrun]
  rfl
def ovB (f72 z:Nat):Calls':=fun f args sh=>if f=f72 then (match args with
 | [.sl _ _ ((_ :: _) :: _),.ss o _ _ z']=>(match sh[o]? with
  | some cells=>if blkB cells=true∧z'=z then some (.bool false,sh) else none
  | none=>none)
 | _=>none) else none
theorem ovB_sound {f72:FuncId} {fn:Func} (hf:P.funcs[f72]?=some fn) (hname:(fn.name == "runtime.NumGoroutine")=false) (hb:fn.body.isNone=true) (hn:Extern.findNext fn=none) {t tr e:TypeId}
  (he:Extern.find fn=some (Extern.SlicesOverlaps.overlaps #[t,t] #[tr])) (ht:P.underlying t=some (.slice e)) {z:Nat} (hz:sizeOf' P e=some z) (hz1:z≠1):Good P (ovB f72 z):=by
 intro f args sh r sh' h
 unfold ovB at h
 split at h
 ·rename_i hff
  subst hff
  split at h
  ·split at h
   ·rename_i cells hc
    split at h
    ·rename_i hq
     obtain⟨hbk,rfl⟩:=hq
     simp only[Option.some.injEq,Prod.mk.injEq] at h
     obtain⟨rfl,rfl⟩:=h
     exact .inr (overlaps_sem hf hname hb hn he ht hz hz1 hc hbk)
    ·cases h
   ·cases h
  ·cases h
 ·cases h
theorem execX_soundB (hmix:P.follows .mixedOrders=true) {B:Calls'} (hB:Good P B) {E:Env} {a:Act} {w:World} {σ σ':AS} {C:Code} {c:ACode} {e:AX} {Q:Exit→Act→World→Prop} (hok:okCode P E.nt C c=true) (hx:execX (Gx B (fun _=>none)) c σ=some (e,σ')) (hp:Post E σ a w)
  (hQ:∀ a w,Post E σ' a w→Q (xp e) a w):C.wp P Q a w:=by
 obtain⟨n,hn⟩:=exec_lim c σ _ hx
 have hG:Good P (funA B (fun _=>none) n):=funs_sound hmix hB (fun _ _ h=>by cases h) n
 exact exec_sound hmix hG n C c σ σ' e a w Q hok (hn n (Nat.le_refl _)) hp hQ
theorem list_pre {E:Env} {G:Calls'} {ops:Array Oper} {Q:Exit→Act→World→Prop} (hG:Good P G):∀ {os rest:List Oper} {aos:List AOper} {σ σ':AS} {a:Act} {w:World},okOs P E.nt ops os aos=true→Post E σ a w→runA G aos σ=some σ' →
  (∀ a w,Post E σ' a w→wpList P ops Q rest a w)→wpList P ops Q (os++rest) a w
 | [],rest,[],σ,σ',a,w,_,hp,hr,hQ=>by
  simp only[runA,Option.some.injEq] at hr
  subst hr
  exact hQ a w hp
 | o :: os,rest,ao :: aos,σ,σ',a,w,hok,hp,hr,hQ=>by
  simp only[okOs,Bool.and_eq_true] at hok
  simp only[runA] at hr
  obtain⟨σ1,h1,h2⟩:=Option.bind_eq_some_iff.1 hr
  exact wpl_step hG hp hok.1 h1 fun a w hp=>list_pre hG hok.2 hp h2 hQ
 | [],_,_ :: _,_,_,_,_,hok,_,_,_=>by simp [okOs] at hok
 | _ :: _,_,[],_,_,_,_,hok,_,_,_=>by simp [okOs] at hok
theorem forget_nil (σ:AS):forget [] σ=σ:=by
 unfold forget
 cases σ
 simp only[AS.mk.injEq,List.not_mem_nil,if_false,and_true]
 funext t
 rename_i fr lo sh
 cases h:fr t<;>simp [scrubV]
theorem run_of_exec {aos:List AOper} {σ σ':AS} (h:execX GN (.reg false [] aos []) σ=some (.norm,σ')):∃ n,runA (funA (fun _ _ _=>none) (fun _=>none) n) aos σ=some σ':=by
 obtain⟨n,hn⟩:=exec_lim _ σ _ h
 refine⟨n,?_⟩
 have:=hn n (Nat.le_refl _)
 simp only[execA,scrub_nil] at this
 obtain⟨σ1,h1,h2⟩:=Option.map_eq_some_iff.1 this
 simp only[Prod.mk.injEq,true_and,forget_nil] at h2
 rw[h1,h2]
theorem pre_sound {E:Env} {ops:Array Oper} {Q:Exit→Act→World→Prop} (hmix:P.follows .mixedOrders=true) {os rest:List Oper} {aos:List AOper} {σ σ':AS} {a:Act} {w:World} (hok:okOs P E.nt ops os aos=true) (hp:Post E σ a w) (hx:execX GN (.reg false [] aos []) σ=some (.norm,σ'))
  (hQ:∀ a w,Post E σ' a w→wpList P ops Q rest a w):wpList P ops Q (os++rest) a w:=by
 obtain⟨n,hn⟩:=run_of_exec hx
 have hG:Good P (funA (fun _ _ _=>none) (fun _=>none) n):=funs_sound hmix (fun _ _ _ _ _ h=>by cases h) (fun _ _ h=>by cases h) n
 exact list_pre hG hok hp hn hQ
theorem Sim.extObj {E:Env} {g:Gh} {σ:AS} {a:Act} {w:World} (h:Sim E g σ a w) {i k:Nat} {cells:List AV} (hi:σ.sh[i]?=some cells) (hbk:blkB cells=true) (hne:cells≠[]) (hk:cells.length+k≤g.bs i / 2) :
  Sim E g { σ with sh:=σ.sh.set i (cells++List.replicate k .any) } a w:=by
 obtain⟨_,f2,_⟩:=h.shr i cells hi (blk_dead hbk)
 obtain⟨arr,ty,fz,q1,q2,q3,q4⟩:=f2 hbk
 have q3':=q3.1
 refine h.setObj hi (blk_dead hbk) rfl (fun _ _=>rfl) rfl rfl rfl (fun hle how _=>⟨fun _=>⟨arr,ty,fz,q1,q2,q3,fun j x hx=>?_⟩,?_⟩)
 ·rw[List.getElem?_append] at hx
  split at hx
  ·obtain⟨v,h1,h2⟩:=q4 j x hx
   exact⟨v,h1,RepC'.mono hle _ _ (fun _ _ _=>how _ _ _ _) h2⟩
  ·rename_i hj
   have hlt:=(List.getElem?_eq_some_iff.1 hx).1
   simp only[List.length_replicate] at hlt
   have hx':x=.any:=by
    have:=List.eq_of_mem_replicate (List.mem_iff_getElem?.2 ⟨_,hx⟩)
    exact this
   subst hx'
   have hj2:j < arr.size:=by omega
   refine⟨arr[j],Array.getElem?_eq_getElem hj2,?_⟩
   show True
   trivial
 ·unfold ObjM
  split
  ·rename_i l hl
   exfalso
   cases cells with
   | nil=>exact hne rfl
   | cons c cs =>
    simp only[List.cons_append,List.cons.injEq,List.append_eq_nil_iff] at hl
    obtain⟨rfl,rfl,_⟩:=hl
    simp [blkB] at hbk
  ·trivial
theorem Sim.reslot {E:Env} {g:Gh} {σ:AS} {a:Act} {w:World} (h:Sim E g σ a w) {t:Nat} {x:AV} (hx:RepT (cx E g σ w) (OwnAt g.kd w (.slot t)) x (a.tmps.getD t undef)):Sim E g { σ with fr:=upd σ.fr t x } a w:=by
 refine { h with slots:=fun t'=>?_ }
 by_cases e:t'=t
 ·subst e
  show RepT _ _ (upd σ.fr t' x t') _
  simp only[upd,if_true]
  exact hx
 ·show RepT _ _ (upd σ.fr t x t') _
  simp only[upd,e,if_false]
  exact h.slots t'
end
end Go.Av
namespace Go.Av
variable [Gtab]
open Go.RowKit
set_option maxHeartbeats 4000000
section
variable {P:Program} {E:Env} {g g':Gh} {σ σ1:AS} {a:Act} {w w':World} {o:Oper} {Q:Exit→Act→World→Prop}
theorem flat_dem {x:AV} (h:flatB x=true):demV x=x:=by
 cases x<;>try rfl
 rename_i m z l
 cases m<;>first | rfl | simp [flatB] at h
theorem flat_nown {x:AV} (h:flatB x=true):nownB x=true:=by
 cases x<;>try rfl
 rename_i m z l
 cases m<;>first | rfl | simp [flatB] at h
theorem flat_all_nown {l:List AV} (h:l.all flatB=true):l.all nownB=true:=by
 rw[List.all_eq_true] at h ⊢
 exact fun x hx=>flat_nown (h x hx)
theorem flat_blk {l:List AV} (h:l.all flatB=true):blkB l=true:=by
 rw[List.all_eq_true] at h
 unfold blkB
 split
 ·have:=h _ (List.mem_singleton.2 rfl);simp [flatB] at this
 ·have:=h _ (List.mem_singleton.2 rfl);simp [flatB] at this
 ·rfl
theorem flat_map {l:List AV} (h:l.all flatB=true):l.map demV=l:=by
 rw[List.all_eq_true] at h
 conv=>rhs;rw[← List.map_id l]
 exact List.map_congr_left fun x hx=>flat_dem (h x hx)
theorem flat_all_dem {l:List AV} (h:l.all flatB=true):l.all (fun x=>flatB (demV x))=true:=by
 rw[List.all_eq_true] at h ⊢
 exact fun x hx=>by rw[flat_dem (h x hx)];exact h x hx
theorem snd_appZ (hs:Sim E g σ a w) (hd:∀ d,o.dst=some d→d < E.nt) {t tn e:TypeId} {x y:Operand} {rx ry:AR} {kn:IntKind} (hop:o.op=.call { callee:=.builtin .append,args:=#[x,y],argTypes:=#[t,tn] })
  (hx:okR x rx=true) (hy:okR y ry=true) (ht:P.underlying t=some (.slice e)) (htn:P.underlying tn=some (.int kn)) {z bytes:Nat} {zero:List AV} (hzi:zeroIs P e zero=true) (hzl:zero.length=z) {inf:TypeInfo} (hi:P.info? e=some inf) (hib:inf.bytes=bytes) (hz0:0 < z) (hz1:z≠1)
  {so i k:Nat} {cells:List AV} (he:ev σ.fr rx=.ss so 0 i z) (hk:ev σ.fr ry=.int .i64 (k:Int)) (hk0:0 < k) (hcl:σ.sh[so]?=some cells) (hfl:cells.all flatB=true) (hle:i*z≤cells.length)
  (hcap:∀ cp,0+cp*z=g.bs so / 2→cp < i+k) (hby:(i+k)*bytes≤140737488355328) (h62:i+k≤4611686018427387904) :
  o.wp P a w (Post E (put { σ with sh:=σ.sh++[cells.take (i*z)++zeroRow zero k] } o.dst (.ss σ.sh.length 0 (i+k) z))) Q:=by
 obtain⟨i',zv,q1,q2,q3,q4⟩:=zero_info hzi
 rw[hi] at q1;cases q1
 have hbk:=flat_blk hfl
 have hiz:inf.size=z:=by omega
 obtain⟨e0,cp,e1,e2,e3,e3'⟩:=hs.rd hx he
 have e1':a.eval x=.slice (some ⟨g.β so,0,none⟩) i cp:=e1
 have hg:=hcap cp (e3' hz1).1
 have ek:=hs.rdNat hy hk
 have hzr:=okL_rep (S:=SS E g w) (w:=w) q3
 have hzv:zv.cells.size=z:=by have:=hzr.length;simp at this;omega
 obtain⟨k1,k2,_⟩:=hs.shr so cells hcl (blk_dead hbk)
 obtain⟨arr,ty,fz,h6,hfz,h7,h8⟩:=k2 hbk
 have hal:=obj_len h8
 have hlt:(arr.toList.take (i*inf.size)).length=i*inf.size:=by rw[hiz];simp;omega
 have hold:(Builtin.firstCells inf.size i (.slice (some ⟨g.β so,0,none⟩) i cp)).run P w.drew=.ok (arr.toList.take (i*inf.size)).toArray w.drew:=by
  have hld:=run_loadCells_list (P:=P) w.drew ⟨g.β so,0,none⟩ (arr.toList.take (i*inf.size)) (fun j v hj=>by
   rw[add_none]
   rw[List.getElem?_take] at hj
   split at hj
   ·have h6':w.drew.heap[g.β so]?=some (.cells arr ty fz):=h6
    simp [World.cell?,h6'];simpa using hj
   ·cases hj)
  rw[hlt] at hld
  simp only[Builtin.firstCells,hld]
 have hrun:=Lib.run_append_grow_zeros (P:=P) w t tn o.type e inf zv .i64 kn ht htn hi q2 (some ⟨g.β so,0,none⟩) i cp (arr.toList.take (i*inf.size)) hold k hk0 (by omega) hg (by omega) (by
  have:k*inf.bytes≤(i+k)*bytes:=by rw[hib];exact Nat.mul_le_mul_right _ (by omega)
  omega) (growslice_fits hg (by rw[hib];exact hby))
 have h1:=hs.drawn (w.drawn+1)
 have hge:=grownCap_ge w (i+k) cp e
 have hze:∀ (n j:Nat) (y:AV),(zeroRow zero n)[j]?=some y→∃ v,(Builtin.zeroCells zv.cells n)[j]?=some v∧RepC' (cx E g σ { w with drawn:=w.drawn+1 }) noOwn y v:=by
  intro n j y hj
  obtain⟨j1,j2⟩:=zeroRow_take zero j n y hj
  obtain⟨v,j3,j4⟩:=hzr.get j2
  rw[hzl] at j1
  refine⟨v,?_,(repF_one (c:=cx E g σ { w with drawn:=w.drawn+1 }) (RepF.mono (S:=SS E g w) (S':=SS E g w) (w:=w) (w':={ w with drawn:=w.drawn+1 }) (fun b n h=>⟨h,rfl⟩) _ _ j4)).2⟩
  have h9:zv.cells[j % zero.length]?=some v:=by simpa using j3
  rw[hzl] at h9
  unfold Builtin.zeroCells
  rw[hzv]
  rw[Array.getElem?_map,Array.getElem?_range,if_pos j1]
  simp only[Option.map_some,Option.some.injEq]
  rw[getElem!_def,h9]
 obtain⟨g2,p1,p2,p3,p4⟩:=h1.newShr (cells:=cells.take (i*z)++zeroRow zero k) (cs:=(arr.toList.take (i*inf.size)).toArray++Builtin.zeroCells zv.cells k++Builtin.zeroCells zv.cells (grownCap w (i+k) cp e - (i+k))) (e:=e) (fun j y hj=>by
  have hle1:Cx.le (cx E g σ w) (cx E g σ { w with drawn:=w.drawn+1 }):=⟨fun b n h=>⟨h,rfl⟩,Nat.le_refl _,fun _ _=>rfl,fun _ _=>rfl,fun s hs=>⟨hs,rfl⟩⟩
  have hs1:(arr.toList.take (i*inf.size)).toArray.size=i*z:=by rw[List.size_toArray,hlt,hiz]
  have hs2:(cells.take (i*z)).length=i*z:=by simp;omega
  have hs3:(Builtin.zeroCells zv.cells k).size=k*z:=by rw[zeroCells_list,hzv]
  rw[List.getElem?_append,hs2] at hj
  split at hj
  ·rename_i hjl
   rw[List.getElem?_take_of_lt hjl] at hj
   obtain⟨v,h3,h4⟩:=h8 j y hj
   refine⟨v,?_,RepC'.mono hle1 _ _ (fun z l e=>?_) h4⟩
   ·rw[Array.getElem?_append_left (by rw[Array.size_append];omega),Array.getElem?_append_left (by omega),List.getElem?_toArray,List.getElem?_take_of_lt (by rw[hiz];exact hjl)]
    simpa using h3
   ·subst e
    rw[List.all_eq_true] at hfl
    have:=hfl _ (List.mem_iff_getElem?.2 ⟨j,hj⟩)
    simp [flatB] at this
  ·rename_i hjl
   obtain⟨v,h3,h4⟩:=hze k _ y hj
   refine⟨v,?_,h4⟩
   have hjl2:=(Array.getElem?_eq_some_iff.1 h3).1
   rw[Array.getElem?_append_left (by rw[Array.size_append];omega),Array.getElem?_append_right (by omega),hs1]
   exact h3)
 refine fin_val p1 (val:=.slice (some ⟨w.heap.size,0,none⟩) (i+k) (grownCap w (i+k) cp e)) ?_ fun d hdd=>⟨hd d hdd,?_⟩
 ·simp [execOp,hop,resolve,invoke,builtin,e1',ek,hrun]
 ·refine⟨by simp [cx],grownCap w (i+k) cp e,?_,hge,?_⟩
  ·show _=Value.slice (some ⟨g2.β σ.sh.length,0,none⟩) _ _
   have:g2.β σ.sh.length=w.heap.size:=p3
   rw[this]
  ·have hb:g2.bs σ.sh.length=2*_+1:=p4
   refine ssz_full ?_ (by show g2.bs σ.sh.length % 2=1;rw[hb];omega)
   show 0+_=g2.bs σ.sh.length / 2
   rw[hb,show ∀ X:Nat,(2*X+1) / 2=X from fun X=>by omega]
   rw[Array.size_append,Array.size_append,List.size_toArray,hlt,zeroCells_list,zeroCells_list,hzv,hiz,← Nat.add_mul,← Nat.add_mul,Nat.zero_add]
   congr 1
   omega
end
def mvO (d s:Nat):AOper:=⟨some d,.mv,[.t s],.none,none,none⟩
def stuckC:ACode:=.reg false [] [⟨none,.mv,[],.none,none,none⟩] []
def insI0 (z:Nat):ACode:=.reg false [] [⟨some 6,.mv,[.c (.sl .full z [])],.none,none,none⟩] [6]
def insI1 (z:Nat):ACode:=.reg false [] [mvO 10 0,mvO 11 1,⟨some 12,.slc false z true false,[.t 10,.t 11],.none,none,none⟩] [10,11,12]
def insI2:ACode:=.reg false [] [mvO 13 2,⟨some 14,.len false,[.t 13],.none,none,none⟩,mvO 7 14] [13,14]
def insI3:ACode:=.seq (.reg false [] [mvO 15 7,⟨some 16,.bin .eql,[.t 15,.c (.int .i64 0)],.none,none,none⟩] [15]) (.cond (.t 16) (.seq stuckC .ret) .skip)
def insI5:ACode:=.reg false [] [mvO 18 0,⟨some 19,.len false,[.t 18],.none,none,none⟩,mvO 8 19] [18,19]
def insI6:ACode:=.seq (.reg false [] [mvO 20 1,mvO 21 8,⟨some 22,.bin .eql,[.t 20,.t 21],.none,none,none⟩] [20,21]) (.cond (.t 22) (.seq stuckC .ret) .skip)
def insP8:List AOper:=[mvO 26 8,mvO 27 7,⟨some 28,.bin .add,[.t 26,.t 27],.none,none,none⟩,mvO 29 0]
def insQ8:List AOper:=[⟨some 31,.bin .gtr,[.t 28,.t 30],.none,none,none⟩]
def insP9 (z:Nat):List AOper:=[mvO 32 0,mvO 33 1,⟨some 34,.slc false z false true,[.t 32,.t 33],.none,none,none⟩,mvO 35 8,mvO 36 7,⟨some 37,.bin .add,[.t 35,.t 36],.none,none,none⟩,mvO 38 1,⟨some 39,.bin .sub,[.t 37,.t 38],.none,none,none⟩]
def insQ9:List AOper:=[mvO 9 40]
def insG (z:Nat):ACode:=
 .seq (.reg false [] [mvO 41 9,mvO 42 1,⟨some 43,.slc false z true false,[.t 41,.t 42],.none,none,none⟩,mvO 44 2,⟨some 45,.cpy z,[.t 43,.t 44],.sh,none,none⟩] [41,42,43,44,45]) <|
 .seq (.reg true [] [mvO 46 9,mvO 47 1,mvO 48 7,⟨some 49,.bin .add,[.t 47,.t 48],.none,none,none⟩,⟨some 50,.slc false z true false,[.t 46,.t 49],.none,none,none⟩,mvO 51 0,mvO 52 1,⟨some 53,.slc false z true false,[.t 51,.t 52],.none,none,none⟩,⟨some 54,.cpy z,[.t 50,.t 53],.sh,none,none⟩] [46,47,48,49,50,51,52,53,54]) <|
 .seq (.reg false [] [mvO 55 9,mvO 6 55] [55]) .ret
def insR (z f72:Nat):ACode:=
 .seq (.reg false [] [mvO 56 0,mvO 57 8,mvO 58 7,⟨some 59,.bin .add,[.t 57,.t 58],.none,none,none⟩,⟨some 60,.slx z false,[.t 56,.t 59],.sh,none,none⟩,mvO 0 60] [56,57,58,59,60]) <|
 .seq (.seq (.reg false [] [mvO 61 2,mvO 62 0,mvO 63 1,mvO 64 7,⟨some 65,.bin .add,[.t 63,.t 64],.none,none,none⟩,⟨some 66,.slc false z true false,[.t 62,.t 65],.none,none,none⟩,⟨some 67,.call f72,[.t 61,.t 66],.sh,none,none⟩,⟨some 68,.un .not,[.t 67],.none,none,none⟩] [61,62,63,64,65,66,67])
  (.cond (.t 68) (.seq (.reg true [] [mvO 69 0,mvO 70 1,mvO 71 7,⟨some 72,.bin .add,[.t 70,.t 71],.none,none,none⟩,⟨some 73,.slc false z true false,[.t 69,.t 72],.none,none,none⟩,mvO 74 0,mvO 75 1,⟨some 76,.slc false z true false,[.t 74,.t 75],.none,none,none⟩,⟨some 77,.cpy z,[.t 73,.t 76],.sh,none,none⟩] [69,70,71,72,73,74,75,76,77]) <|
   .seq (.reg false [] [mvO 78 0,mvO 79 1,⟨some 80,.slc false z true false,[.t 78,.t 79],.none,none,none⟩,mvO 81 2,⟨some 82,.cpy z,[.t 80,.t 81],.sh,none,none⟩] [78,79,80,81,82]) <|
   .seq (.reg false [] [mvO 83 0,mvO 6 83] [83]) .ret) .skip)) <|
 .seq stuckC <| .seq stuckC <| .seq stuckC .ret
def isCapOf (P:Program) (i:Nat):Op→Bool
 | .call { callee:=.builtin .cap,args:=xs,argTypes:=ts }=>(match xs.toList,ts.toList with
  | [.tmp j],[t]=>i == j && (match P.underlying t with | some (.slice _)=>true | _=>false)
  | _,_=>false)
 | _=>false
def isAppZ (P:Program) (i k z bytes:Nat) (zero:List AV):Op→Bool
 | .call { callee:=.builtin .append,args:=xs,argTypes:=ts }=>(match xs.toList,ts.toList with
  | [.tmp j,.tmp l],[t,tn]=>i == j && k == l && (match P.underlying t,P.underlying tn with | some (.slice e),some (.int _)=>zeroIs P e zero && zero.length == z && (match P.info? e with | some inf=>inf.bytes == bytes | none=>false) | _,_=>false)
  | _,_=>false)
 | _=>false
def okInsert (P:Program) (f f72 z bytes:Nat) (zero:List AV):Bool:=
 match P.funcs[f]? with
 | some fn=>(match fn.body with
  | some (.seq c0 (.seq c1 (.seq c2 (.seq c3 (.seq c5 (.seq c6 (.seq (.seq (.region _ ops8 false) (.cond (.tmp 31) (.seq (.region _ ops9 false) gr) .skip)) rest))))))) =>
   okCode P fn.ntmps c0 (insI0 z) && okCode P fn.ntmps c1 (insI1 z) && okCode P fn.ntmps c2 insI2 && okCode P fn.ntmps c3 insI3 && okCode P fn.ntmps c5 insI5 && okCode P fn.ntmps c6 insI6 && okCode P fn.ntmps gr (insG z) && okCode P fn.ntmps rest (insR z f72) &&
   (match ops8.toList with
    | [p1,p2,p3,p4,q,r]=>okOs P fn.ntmps ops8 [p1,p2,p3,p4] insP8 && okOs P fn.ntmps ops8 [r] insQ8 && q.dst == some 30 && q.guard.isNone && isCapOf P 29 q.op
    | _=>false) &&
   (match ops9.toList with
    | [p1,p2,p3,p4,p5,p6,p7,p8,q,r]=>okOs P fn.ntmps ops9 [p1,p2,p3,p4,p5,p6,p7,p8] (insP9 z) && okOs P fn.ntmps ops9 [r] insQ9 && q.dst == some 40 && q.guard.isNone && isAppZ P 34 39 z bytes zero q.op
    | _=>false)
  | _=>false) && decide (84≤fn.ntmps) && okRes P fn.results.toList [.tmpD 6] && !(fn.name == "runtime.NumGoroutine")
 | none=>false
end Go.Av
