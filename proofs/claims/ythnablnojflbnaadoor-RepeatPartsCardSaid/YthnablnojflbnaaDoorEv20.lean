/- A part of the proof: Ev20. No conditions. -/
import Derived.Test.YthnablnojflbnaaDoorEv19
import Derived.IntWalk
set_option linter.unusedSimpArgs false
set_option linter.unusedVariables false
namespace Go.Av
variable {G : Calls'} {l : List (Nat × AV)} {m : List (Nat × Option (List AV))} {sh : List (List AV)}

noncomputable def loopY (G : Calls') (L : ACode) (kill : List Nat) (r : Option (AX × AS)) : Option (AX × AS) := match r with
  | some (.norm, σ') => execX G L (forget kill σ')
  | r => r
theorem scrubV_idem (a : List Nat) (v : AV) : scrubV a (scrubV a v) = scrubV a v := by
  cases v with
  | loc s o => by_cases h : s ∈ a <;> simp [scrubV, h]
  | _ => rfl
theorem forget_idem (kill : List Nat) (σ : AS) : forget kill (forget kill σ) = forget kill σ := by
  unfold forget
  simp only [AS.mk.injEq, and_true]
  refine ⟨?_, ?_⟩
  · funext t
    by_cases h : t ∈ kill
    · simp [h]
    · simp [h, scrubV_idem]
  · funext t
    by_cases h : t ∈ kill <;> simp [h]
theorem Y_loop {L : ACode} {kill : List Nat} {a : ACode} (h : L = .loop kill a) (l : List (Nat × AV)) (m : List (Nat × Option (List AV))) (sh : List (List AV)) :
    execX G L (ST l m sh) = loopY G L kill (execX G a (ST (killl kill l) (dropl kill m) sh)) := by
  subst h
  rw [X_loop]
  have hf : ∀ σ, execX G (.loop kill a) σ = execX G (.loop kill a) (forget kill σ) := by
    intro σ
    show iterX (fun σ => execX G a (forget kill σ)) σ = iterX (fun σ => execX G a (forget kill σ)) (forget kill σ)
    rw [@iterX_eq tab0, @iterX_eq tab0 _ (forget kill σ)]
    simp only [forget_idem]
  cases execX G a (ST (killl kill l) (dropl kill m) sh) with
  | none => rfl
  | some r =>
    obtain ⟨x, σ⟩ := r
    cases x with
    | norm => exact hf σ
    | _ => rfl
@[go_sem] theorem loopY_norm (L : ACode) (kill : List Nat) (l : List (Nat × AV)) (m : List (Nat × Option (List AV))) (sh : List (List AV)) : loopY G L kill (some (.norm, ST l m sh)) = execX G L (ST (killl kill l) (dropl kill m) sh) := by
  rw [← forget_ST]; rfl
@[go_sem] theorem loopY_ex (L : ACode) (kill : List Nat) (i : Nat) (σ : AS) : loopY G L kill (some (.ex i, σ)) = some (.ex i, σ) := (rfl)
@[go_sem] theorem loopY_ret (L : ACode) (kill : List Nat) (σ : AS) : loopY G L kill (some (.ret, σ)) = some (.ret, σ) := (rfl)
@[go_sem] theorem loopY_none (L : ACode) (kill : List Nat) : loopY G L kill none = none := (rfl)
@[go_sem] theorem loopY_ite (L : ACode) (kill : List Nat) (c : Prop) [Decidable c] (x y : Option (AX × AS)) : loopY G L kill (if c then x else y) = if c then loopY G L kill x else loopY G L kill y := by split <;> rfl

/-! kernel-cheap facts about tests -/
@[go_sem] theorem isNone_none' : (none : Option (List AV)).isNone = true := (rfl)
@[go_sem] theorem isNone_some' (x : List AV) : (some x).isNone = false := (rfl)

/-! slice literals -/
def consR : Option (List AV) → Option (List (List AV)) → Option (List (List AV))
  | some r, some rs => some (r :: rs)
  | _, _ => none
def mkRows (z : Nat) : List AV → Option (List (List AV))
  | [] => some []
  | x :: xs => consR (cellsOfV z x) (mkRows z xs)
@[go_sem] theorem mkRows_nil (z : Nat) : mkRows z [] = some [] := (rfl)
@[go_sem] theorem mkRows_cons (z : Nat) (x : AV) (xs : List AV) : mkRows z (x :: xs) = consR (cellsOfV z x) (mkRows z xs) := (rfl)
@[go_sem] theorem consR_some (r : List AV) (rs : List (List AV)) : consR (some r) (some rs) = some (r :: rs) := (rfl)
@[go_sem] theorem consR_none (r : Option (List AV)) : consR r none = none := by cases r <;> rfl
theorem cellsOfV_len {n : Nat} {x : AV} {cs : List AV} (h : cellsOfV n x = some cs) : cs.length = n := by
  unfold cellsOfV at h
  split at h
  · split at h
    · cases h; assumption
    · cases h
  · split at h
    · cases h; rename_i h1; simp [h1.1]
    · cases h
theorem mkRows_len {z : Nat} : ∀ {xs : List AV} {rs : List (List AV)}, mkRows z xs = some rs → rs.length = xs.length ∧ ∀ r ∈ rs, r.length = z
  | [], rs, h => by cases h; simp
  | x :: xs, rs, h => by
    simp only [mkRows] at h
    cases h1 : cellsOfV z x with
    | none => rw [h1] at h; cases h
    | some r =>
      cases h2 : mkRows z xs with
      | none => rw [h1, h2] at h; cases h
      | some rs' =>
        rw [h1, h2] at h; cases h
        have := mkRows_len h2
        have h3 := cellsOfV_len h1
        simp only [List.length_cons, this.1, true_and, List.mem_cons, forall_eq_or_imp]
        exact ⟨h3, this.2⟩
theorem rowsOf_flat' (z : Nat) : ∀ (rs : List (List AV)), (∀ r ∈ rs, r.length = z) → rowsOf z rs.length rs.flatten = rs
  | [], _ => rfl
  | r :: rs, h => by
    have h1 := h r (by simp)
    have h2 := rowsOf_flat' z rs (fun r hr => h r (by simp [hr]))
    show ((r :: rs).flatten).take z :: rowsOf z rs.length (((r :: rs).flatten).drop z) = _
    rw [List.flatten_cons, List.take_left' h1, List.drop_left' h1, h2]
theorem fillA_range {z : Nat} {zero : List AV} (hz : zero.length = z) : ∀ (xs : List AV) (pre : List AV) (k : Nat), pre.length = k * z →
    fillA (pre ++ zeroRow zero xs.length) ((List.range' k xs.length).map fun i => (i * z, z)) xs = (mkRows z xs).map fun rs => pre ++ rs.flatten
  | [], pre, k, h => by simp [fillA, mkRows, zeroRow]
  | x :: xs, pre, k, h => by
    simp only [List.length_cons, List.range'_succ, List.map_cons, fillA, mkRows]
    cases h1 : cellsOfV z x with
    | none => cases h3 : mkRows z xs <;> rfl
    | some cs =>
      have hc := cellsOfV_len h1
      have h2 : putC (k * z) cs (pre ++ zeroRow zero (xs.length + 1)) = some ((pre ++ cs) ++ zeroRow zero xs.length) := by
        rw [show zeroRow zero (xs.length + 1) = zero ++ zeroRow zero xs.length from rfl]
        unfold putC
        rw [if_pos (by simp only [List.length_append]; omega)]
        rw [List.take_left' h, ← List.append_assoc pre zero, List.drop_left' (by simp [hc, h, hz])]
      simp only [h2]
      rw [fillA_range hz xs (pre ++ cs) (k + 1) (by simp [h, hc, Nat.add_mul])]
      cases mkRows z xs with
      | none => rfl
      | some rs => simp [consR]
theorem mksA_rows {z : Nat} {zero : List AV} {len : Nat} {pl : List Nat} {xs : List AV} (hz : zero.length = z) (hl : xs.length = len) (hp : pl = List.range' 0 len) :
    mksA z zero len pl xs = (mkRows z xs).map fun rs => .sl .full z rs := by
  subst hl; subst hp
  unfold mksA
  rw [show zeroRow zero xs.length = [] ++ zeroRow zero xs.length from rfl, fillA_range hz xs [] 0 (by simp)]
  cases h : mkRows z xs with
  | none => rfl
  | some rs =>
    have := mkRows_len h
    simp only [Option.map_some, List.nil_append]
    rw [← this.1, rowsOf_flat' z rs this.2]
@[go_sem] theorem mks_1_1 (c0 x0 : AV) : mksA 1 [c0] 1 [0] [x0] = (mkRows 1 [x0]).map fun rs => .sl .full 1 rs := mksA_rows rfl rfl rfl
@[go_sem] theorem mks_1_2 (c0 x0 x1 : AV) : mksA 1 [c0] 2 [0, 1] [x0, x1] = (mkRows 1 [x0, x1]).map fun rs => .sl .full 1 rs := mksA_rows rfl rfl rfl
@[go_sem] theorem mks_1_3 (c0 x0 x1 x2 : AV) : mksA 1 [c0] 3 [0, 1, 2] [x0, x1, x2] = (mkRows 1 [x0, x1, x2]).map fun rs => .sl .full 1 rs := mksA_rows rfl rfl rfl
@[go_sem] theorem mks_1_4 (c0 x0 x1 x2 x3 : AV) : mksA 1 [c0] 4 [0, 1, 2, 3] [x0, x1, x2, x3] = (mkRows 1 [x0, x1, x2, x3]).map fun rs => .sl .full 1 rs := mksA_rows rfl rfl rfl
@[go_sem] theorem mks_1_5 (c0 x0 x1 x2 x3 x4 : AV) : mksA 1 [c0] 5 [0, 1, 2, 3, 4] [x0, x1, x2, x3, x4] = (mkRows 1 [x0, x1, x2, x3, x4]).map fun rs => .sl .full 1 rs := mksA_rows rfl rfl rfl
@[go_sem] theorem mks_1_6 (c0 x0 x1 x2 x3 x4 x5 : AV) : mksA 1 [c0] 6 [0, 1, 2, 3, 4, 5] [x0, x1, x2, x3, x4, x5] = (mkRows 1 [x0, x1, x2, x3, x4, x5]).map fun rs => .sl .full 1 rs := mksA_rows rfl rfl rfl
@[go_sem] theorem mks_1_10 (c0 x0 x1 x2 x3 x4 x5 x6 x7 x8 x9 : AV) : mksA 1 [c0] 10 [0, 1, 2, 3, 4, 5, 6, 7, 8, 9] [x0, x1, x2, x3, x4, x5, x6, x7, x8, x9] = (mkRows 1 [x0, x1, x2, x3, x4, x5, x6, x7, x8, x9]).map fun rs => .sl .full 1 rs := mksA_rows rfl rfl rfl
@[go_sem] theorem mks_2_1 (c0 c1 x0 : AV) : mksA 2 [c0, c1] 1 [0] [x0] = (mkRows 2 [x0]).map fun rs => .sl .full 2 rs := mksA_rows rfl rfl rfl
@[go_sem] theorem mks_2_2 (c0 c1 x0 x1 : AV) : mksA 2 [c0, c1] 2 [0, 1] [x0, x1] = (mkRows 2 [x0, x1]).map fun rs => .sl .full 2 rs := mksA_rows rfl rfl rfl
@[go_sem] theorem mks_2_3 (c0 c1 x0 x1 x2 : AV) : mksA 2 [c0, c1] 3 [0, 1, 2] [x0, x1, x2] = (mkRows 2 [x0, x1, x2]).map fun rs => .sl .full 2 rs := mksA_rows rfl rfl rfl
@[go_sem] theorem mks_2_4 (c0 c1 x0 x1 x2 x3 : AV) : mksA 2 [c0, c1] 4 [0, 1, 2, 3] [x0, x1, x2, x3] = (mkRows 2 [x0, x1, x2, x3]).map fun rs => .sl .full 2 rs := mksA_rows rfl rfl rfl
@[go_sem] theorem mks_2_5 (c0 c1 x0 x1 x2 x3 x4 : AV) : mksA 2 [c0, c1] 5 [0, 1, 2, 3, 4] [x0, x1, x2, x3, x4] = (mkRows 2 [x0, x1, x2, x3, x4]).map fun rs => .sl .full 2 rs := mksA_rows rfl rfl rfl
@[go_sem] theorem mks_2_6 (c0 c1 x0 x1 x2 x3 x4 x5 : AV) : mksA 2 [c0, c1] 6 [0, 1, 2, 3, 4, 5] [x0, x1, x2, x3, x4, x5] = (mkRows 2 [x0, x1, x2, x3, x4, x5]).map fun rs => .sl .full 2 rs := mksA_rows rfl rfl rfl
@[go_sem] theorem mks_2_10 (c0 c1 x0 x1 x2 x3 x4 x5 x6 x7 x8 x9 : AV) : mksA 2 [c0, c1] 10 [0, 1, 2, 3, 4, 5, 6, 7, 8, 9] [x0, x1, x2, x3, x4, x5, x6, x7, x8, x9] = (mkRows 2 [x0, x1, x2, x3, x4, x5, x6, x7, x8, x9]).map fun rs => .sl .full 2 rs := mksA_rows rfl rfl rfl
@[go_sem] theorem mks_3_1 (c0 c1 c2 x0 : AV) : mksA 3 [c0, c1, c2] 1 [0] [x0] = (mkRows 3 [x0]).map fun rs => .sl .full 3 rs := mksA_rows rfl rfl rfl
@[go_sem] theorem mks_3_2 (c0 c1 c2 x0 x1 : AV) : mksA 3 [c0, c1, c2] 2 [0, 1] [x0, x1] = (mkRows 3 [x0, x1]).map fun rs => .sl .full 3 rs := mksA_rows rfl rfl rfl
@[go_sem] theorem mks_3_3 (c0 c1 c2 x0 x1 x2 : AV) : mksA 3 [c0, c1, c2] 3 [0, 1, 2] [x0, x1, x2] = (mkRows 3 [x0, x1, x2]).map fun rs => .sl .full 3 rs := mksA_rows rfl rfl rfl
@[go_sem] theorem mks_3_4 (c0 c1 c2 x0 x1 x2 x3 : AV) : mksA 3 [c0, c1, c2] 4 [0, 1, 2, 3] [x0, x1, x2, x3] = (mkRows 3 [x0, x1, x2, x3]).map fun rs => .sl .full 3 rs := mksA_rows rfl rfl rfl
@[go_sem] theorem mks_3_5 (c0 c1 c2 x0 x1 x2 x3 x4 : AV) : mksA 3 [c0, c1, c2] 5 [0, 1, 2, 3, 4] [x0, x1, x2, x3, x4] = (mkRows 3 [x0, x1, x2, x3, x4]).map fun rs => .sl .full 3 rs := mksA_rows rfl rfl rfl
@[go_sem] theorem mks_3_6 (c0 c1 c2 x0 x1 x2 x3 x4 x5 : AV) : mksA 3 [c0, c1, c2] 6 [0, 1, 2, 3, 4, 5] [x0, x1, x2, x3, x4, x5] = (mkRows 3 [x0, x1, x2, x3, x4, x5]).map fun rs => .sl .full 3 rs := mksA_rows rfl rfl rfl
@[go_sem] theorem mks_3_10 (c0 c1 c2 x0 x1 x2 x3 x4 x5 x6 x7 x8 x9 : AV) : mksA 3 [c0, c1, c2] 10 [0, 1, 2, 3, 4, 5, 6, 7, 8, 9] [x0, x1, x2, x3, x4, x5, x6, x7, x8, x9] = (mkRows 3 [x0, x1, x2, x3, x4, x5, x6, x7, x8, x9]).map fun rs => .sl .full 3 rs := mksA_rows rfl rfl rfl
@[go_sem] theorem mks_4_1 (c0 c1 c2 c3 x0 : AV) : mksA 4 [c0, c1, c2, c3] 1 [0] [x0] = (mkRows 4 [x0]).map fun rs => .sl .full 4 rs := mksA_rows rfl rfl rfl
@[go_sem] theorem mks_4_2 (c0 c1 c2 c3 x0 x1 : AV) : mksA 4 [c0, c1, c2, c3] 2 [0, 1] [x0, x1] = (mkRows 4 [x0, x1]).map fun rs => .sl .full 4 rs := mksA_rows rfl rfl rfl
@[go_sem] theorem mks_4_3 (c0 c1 c2 c3 x0 x1 x2 : AV) : mksA 4 [c0, c1, c2, c3] 3 [0, 1, 2] [x0, x1, x2] = (mkRows 4 [x0, x1, x2]).map fun rs => .sl .full 4 rs := mksA_rows rfl rfl rfl
@[go_sem] theorem mks_4_4 (c0 c1 c2 c3 x0 x1 x2 x3 : AV) : mksA 4 [c0, c1, c2, c3] 4 [0, 1, 2, 3] [x0, x1, x2, x3] = (mkRows 4 [x0, x1, x2, x3]).map fun rs => .sl .full 4 rs := mksA_rows rfl rfl rfl
@[go_sem] theorem mks_4_5 (c0 c1 c2 c3 x0 x1 x2 x3 x4 : AV) : mksA 4 [c0, c1, c2, c3] 5 [0, 1, 2, 3, 4] [x0, x1, x2, x3, x4] = (mkRows 4 [x0, x1, x2, x3, x4]).map fun rs => .sl .full 4 rs := mksA_rows rfl rfl rfl
@[go_sem] theorem mks_4_6 (c0 c1 c2 c3 x0 x1 x2 x3 x4 x5 : AV) : mksA 4 [c0, c1, c2, c3] 6 [0, 1, 2, 3, 4, 5] [x0, x1, x2, x3, x4, x5] = (mkRows 4 [x0, x1, x2, x3, x4, x5]).map fun rs => .sl .full 4 rs := mksA_rows rfl rfl rfl
@[go_sem] theorem mks_4_10 (c0 c1 c2 c3 x0 x1 x2 x3 x4 x5 x6 x7 x8 x9 : AV) : mksA 4 [c0, c1, c2, c3] 10 [0, 1, 2, 3, 4, 5, 6, 7, 8, 9] [x0, x1, x2, x3, x4, x5, x6, x7, x8, x9] = (mkRows 4 [x0, x1, x2, x3, x4, x5, x6, x7, x8, x9]).map fun rs => .sl .full 4 rs := mksA_rows rfl rfl rfl

theorem cellsOfO_len {n : Nat} {x : AV} {cs : List AV} (h : cellsOfO n x = some cs) : cs.length = n := by
  unfold cellsOfO at h
  split at h
  · split at h
    · cases h; assumption
    · cases h
  · split at h
    · rename_i h1; cases h; exact h1.1
    · cases h
  · split at h
    · cases h; rename_i h1; simp [h1.1]
    · cases h
/-! appending -/
theorem appOK_le {bytes n : Nat} (h1 : bytes ≤ 100000) (h2 : n ≤ 1000000000) : appOK bytes n = true := by
  have : n * bytes ≤ 1000000000 * 100000 := Nat.mul_le_mul h2 h1
  simp only [appOK, decide_eq_true_eq]; omega
theorem appA_gen (md o : Own) (hm : md ≠ .no) (z bytes : Nat) (hz : 0 < z) (x y : List (List AV)) :
    appA false z bytes (.sl md z x) (.sl o z y) = if appOK bytes (x.length + y.length) = true then some (.sl .own z (x ++ y)) else none := by
  simp [appA, rowsA, appOK, hm, hz]
@[go_sem] theorem app_own1 (o : Own) (bytes : Nat) (x y : List (List AV)) : appA false 1 bytes (.sl .own 1 x) (.sl o 1 y) = if appOK bytes (x.length + y.length) = true then some (.sl .own 1 (x ++ y)) else none := appA_gen _ _ (by decide) _ _ (by decide) _ _
@[go_sem] theorem app_full1 (o : Own) (bytes : Nat) (x y : List (List AV)) : appA false 1 bytes (.sl .full 1 x) (.sl o 1 y) = if appOK bytes (x.length + y.length) = true then some (.sl .own 1 (x ++ y)) else none := appA_gen _ _ (by decide) _ _ (by decide) _ _
@[go_sem] theorem app_own2 (o : Own) (bytes : Nat) (x y : List (List AV)) : appA false 2 bytes (.sl .own 2 x) (.sl o 2 y) = if appOK bytes (x.length + y.length) = true then some (.sl .own 2 (x ++ y)) else none := appA_gen _ _ (by decide) _ _ (by decide) _ _
@[go_sem] theorem app_full2 (o : Own) (bytes : Nat) (x y : List (List AV)) : appA false 2 bytes (.sl .full 2 x) (.sl o 2 y) = if appOK bytes (x.length + y.length) = true then some (.sl .own 2 (x ++ y)) else none := appA_gen _ _ (by decide) _ _ (by decide) _ _
@[go_sem] theorem app_own3 (o : Own) (bytes : Nat) (x y : List (List AV)) : appA false 3 bytes (.sl .own 3 x) (.sl o 3 y) = if appOK bytes (x.length + y.length) = true then some (.sl .own 3 (x ++ y)) else none := appA_gen _ _ (by decide) _ _ (by decide) _ _
@[go_sem] theorem app_full3 (o : Own) (bytes : Nat) (x y : List (List AV)) : appA false 3 bytes (.sl .full 3 x) (.sl o 3 y) = if appOK bytes (x.length + y.length) = true then some (.sl .own 3 (x ++ y)) else none := appA_gen _ _ (by decide) _ _ (by decide) _ _
@[go_sem] theorem app_own4 (o : Own) (bytes : Nat) (x y : List (List AV)) : appA false 4 bytes (.sl .own 4 x) (.sl o 4 y) = if appOK bytes (x.length + y.length) = true then some (.sl .own 4 (x ++ y)) else none := appA_gen _ _ (by decide) _ _ (by decide) _ _
@[go_sem] theorem app_full4 (o : Own) (bytes : Nat) (x y : List (List AV)) : appA false 4 bytes (.sl .full 4 x) (.sl o 4 y) = if appOK bytes (x.length + y.length) = true then some (.sl .own 4 (x ++ y)) else none := appA_gen _ _ (by decide) _ _ (by decide) _ _
theorem app_str (md : Own) (hm : md ≠ .no) (bytes : Nat) (x : List (List AV)) (y : List UInt8) :
    appA true 1 bytes (.sl md 1 x) (.str y) = if appOK bytes (x.length + y.length) = true then some (.sl .own 1 (x ++ bytesRows y)) else none := by
  have : (bytesRows y).length = y.length := by simp [bytesRows]
  simp [appA, rowsA, appOK, hm, this]
@[go_sem] theorem app_strO (bytes : Nat) (x : List (List AV)) (y : List UInt8) :
    appA true 1 bytes (.sl .own 1 x) (.str y) = if appOK bytes (x.length + y.length) = true then some (.sl .own 1 (x ++ bytesRows y)) else none := app_str _ (by decide) _ _ _
@[go_sem] theorem app_strF (bytes : Nat) (x : List (List AV)) (y : List UInt8) :
    appA true 1 bytes (.sl .full 1 x) (.str y) = if appOK bytes (x.length + y.length) = true then some (.sl .own 1 (x ++ bytesRows y)) else none := app_str _ (by decide) _ _ _
theorem appOK_zero (bytes : Nat) : appOK bytes 0 = true := by simp [appOK]

/-! filling -/
def fillX (cells : Option (List AV)) (pl : List (Nat × Nat)) (xs : List AV) : Option (List AV) := cells.bind fun c => fillA c pl xs
@[go_sem] theorem fillA_nil (cells : List AV) : fillA cells [] [] = some cells := (rfl)
@[go_sem] theorem fillA_cons (cells : List AV) (off n : Nat) (pl : List (Nat × Nat)) (x : AV) (xs : List AV) : fillA cells ((off, n) :: pl) (x :: xs) = fillX ((cellsOfV n x).bind fun cs => putC off cs cells) pl xs := by
  simp only [fillA, fillX]
  cases cellsOfV n x with
  | none => rfl
  | some cs => simp only [Option.bind_some]; cases putC off cs cells <;> rfl
@[go_sem] theorem fillX_some (c : List AV) (pl : List (Nat × Nat)) (xs : List AV) : fillX (some c) pl xs = fillA c pl xs := (rfl)
@[go_sem] theorem fillX_none (pl : List (Nat × Nat)) (xs : List AV) : fillX none pl xs = none := (rfl)

def fillRX (cells : Option (List AV)) (pl : List (Nat × Nat)) (xs : List AV) : Option (List AV) := cells.bind fun c => fillR c pl xs
@[go_sem] theorem fillR_nil (cells : List AV) : fillR cells [] [] = some cells := (rfl)
@[go_sem] theorem fillR_cons (cells : List AV) (off n : Nat) (pl : List (Nat × Nat)) (x : AV) (xs : List AV) : fillR cells ((off, n) :: pl) (x :: xs) = fillRX ((cellsOfO n x).bind fun cs => putC off cs cells) pl xs := by
  simp only [fillR, fillRX]
  cases cellsOfO n x with
  | none => rfl
  | some cs => simp only [Option.bind_some]; cases putC off cs cells <;> rfl
@[go_sem] theorem fillRX_some (c : List AV) (pl : List (Nat × Nat)) (xs : List AV) : fillRX (some c) pl xs = fillR c pl xs := (rfl)
@[go_sem] theorem fillRX_none (pl : List (Nat × Nat)) (xs : List AV) : fillRX none pl xs = none := (rfl)

/-- Putting cells at a place, cell by cell. -/
def putL : Nat → List AV → List AV → Option (List AV)
  | _, [], cells => some cells
  | _, _ :: _, [] => none
  | 0, c :: cs, _ :: r => (putL 0 cs r).map fun t => c :: t
  | n + 1, c :: cs, x :: r => (putL n (c :: cs) r).map fun t => x :: t
theorem putL_none : ∀ (n : Nat) (cs cells : List AV), cells.length < n + cs.length → cs ≠ [] → putL n cs cells = none
  | _, [], _, _, h => absurd rfl h
  | _, _ :: _, [], _, _ => by simp [putL]
  | 0, c :: cs, x :: r, h, _ => by
    simp only [putL]
    cases cs with
    | nil => simp at h
    | cons c2 cs => rw [putL_none 0 (c2 :: cs) r (by simp at h ⊢; omega) (by simp)]; rfl
  | n + 1, c :: cs, x :: r, h, _ => by
    simp only [putL]
    rw [putL_none n (c :: cs) r (by simp at h ⊢; omega) (by simp)]; rfl
theorem putC_L : ∀ (n : Nat) (cs cells : List AV), cs ≠ [] → putC n cs cells = putL n cs cells
  | _, [], _, h => absurd rfl h
  | n, c :: cs, [], _ => by simp [putC, putL]
  | 0, [c], x :: r, _ => by simp [putC, putL]
  | 0, c :: c2 :: cs, x :: r, _ => by
    have := putC_L 0 (c2 :: cs) r (by simp)
    simp only [putL]
    rw [← this]
    unfold putC
    simp only [List.length_cons, Nat.zero_add, List.take_zero, List.nil_append, Nat.add_le_add_iff_right]
    split <;> simp
  | n + 1, c :: cs, x :: r, _ => by
    have := putC_L n (c :: cs) r (by simp)
    simp only [putL]
    rw [← this]
    unfold putC
    simp only [List.length_cons]
    by_cases h : n + (cs.length + 1) ≤ r.length
    · rw [if_pos h, if_pos (by omega)]
      simp [show n + 1 + (cs.length + 1) = n + (cs.length + 1) + 1 by omega]
    · rw [if_neg h, if_neg (by omega)]; rfl
@[go_sem] theorem putC_eqL (n : Nat) (c : AV) (cs cells : List AV) : putC n (c :: cs) cells = putL n (c :: cs) cells := putC_L _ _ _ (by simp)
@[go_sem] theorem putL_nil (n : Nat) (cells : List AV) : putL n [] cells = some cells := by cases n <;> simp [putL]
@[go_sem] theorem putL_z (c x : AV) (cs r : List AV) : putL 0 (c :: cs) (x :: r) = (putL 0 cs r).map fun t => c :: t := (rfl)
@[go_sem] theorem putL_s (n : Nat) (c x : AV) (cs r : List AV) : putL (n + 1) (c :: cs) (x :: r) = (putL n (c :: cs) r).map fun t => x :: t := (rfl)
@[go_sem] theorem putL_s1 (c x : AV) (cs r : List AV) : putL 1 (c :: cs) (x :: r) = (putL 0 (c :: cs) r).map fun t => x :: t := (rfl)
@[go_sem] theorem putL_s2 (c x : AV) (cs r : List AV) : putL 2 (c :: cs) (x :: r) = (putL 1 (c :: cs) r).map fun t => x :: t := (rfl)
@[go_sem] theorem putL_s3 (c x : AV) (cs r : List AV) : putL 3 (c :: cs) (x :: r) = (putL 2 (c :: cs) r).map fun t => x :: t := (rfl)
@[go_sem] theorem putL_s4 (c x : AV) (cs r : List AV) : putL 4 (c :: cs) (x :: r) = (putL 3 (c :: cs) r).map fun t => x :: t := (rfl)
@[go_sem] theorem putL_s5 (c x : AV) (cs r : List AV) : putL 5 (c :: cs) (x :: r) = (putL 4 (c :: cs) r).map fun t => x :: t := (rfl)
@[go_sem] theorem putL_s6 (c x : AV) (cs r : List AV) : putL 6 (c :: cs) (x :: r) = (putL 5 (c :: cs) r).map fun t => x :: t := (rfl)
@[go_sem] theorem putL_s7 (c x : AV) (cs r : List AV) : putL 7 (c :: cs) (x :: r) = (putL 6 (c :: cs) r).map fun t => x :: t := (rfl)
@[go_sem] theorem putL_s8 (c x : AV) (cs r : List AV) : putL 8 (c :: cs) (x :: r) = (putL 7 (c :: cs) r).map fun t => x :: t := (rfl)

/-! modes that vary -/
def demO : Own → Own
  | .own => .no
  | o => o
@[go_sem] theorem demO_own : demO .own = .no := (rfl)
@[go_sem] theorem demO_no : demO .no = .no := (rfl)
@[go_sem] theorem demO_full : demO .full = .full := (rfl)
theorem demV_sl (o : Own) (z : Nat) (x : List (List AV)) : demV (.sl o z x) = .sl (demO o) z x := by cases o <;> rfl
def mdK (o : Own) : Nat → Own
  | 0 => o
  | _ + 1 => .own
@[go_sem] theorem mdK_own (k : Nat) : mdK .own k = .own := by cases k <;> rfl
@[go_sem] theorem mdK_zero (o : Own) : mdK o 0 = o := (rfl)
@[go_sem] theorem mdK_succ (o : Own) (k : Nat) : mdK o (k + 1) = .own := (rfl)
theorem natOf_pos {n : Int} (h : 0 ≤ n) : natOf n = some n.toNat := by simp [natOf, h]
@[go_sem] theorem slcA_hi (md : Own) (z : Nat) (x : List (List AV)) (k : IntKind) (n : Int) (h : 0 ≤ n) (h2 : n ≤ (x.length : Int)) : sliceA false z (.sl md z x) none (some (.int k n)) = some (.sl .no z (x.take n.toNat)) := by
  simp only [sliceA, boundA, natOf_pos h]
  rw [if_pos ⟨by omega, by omega, .inl trivial⟩]; simp
@[go_sem] theorem slcA_lo (md : Own) (z : Nat) (x : List (List AV)) (k : IntKind) (n : Int) (h : 0 ≤ n) (h2 : n ≤ (x.length : Int)) : sliceA false z (.sl md z x) (some (.int k n)) none = some (.sl .no z (x.drop n.toNat)) := by
  simp only [sliceA, boundA, natOf_pos h]
  rw [if_pos ⟨by omega, by omega, .inl trivial⟩]; simp
@[go_sem] theorem slcA_both (md : Own) (z : Nat) (x : List (List AV)) (k k' : IntKind) (n j : Int) (h : 0 ≤ n) (h1 : n ≤ j) (h2 : j ≤ (x.length : Int)) : sliceA false z (.sl md z x) (some (.int k n)) (some (.int k' j)) = some (.sl .no z ((x.take j.toNat).drop n.toNat)) := by
  simp only [sliceA, boundA, natOf_pos h, natOf_pos (Int.le_trans h h1)]
  rw [if_pos ⟨by omega, by omega, .inl trivial⟩]
@[go_sem] theorem slcA_all (md : Own) (z : Nat) (x : List (List AV)) : sliceA false z (.sl md z x) none none = some (.sl .no z x) := by
  simp [sliceA, boundA]
@[go_sem] theorem slcS_hi (z : Nat) (x : List UInt8) (k : IntKind) (n : Int) (h : 0 ≤ n) (h2 : n ≤ (x.length : Int)) : sliceA true z (.str x) none (some (.int k n)) = some (.str (x.take n.toNat)) := by
  simp only [sliceA, boundA, natOf_pos h]
  rw [if_pos ⟨by omega, by omega⟩]; simp
@[go_sem] theorem slcS_lo (z : Nat) (x : List UInt8) (k : IntKind) (n : Int) (h : 0 ≤ n) (h2 : n ≤ (x.length : Int)) : sliceA true z (.str x) (some (.int k n)) none = some (.str (x.drop n.toNat)) := by
  simp only [sliceA, boundA, natOf_pos h]
  rw [if_pos ⟨by omega, by omega⟩]; simp
@[go_sem] theorem slcS_both (z : Nat) (x : List UInt8) (k k' : IntKind) (n j : Int) (h : 0 ≤ n) (h1 : n ≤ j) (h2 : j ≤ (x.length : Int)) : sliceA true z (.str x) (some (.int k n)) (some (.int k' j)) = some (.str ((x.take j.toNat).drop n.toNat)) := by
  simp only [sliceA, boundA, natOf_pos h, natOf_pos (Int.le_trans h h1)]
  rw [if_pos ⟨by omega, by omega⟩]
@[go_sem] theorem slcO_hi (z o off m : Nat) (k : IntKind) (n : Int) (h : 0 ≤ n) (h2 : n ≤ (m : Int)) : sliceA false z (.ss o off m z) none (some (.int k n)) = some (.ss o off n.toNat z) := by
  simp only [sliceA, boundA, natOf_pos h]
  rw [if_pos ⟨by omega, by omega, trivial⟩]; simp
@[go_sem] theorem slcO_lo (z o off m : Nat) (k : IntKind) (n : Int) (h : 0 ≤ n) (h2 : n ≤ (m : Int)) : sliceA false z (.ss o off m z) (some (.int k n)) none = if n = 0 ∨ n < m then some (.ss o (off + n.toNat * z) (m - n.toNat) z) else some (.sl .no z []) := by
  simp only [sliceA, boundA, natOf_pos h]
  rw [if_pos ⟨by omega, by omega, trivial⟩]
  by_cases hc : n = 0 ∨ n < m
  · rw [if_pos hc, if_pos (by omega)]
  · rw [if_neg hc, if_neg (by omega)]
@[go_sem] theorem slcO_all (z o off m : Nat) : sliceA false z (.ss o off m z) none none = some (.ss o off m z) := by
  simp [sliceA, boundA]
theorem w64 {n : Int} (h1 : -9223372036854775808 ≤ n) (h2 : n ≤ 9223372036854775807) : IntKind.i64.wrap n = n := IntWalk.i64_in n ⟨h1, h2⟩
end Go.Av
