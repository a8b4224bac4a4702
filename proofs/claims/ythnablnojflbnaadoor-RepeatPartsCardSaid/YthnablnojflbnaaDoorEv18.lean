/- A part of the proof: Ev18. No conditions. -/
import Derived.Test.YthnablnojflbnaaDoorEv17
set_option linter.unusedSimpArgs false
set_option linter.unusedVariables false
namespace Go.Av

/-! ### Frames and local variables as lists, for reckoning -/
def look {α : Type} (d : α) : List (Nat × α) → Nat → α
  | [], _ => d
  | (k, v) :: r, t => if t = k then v else look d r t

def setl {α : Type} : List (Nat × α) → Nat → α → List (Nat × α)
  | [], k, v => [(k, v)]
  | (k', v') :: r, k, v => if k = k' then (k, v) :: r else if k < k' then (k, v) :: (k', v') :: r else (k', v') :: setl r k v

theorem look_setl {α : Type} (d : α) (k : Nat) (v : α) (t : Nat) : ∀ l, look d (setl l k v) t = if t = k then v else look d l t
  | [] => rfl
  | (k', v') :: r => by
    simp only [setl]
    split
    · rename_i h
      subst h
      simp only [look]
      split <;> rfl
    · rename_i h
      split
      · simp only [look]
      · simp only [look]
        rw [look_setl d k v t r]
        by_cases h1 : t = k'
        · subst h1
          rw [if_pos rfl, if_pos rfl, if_neg (fun e => h e.symm)]
        · rw [if_neg h1, if_neg h1]

theorem upd_look {α : Type} (d : α) (l : List (Nat × α)) (k : Nat) (v : α) : upd (look d l) k v = look d (setl l k v) := by
  funext t
  rw [look_setl]
  rfl

def killl (kill : List Nat) : List (Nat × AV) → List (Nat × AV)
  | [] => []
  | (k, v) :: r => if k ∈ kill then killl kill r else (k, scrubV kill v) :: killl kill r
def dropl {α : Type} (kill : List Nat) : List (Nat × α) → List (Nat × α)
  | [] => []
  | (k, v) :: r => if k ∈ kill then dropl kill r else (k, v) :: dropl kill r
def scrl (al : List Nat) : List (Nat × AV) → List (Nat × AV)
  | [] => []
  | (k, v) :: r => (k, scrubV al v) :: scrl al r

theorem look_kill (kill : List Nat) (t : Nat) : ∀ l, look .any (killl kill l) t = if t ∈ kill then .any else scrubV kill (look .any l t)
  | [] => by simp [killl, look, scrubV]
  | (k, v) :: r => by
    simp only [killl]
    by_cases hk : k ∈ kill
    · rw [if_pos hk, look_kill kill t r]
      by_cases ht : t ∈ kill
      · simp [ht]
      · have : t ≠ k := by rintro rfl; exact ht hk
        simp [ht, look, this]
    · rw [if_neg hk]
      simp only [look]
      rw [look_kill kill t r]
      by_cases h : t = k
      · subst h; simp [hk]
      · simp [h]
theorem look_scr (al : List Nat) (t : Nat) : ∀ l, look .any (scrl al l) t = scrubV al (look .any l t)
  | [] => by simp [scrl, look, scrubV]
  | (k, v) :: r => by
    simp only [scrl, look]
    split
    · rfl
    · exact look_scr al t r
theorem look_drop {α : Type} (kill : List Nat) (t : Nat) : ∀ l : List (Nat × Option α), look none (dropl kill l) t = if t ∈ kill then none else look none l t
  | [] => by simp [dropl, look]
  | (k, v) :: r => by
    simp only [dropl]
    by_cases hk : k ∈ kill
    · rw [if_pos hk, look_drop kill t r]
      by_cases ht : t ∈ kill
      · simp [ht]
      · have : t ≠ k := by rintro rfl; exact ht hk
        simp [ht, look, this]
    · rw [if_neg hk]
      simp only [look]
      rw [look_drop kill t r]
      by_cases h : t = k
      · subst h; simp [hk]
      · simp [h]

/-- A state written out. -/
def ST (l : List (Nat × AV)) (m : List (Nat × Option (List AV))) (sh : List (List AV)) : AS := { fr := look .any l, lo := look none m, sh := sh }

variable {l : List (Nat × AV)} {m : List (Nat × Option (List AV))} {sh : List (List AV)}

theorem ST_fr (t : Nat) : (ST l m sh).fr t = look .any l t := rfl
theorem ST_frf : (ST l m sh).fr = look .any l := rfl
theorem ST_lo (t : Nat) : (ST l m sh).lo t = look none m t := rfl
theorem ST_sh : (ST l m sh).sh = sh := rfl

theorem forget_ST (kill : List Nat) : forget kill (ST l m sh) = ST (killl kill l) (dropl kill m) sh := by
  unfold forget ST
  simp only [AS.mk.injEq, and_true]
  exact ⟨by funext t; rw [look_kill], by funext t; rw [look_drop]⟩
theorem scrub_ST (al : List Nat) : scrub al (ST l m sh) = ST (scrl al l) (dropl al m) sh := by
  unfold scrub ST
  simp only [AS.mk.injEq, and_true]
  exact ⟨by funext t; rw [look_scr], by funext t; rw [look_drop]⟩
theorem scrub_nil (σ : AS) : scrub [] σ = σ := by
  unfold scrub
  have h1 : (fun t => scrubV [] (σ.fr t)) = σ.fr := by
    funext t
    cases σ.fr t <;> simp [scrubV]
  have h2 : (fun s => if s ∈ ([] : List Nat) then none else σ.lo s) = σ.lo := by funext s; simp
  rw [h1, h2]
theorem put_ST (d : Nat) (v : AV) : put (ST l m sh) (some d) v = ST (setl l d v) m sh := by
  unfold put ST
  simp only [upd_look]
theorem put_none (σ : AS) (v : AV) : put σ none v = σ := rfl
theorem demS_ST (d : Nat) : demS (ST l m sh) (some d) = ST (setl l d (demV (look .any l d))) m sh := by
  unfold demS ST
  simp only [upd_look]
theorem demS_none (σ : AS) : demS σ none = σ := rfl
theorem wrm_none (σ : AS) (v : MV) : wrm σ v .none = σ := rfl
theorem wrm_lo (s : Nat) (v : MV) : wrm (ST l m sh) v (.lo s) = ST l (setl m s v.1) sh := by
  unfold wrm ST
  simp only [upd_look]
theorem wrm_sh (v : MV) : wrm (ST l m sh) v .sh = ST l m v.2 := rfl
theorem rdm_none (σ : AS) : rdm σ .none = (none, []) := rfl
theorem rdm_lo (s : Nat) : rdm (ST l m sh) (.lo s) = (look none m s, []) := rfl
theorem rdm_sh : rdm (ST l m sh) .sh = (none, sh) := rfl

def argl : Nat → List AV → List (Nat × AV)
  | _, [] => []
  | k, a :: as => (k, a) :: argl (k + 1) as
theorem look_argl (args : List AV) (t : Nat) : ∀ k, look .any (argl k args) t = if t < k then .any else (args[t - k]?).getD .any := by
  induction args with
  | nil => intro k; simp [argl, look]
  | cons a as ih =>
    intro k
    simp only [argl, look]
    rw [ih]
    by_cases h : t = k
    · subst h; simp
    · rw [if_neg h]
      by_cases h2 : t < k
      · rw [if_pos (by omega), if_pos h2]
      · rw [if_neg (by omega), if_neg h2]
        have : t - k = (t - (k + 1)) + 1 := by omega
        rw [this]; simp
theorem initA_ST (args : List AV) (sh : List (List AV)) : initA args sh = ST (argl 0 args) [] sh := by
  unfold initA ST
  simp only [AS.mk.injEq, and_true]
  refine ⟨?_, by funext s; rfl⟩
  funext t
  rw [look_argl]
  simp

end Go.Av
