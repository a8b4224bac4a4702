/- Groups of repetitions: lists in a list, each an object of its own. Groups of repetitions: the program's walk. -/
import Derived.Test.YthnablnojflbnaaDoorSB
set_option linter.unusedSimpArgs false
set_option linter.unusedVariables false
namespace Go.Av
open Go.Nt
set_option linter.unusedSimpArgs false
set_option linter.unusedVariables false
set_option maxHeartbeats 16000000
set_option maxRecDepth 100000
theorem RokS.ext {sh : List (List AV)} (h : RokS sh) (rows : List (List AV)) : RokS (sh ++ [[.mapv rows]]) := by
  unfold RokS at h ⊢
  have mono : ∀ (n : Nat) (x : AV), refLt n x = true → refLt (n + 1) x = true := by
    intro n x hx
    cases x <;> first | rfl | (simp only [refLt, decide_eq_true_eq] at hx ⊢; omega)
  rw [List.length_append, List.length_singleton, List.all_append, Bool.and_eq_true]
  constructor
  · rw [List.all_eq_true] at h ⊢
    intro c hc
    have := h c hc
    rw [List.all_eq_true] at this ⊢
    exact fun x hx => mono _ x (this x hx)
  · rfl
theorem LV.ext {V : AV} {sh : List (List AV)} {L : List (List Tk)} (h : LV V sh L) (X : List (List AV)) : LV V (sh ++ X) L :=
  ⟨h.len, h.scrub, h.dem, h.arg, fun i f hf => by
    obtain ⟨P, h1, h2⟩ := h.at_ i f hf
    exact ⟨P, h1, fun Y m => by rw [List.append_assoc]; exact h2 (X ++ Y) m⟩⟩
section
variable {S : List (List AV)} {Mp : List AV} {E : List (List AV)}
theorem sg (o : Nat) : (S ++ (Mp :: E))[S.length + 1 + o]? = E[o]? := by
  rw [List.getElem?_append_right (by omega), show S.length + 1 + o - S.length = o + 1 by omega, List.getElem?_cons_succ]
theorem ss_ (o : Nat) (x : List AV) : (S ++ (Mp :: E)).set (S.length + 1 + o) x = S ++ (Mp :: E.set o x) := by
  rw [List.set_append_right _ _ (by omega), show S.length + 1 + o - S.length = o + 1 by omega, List.set_cons_succ]
theorem sl_ : (S ++ (Mp :: E)).length = S.length + 1 + E.length := by rw [List.length_append, List.length_cons]; omega
theorem sq (x : List AV) : (S ++ (Mp :: E)).set S.length x = S ++ (x :: E) := by
  rw [List.set_append_right _ _ (by omega), Nat.sub_self]; rfl
theorem sc (c : List AV) : (S ++ (Mp :: E)) ++ [c] = S ++ (Mp :: (E ++ [c])) := by simp
end
theorem mapOfQ (S E rows : List (List AV)) : mapOf (S ++ ([.mapv rows] :: E)) S.length = some rows := by
  unfold mapOf
  rw [List.getElem?_append_right (by omega), Nat.sub_self]
  rfl
def cellG (q : Nat) (I : List Nat) (G : List (List Int)) : List AV := List.zipWith (fun o g => AV.ss (q + 1 + o) 0 g.length 1) I G
theorem cellG_len {q : Nat} {I : List Nat} {G : List (List Int)} (h : I.length = G.length) : (cellG q I G).length = G.length := by unfold cellG; rw [List.length_zipWith, h, Nat.min_self]
theorem cellG_at {q : Nat} {I : List Nat} {G : List (List Int)} {j o : Nat} {g : List Int} (h1 : I[j]? = some o) (h2 : G[j]? = some g) : (cellG q I G)[j]? = some (.ss (q + 1 + o) 0 g.length 1) := by
  unfold cellG; rw [List.getElem?_zipWith, h1, h2]
theorem cellG_app {q : Nat} {I : List Nat} {G : List (List Int)} (h : I.length = G.length) (o : Nat) (g : List Int) : cellG q (I ++ [o]) (G ++ [g]) = cellG q I G ++ [.ss (q + 1 + o) 0 g.length 1] := by
  unfold cellG; rw [List.zipWith_append h]; rfl
theorem cellG_set {q : Nat} {I : List Nat} {G : List (List Int)} (h : I.length = G.length) (j o : Nat) (g : List Int) : (cellG q I G).set j (.ss (q + 1 + o) 0 g.length 1) = cellG q (I.set j o) (G.set j g) := by
  apply List.ext_getElem?
  intro i
  unfold cellG
  rw [List.getElem?_set, List.getElem?_zipWith, List.getElem?_zipWith, List.getElem?_set, List.getElem?_set, List.length_zipWith, h, Nat.min_self]
  by_cases hi : j = i
  · subst hi
    rw [if_pos rfl, if_pos rfl, if_pos rfl]
    by_cases hl : j < G.length
    · simp only [if_pos hl]
    · simp only [if_neg hl]
  · rw [if_neg hi, if_neg hi, if_neg hi]
theorem cellG_all (p : AV → Bool) (hp : ∀ o n, p (.ss o 0 n 1) = true) (q : Nat) : ∀ (I : List Nat) (G : List (List Int)), (cellG q I G).all p = true
  | [], _ => rfl
  | _ :: _, [] => rfl
  | i :: I, g :: G => by
    show (p _ && (cellG q I G).all p) = true
    rw [hp, cellG_all p hp q I G]; rfl
theorem blk_of {c : List AV} (h : ∀ x ∈ c, (∃ o n, x = .ss o 0 n 1) ∨ (∃ k n, x = .int k n) ∨ x = .sl .full 1 []) : blkB c = true := by
  cases c with
  | nil => rfl
  | cons a c =>
    rcases h a (by simp) with ⟨o, n, rfl⟩ | ⟨k, n, rfl⟩ | rfl <;> (cases c <;> rfl)
theorem cellG_mem {q : Nat} {I : List Nat} {G : List (List Int)} : ∀ x ∈ cellG q I G, ∃ o n, x = .ss o 0 n 1 := by
  intro x hx
  obtain ⟨j, hj⟩ := List.mem_iff_getElem?.1 hx
  unfold cellG at hj
  rw [List.getElem?_zipWith] at hj
  cases h1 : I[j]? with
  | none => rw [h1] at hj; cases hj
  | some o =>
    cases h2 : G[j]? with
    | none => rw [h1, h2] at hj; cases hj
    | some g => rw [h1, h2] at hj; cases hj; exact ⟨_, _, rfl⟩
theorem icl_blk (g : List Int) : blkB (icl g) = true := blk_of fun x hx => by
  obtain ⟨v, _, rfl⟩ := List.mem_map.1 hx
  exact .inr (.inl ⟨_, _, rfl⟩)
theorem icl_nown : ∀ g : List Int, (icl g).all nownB = true
  | [] => rfl
  | a :: g => by
    show (nownB _ && (icl g).all nownB) = true
    rw [icl_nown g]; rfl
theorem putC_set {c : List AV} {i : Nat} (h : i < c.length) (x : AV) : putC i [x] c = some (c.set i x) := by
  unfold putC
  rw [if_pos (by simp; omega)]
  congr 1
  rw [List.set_eq_take_append_cons_drop, if_pos h]
  simp
def REF (n : Nat) (E : List (List AV)) : Prop := ∀ c ∈ E, ∀ x ∈ c, refLt n x = true
theorem REF.set {n : Nat} {E : List (List AV)} (h : REF n E) (i : Nat) {c : List AV} (hc : ∀ x ∈ c, refLt n x = true) : REF n (E.set i c) := by
  intro d hd
  rcases List.mem_or_eq_of_mem_set hd with q | q
  · exact h d q
  · rw [q]; exact hc
theorem REF.app {n : Nat} {E : List (List AV)} (h : REF n E) {c : List AV} (hc : ∀ x ∈ c, refLt n x = true) : REF n (E ++ [c]) := by
  intro d hd
  rcases List.mem_append.1 hd with q | q
  · exact h d q
  · rw [List.mem_singleton] at q; rw [q]; exact hc
theorem refMono {n n' : Nat} (h : n ≤ n') {x : AV} (hx : refLt n x = true) : refLt n' x = true := by
  cases x <;> first | rfl | (simp only [refLt, decide_eq_true_eq] at hx ⊢; omega)
theorem REF.mono {n n' : Nat} {E : List (List AV)} (h : REF n E) (hn : n ≤ n') : REF n' E := fun c hc x hx => refMono hn (h c hc x hx)
theorem ref_icl (n : Nat) (g : List Int) : ∀ x ∈ icl g, refLt n x = true := fun x hx => by
  obtain ⟨v, _, rfl⟩ := List.mem_map.1 hx
  rfl
theorem ref_dead (n : Nat) : ∀ x ∈ dead, refLt n x = true := fun x hx => by
  simp only [dead, List.mem_singleton] at hx
  subst hx; rfl
theorem ref_cellG {q n m : Nat} {I : List Nat} {G : List (List Int)} (h : ∀ (j a : Nat), I[j]? = some a → a < m) (hn : q + 1 + m ≤ n) : ∀ x ∈ cellG q I G, refLt n x = true := by
  intro x hx
  obtain ⟨j, hj⟩ := List.mem_iff_getElem?.1 hx
  unfold cellG at hj
  rw [List.getElem?_zipWith] at hj
  cases h1 : I[j]? with
  | none => rw [h1] at hj; cases hj
  | some o =>
    cases h2 : G[j]? with
    | none => rw [h1, h2] at hj; cases hj
    | some g =>
      rw [h1, h2] at hj; cases hj
      have := h j o h1
      simp only [refLt, decide_eq_true_eq]; omega
/-- the groups, and the objects they lie in -/
def GS (q : Nat) (v : AV) (E : List (List AV)) (G : List (List Int)) : Prop :=
  (G = [] ∧ v = .sl .full 1 [] ∧ E = []) ∨ ∃ (o : Nat) (I : List Nat), v = .ss (q + 1 + o) 0 G.length 1 ∧ I.length = G.length ∧ E[o]? = some (cellG q I G) ∧
    (∀ (j a : Nat), I[j]? = some a → a ≠ o) ∧ (∀ (j j' a : Nat), I[j]? = some a → I[j']? = some a → j = j') ∧ (∀ (j a : Nat) (g : List Int), I[j]? = some a → G[j]? = some g → E[a]? = some (icl g)) ∧ REF (q + 1 + E.length) E
theorem GS.scrub {q : Nat} {v : AV} {E : List (List AV)} {G : List (List Int)} (h : GS q v E G) (k : List Nat) : scrubV k v = v := by
  rcases h with ⟨_, rfl, _⟩ | ⟨o, I, rfl, _⟩ <;> rfl
theorem GS.dem {q : Nat} {v : AV} {E : List (List AV)} {G : List (List Int)} (h : GS q v E G) : demV v = v := by
  rcases h with ⟨_, rfl, _⟩ | ⟨o, I, rfl, _⟩ <;> rfl
theorem GS.len {q : Nat} {v : AV} {E : List (List AV)} {G : List (List Int)} (h : GS q v E G) : lenA' false v = some (.int .i64 (G.length : Int)) := by
  rcases h with ⟨rfl, rfl, _⟩ | ⟨o, I, rfl, _⟩ <;> rfl
theorem lt_of {α : Type} {l : List α} {i : Nat} {x : α} (h : l[i]? = some x) : i < l.length := by
  by_cases q : i < l.length
  · exact q
  · rw [List.getElem?_eq_none (by omega)] at h; cases h
theorem I_at {I : List Nat} {G : List (List Int)} (h : I.length = G.length) {j : Nat} (hj : j < G.length) : ∃ a, I[j]? = some a := ⟨I[j]'(by omega), List.getElem?_eq_getElem (by omega)⟩
/-- one more element in a group -/
theorem GS.more {S : List (List AV)} {Mp : List AV} {v : AV} {E : List (List AV)} {G : List (List Int)} (h : GS S.length v E G) {j : Nat} {g : List Int} (hg : G[j]? = some g) (i : Int) (hl : g.length ≤ 1000000) :
    ∃ P W W' sh2 E3, iaK 1 v (.int .i64 (j : Int)) = some P ∧ (∀ m, ldA .sh false 1 m (S ++ (Mp :: E)) P = some W) ∧ appSA 1 8 (S ++ (Mp :: E)) (some [[.int .i64 i]]) W = some (W', sh2) ∧ cellsOfO 1 W' = some [W'] ∧
      (∀ l m, stX .sh 1 l m sh2 P (some [W']) = some (ST l m (S ++ (Mp :: E3)))) ∧ GS S.length v E3 (G.set j (g ++ [i])) := by
  have hjl := lt_of hg
  rcases h with ⟨rfl, _, _⟩ | ⟨o, I, rfl, h1, h2, h3, h4, h5, h6⟩
  · simp at hjl
  obtain ⟨a, ha⟩ := I_at h1 hjl
  have hao := h3 j a ha
  have hEa := h5 j a g ha hg
  have hol := lt_of h2
  have hal := lt_of hEa
  have happ : appOK 8 (g.length + 1) = true := appOK_le (by decide) (by omega)
  refine ⟨.ptr (S.length + 1 + o) j, .ss (S.length + 1 + a) 0 g.length 1, .ss (S.length + 1 + E.length) 0 (g ++ [i]).length 1, S ++ (Mp :: (E.set a dead ++ [icl (g ++ [i])])), (E.set a dead ++ [icl (g ++ [i])]).set o (cellG S.length (I.set j E.length) (G.set j (g ++ [i]))), ?_, ?_, ?_, rfl, ?_, ?_⟩
  · rw [iaK_ss, if_pos (by omega), Int.toNat_natCast]; simp
  · intro m
    rw [ldA_ptr, sg, h2]
    simp only [Option.bind_some, ldC, Bool.false_eq_true, if_false, cellG_at ha hg]
    rfl
  · rw [appSA_ss _ _ 8 1 (by decide), List.length_singleton, if_pos happ, sg, hEa]
    simp only [Option.bind_some]
    rw [if_pos ⟨icl_blk g, by rw [icl_len]; omega, icl_nown g⟩, ss_, sc, sl_, List.length_append]
    simp [icl]
  · intro l m
    have e2 : (E.set a dead ++ [icl (g ++ [i])])[o]? = some (cellG S.length I G) := by
      rw [List.getElem?_append_left (by simp; exact hol), List.getElem?_set, if_neg hao]
      exact h2
    rw [stX_ptr, sg, e2]
    simp only [Option.bind_some]
    rw [if_pos (blk_of fun x hx => .inl (cellG_mem x hx)), putC_set (by rw [cellG_len h1]; exact hjl), cellG_set h1, Option.map_some, ss_]
  · refine .inr ⟨o, I.set j E.length, by simp, by simp [h1], ?_, ?_, ?_, ?_, ?_⟩
    · rw [List.getElem?_set, if_pos rfl, if_pos (by simp; omega)]
    · intro j' b hb
      rw [List.getElem?_set] at hb
      split at hb
      · split at hb
        · cases hb; omega
        · cases hb
      · exact h3 j' b hb
    · intro j1 j2 b hb1 hb2
      have fresh : ∀ j' : Nat, I[j']? ≠ some E.length := by
        intro j' hj'
        have hjl' : j' < G.length := by have := lt_of hj'; omega
        have := lt_of (h5 j' E.length G[j'] hj' (List.getElem?_eq_getElem hjl'))
        omega
      rw [List.getElem?_set] at hb1 hb2
      split at hb1
      · rename_i e1
        split at hb1
        · cases hb1
          split at hb2
          · rename_i e2; rw [← e1, ← e2]
          · exact absurd hb2 (fresh _)
        · cases hb1
      · split at hb2
        · split at hb2
          · cases hb2; exact absurd hb1 (fresh _)
          · cases hb2
        · exact h4 j1 j2 b hb1 hb2
    · intro j' b g' hb hg'
      have hlen : (E.set a dead).length = E.length := by simp
      rw [List.getElem?_set] at hb hg'
      by_cases e : j = j'
      · rw [if_pos e] at hb hg'
        split at hb
        · cases hb
          split at hg'
          · cases hg'
            rw [List.getElem?_set, if_neg (by omega), List.getElem?_append_right (by omega), hlen, Nat.sub_self]
            rfl
          · omega
        · cases hb
      · rw [if_neg e] at hb hg'
        have hb0 := h5 j' b g' hb hg'
        have hbl := lt_of hb0
        have hba : a ≠ b := fun q => e (h4 j j' a ha (by rw [q]; exact hb))
        rw [List.getElem?_set, if_neg (fun q => h3 j' b hb q.symm), List.getElem?_append_left (by omega), List.getElem?_set, if_neg hba]
        exact hb0
    · rw [List.length_set, List.length_append, List.length_set, List.length_singleton]
      refine ((((h6.mono (by omega)).set a (ref_dead _)).app (ref_icl _ _)).set o (ref_cellG (m := E.length + 1) ?_ (by omega)))
      intro j' b hb
      rw [List.getElem?_set] at hb
      split at hb
      · split at hb
        · cases hb; omega
        · cases hb
      · have hj' : j' < G.length := by have := lt_of hb; omega
        have := lt_of (h5 j' b G[j'] hb (List.getElem?_eq_getElem hj'))
        omega
/-- a new group -/
theorem GS.new {S : List (List AV)} {Mp : List AV} {v : AV} {E : List (List AV)} {G : List (List Int)} (h : GS S.length v E G) (i : Int) (hl : G.length ≤ 1000000) :
    ∃ v1 sh1 P W W' sh2 E3, appSA 1 24 (S ++ (Mp :: E)) (some [[.sl .full 1 []]]) v = some (v1, sh1) ∧ (∀ k, scrubV k v1 = v1) ∧ demV v1 = v1 ∧
      iaK 1 v1 (.int .i64 (G.length : Int)) = some P ∧ (∀ m, ldA .sh false 1 m sh1 P = some W) ∧ appSA 1 8 sh1 (some [[.int .i64 i]]) W = some (W', sh2) ∧ cellsOfO 1 W' = some [W'] ∧
      (∀ l m, stX .sh 1 l m sh2 P (some [W']) = some (ST l m (S ++ (Mp :: E3)))) ∧ GS S.length v1 E3 (G ++ [[i]]) := by
  -- the outer list, with a nil slice more
  have outer : ∃ (E0 : List (List AV)) (I : List Nat), I.length = G.length ∧ (∀ (j j' a : Nat), I[j]? = some a → I[j']? = some a → j = j') ∧ (∀ (j a : Nat) (g : List Int), I[j]? = some a → G[j]? = some g → E0[a]? = some (icl g)) ∧ REF (S.length + 1 + E0.length) E0 ∧
      appSA 1 24 (S ++ (Mp :: E)) (some [[.sl .full 1 []]]) v = some (.ss (S.length + 1 + E0.length) 0 (G.length + 1) 1, S ++ (Mp :: (E0 ++ [cellG S.length I G ++ [.sl .full 1 []]]))) := by
    have happ : appOK 24 (G.length + 1) = true := appOK_le (by decide) (by omega)
    rcases h with ⟨rfl, rfl, rfl⟩ | ⟨o, I, rfl, h1, h2, h3, h4, h5, h6⟩
    · refine ⟨[], [], rfl, by simp, by simp, fun c hc => (by cases hc), ?_⟩
      rw [appSA_nil 1 24 1 (by decide), if_pos (show appOK 24 (([] : List (List AV)).length + 1) = true from happ), sl_, sc]
      rfl
    · have hol := lt_of h2
      refine ⟨E.set o dead, I, h1, h4, ?_, by rw [List.length_set]; exact h6.set o (ref_dead _), ?_⟩
      · intro j a g ha hg
        rw [List.getElem?_set, if_neg (fun q => h3 j a ha q.symm)]
        exact h5 j a g ha hg
      · rw [appSA_ss _ _ 24 1 (by decide), List.length_singleton, if_pos happ, sg, h2]
        simp only [Option.bind_some]
        rw [if_pos ⟨blk_of fun x hx => .inl (cellG_mem x hx), by rw [cellG_len h1]; omega, cellG_all nownB (fun _ _ => rfl) _ _ _⟩, ss_, sc, sl_, List.length_set]
        simp
  obtain ⟨E0, I, h1, h4, h5, h6, happ⟩ := outer
  have hcl := cellG_len (q := S.length) h1
  have a8 : appOK 8 (([] : List (List AV)).length + 1) = true := by decide
  have hI : ∀ (j a : Nat), I[j]? = some a → a < E0.length := by
    intro j a ha
    have hj : j < G.length := by have := lt_of ha; omega
    exact lt_of (h5 j a G[j] ha (List.getElem?_eq_getElem hj))
  refine ⟨_, _, .ptr (S.length + 1 + E0.length) G.length, AV.sl .full 1 [], .ss (S.length + 1 + (E0.length + 1)) 0 1 1, S ++ (Mp :: ((E0 ++ [cellG S.length I G ++ [AV.sl .full 1 []]]) ++ [icl [i]])), ((E0 ++ [cellG S.length I G ++ [AV.sl .full 1 []]]) ++ [icl [i]]).set E0.length (cellG S.length (I ++ [E0.length + 1]) (G ++ [[i]])), happ, fun _ => rfl, rfl, ?_, ?_, ?_, rfl, ?_, ?_⟩
  · rw [iaK_ss, if_pos (by omega), Int.toNat_natCast]; simp
  · intro m
    rw [ldA_ptr, sg, List.getElem?_append_right (Nat.le_refl _), Nat.sub_self]
    simp only [List.getElem?_cons_zero, Option.bind_some, ldC, Bool.false_eq_true, if_false]
    rw [List.getElem?_append_right (by omega), hcl, Nat.sub_self]
    rfl
  · rw [appSA_nil 1 8 1 (by decide), if_pos a8, sc, sl_, List.length_append, List.length_singleton]
    rfl
  · intro l m
    have e2 : ((E0 ++ [cellG S.length I G ++ [AV.sl .full 1 []]]) ++ [icl [i]])[E0.length]? = some (cellG S.length I G ++ [.sl .full 1 []]) := by
      rw [List.getElem?_append_left (by simp), List.getElem?_append_right (Nat.le_refl _), Nat.sub_self]; rfl
    rw [stX_ptr, sg, e2]
    simp only [Option.bind_some]
    rw [if_pos (blk_of fun x hx => by
      rcases List.mem_append.1 hx with q | q
      · exact .inl (cellG_mem x q)
      · simp only [List.mem_singleton] at q; exact .inr (.inr q)), putC_set (by rw [List.length_append, hcl]; simp), List.set_append_right _ _ (by omega), hcl, Nat.sub_self, Option.map_some, ss_, cellG_app h1]
    try rfl
  · refine .inr ⟨E0.length, I ++ [E0.length + 1], by simp, by simp [h1], ?_, ?_, ?_, ?_, ?_⟩
    · rw [List.getElem?_set, if_pos rfl, if_pos (by simp)]
    · intro j a ha
      by_cases q : j < I.length
      · rw [List.getElem?_append_left q] at ha
        have := hI j a ha
        omega
      · rw [List.getElem?_append_right (by omega)] at ha
        have hz : j - I.length = 0 := by have := lt_of ha; simp at this; omega
        rw [hz] at ha
        cases ha; omega
    · intro j j' a ha ha'
      by_cases q : j < I.length
      · rw [List.getElem?_append_left q] at ha
        have hal := hI j a ha
        by_cases q' : j' < I.length
        · rw [List.getElem?_append_left q'] at ha'
          exact h4 j j' a ha ha'
        · rw [List.getElem?_append_right (by omega)] at ha'
          have hz : j' - I.length = 0 := by have := lt_of ha'; simp at this; omega
          rw [hz] at ha'
          cases ha'; omega
      · rw [List.getElem?_append_right (by omega)] at ha
        have hz : j - I.length = 0 := by have := lt_of ha; simp at this; omega
        rw [hz] at ha
        cases ha
        by_cases q' : j' < I.length
        · rw [List.getElem?_append_left q'] at ha'
          have hal := hI j' _ ha'
          omega
        · have := lt_of ha'
          simp at this
          omega
    · intro j a g ha hg
      by_cases q : j < I.length
      · rw [List.getElem?_append_left q] at ha
        rw [List.getElem?_append_left (by omega)] at hg
        have hal := hI j a ha
        rw [List.getElem?_set, if_neg (by omega), List.getElem?_append_left (by simp; omega), List.getElem?_append_left hal]
        exact h5 j a g ha hg
      · rw [List.getElem?_append_right (by omega)] at ha
        have hz : j - I.length = 0 := by have := lt_of ha; simp at this; omega
        rw [hz] at ha
        cases ha
        rw [List.getElem?_append_right (by omega), show j - G.length = 0 by omega] at hg
        cases hg
        rw [List.getElem?_set, if_neg (by omega), List.getElem?_append_right (by simp)]
        simp
    · have en : S.length + 1 + (((E0 ++ [cellG S.length I G ++ [AV.sl .full 1 []]]) ++ [icl [i]]).set E0.length (cellG S.length (I ++ [E0.length + 1]) (G ++ [[i]]))).length = S.length + 1 + (E0.length + 2) := by simp
      rw [en]
      have m6 : REF (S.length + 1 + (E0.length + 2)) E0 := h6.mono (by omega)
      refine (((m6.app ?_).app (ref_icl _ _)).set E0.length (ref_cellG (m := E0.length + 2) ?_ (Nat.le_refl _)))
      · intro x hx
        rcases List.mem_append.1 hx with q | q
        · exact refMono (n := S.length + 1 + E0.length) (by omega) (ref_cellG (m := E0.length) hI (Nat.le_refl _) x q)
        · simp only [List.mem_singleton] at q; subst q; rfl
      · intro j a ha
        by_cases q : j < I.length
        · rw [List.getElem?_append_left q] at ha
          have := hI j a ha
          omega
        · rw [List.getElem?_append_right (by omega)] at ha
          have hz : j - I.length = 0 := by have := lt_of ha; simp at this; omega
          rw [hz] at ha
          cases ha; omega
theorem GS.rok {S : List (List AV)} {v : AV} {E : List (List AV)} {G : List (List Int)} (h : GS S.length v E G) (hS : RokS S) (rows : List (List AV)) : RokS (S ++ ([.mapv rows] :: E)) := by
  have hE : REF (S.length + 1 + E.length) E := by
    rcases h with ⟨_, _, rfl⟩ | ⟨o, I, _, _, _, _, _, _, h6⟩
    · exact fun c hc => (by cases hc)
    · exact h6
  unfold RokS at hS ⊢
  rw [sl_, List.all_eq_true]
  rw [List.all_eq_true] at hS
  intro c hc
  rw [List.all_eq_true]
  intro x hx
  rcases List.mem_append.1 hc with q | q
  · have := hS c q
    rw [List.all_eq_true] at this
    exact refMono (by omega) (this x hx)
  · rcases List.mem_cons.1 q with rfl | q
    · simp only [List.mem_singleton] at hx; subst hx; rfl
    · exact hE c q x hx
/-- reading a group -/
theorem GS.read {S : List (List AV)} {Mp : List AV} {v : AV} {E : List (List AV)} {G : List (List Int)} (h : GS S.length v E G) {j : Nat} {g : List Int} (hg : G[j]? = some g) :
    ∃ P o, iaK 1 v (.int .i64 (j : Int)) = some P ∧ (∀ m, ldA .sh false 1 m (S ++ (Mp :: E)) P = some (.ss o 0 g.length 1)) ∧ (S ++ (Mp :: E))[o]? = some (icl g) := by
  have hjl := lt_of hg
  rcases h with ⟨rfl, _, _⟩ | ⟨o, I, rfl, h1, h2, h3, h4, h5, h6⟩
  · simp at hjl
  obtain ⟨a, ha⟩ := I_at h1 hjl
  refine ⟨.ptr (S.length + 1 + o) j, S.length + 1 + a, ?_, ?_, ?_⟩
  · rw [iaK_ss, if_pos (by omega), Int.toNat_natCast]; simp
  · intro m
    rw [ldA_ptr, sg, h2]
    simp only [Option.bind_some, ldC, Bool.false_eq_true, if_false, cellG_at ha hg]
    rfl
  · rw [sg]; exact h5 j a g ha hg
end Go.Av
namespace Go.Av
open Go.Nt
set_option linter.unusedSimpArgs false
set_option linter.unusedVariables false
set_option maxHeartbeats 16000000
set_option maxRecDepth 100000
def grpF : Im → List (List Int) → Nat → List Int → List (List Int)
  | _, G, _, [] => G
  | m, G, i, f :: r => match mgI m f with
    | some a => grpF m (G.set a.toNat (G.getD a.toNat [] ++ [(i : Int)])) (i + 1) r
    | none => grpF (msI m f G.length) (G ++ [[(i : Int)]]) (i + 1) r
theorem mksG : mksA 1 [.sl .full 1 []] 1 [0] [.sl .full 1 []] = some (.sl .full 1 [[.sl .full 1 []]]) := rfl
theorem mksI (i : Int) : mksA 1 [.int .i64 0] 1 [0] [.int .i64 i] = some (.sl .full 1 [[.int .i64 i]]) := rfl
theorem l28 (S : List (List AV)) (F : List Int) (hF : F.length ≤ 100000) : ∀ (k i : Nat) (v : AV) (E : List (List AV)) (G : List (List Int)) (m : Im), i + k = F.length → GS S.length v E G → (∀ f a, mgI m f = some a → 0 ≤ a ∧ a < (G.length : Int)) → G.length ≤ i → (∀ g ∈ G, g.length ≤ i) →
    ∃ v' E' m', GS S.length v' E' (grpF m G i (F.drop i)) ∧ execX G0 L28_0 (ST [(3, v), (4, .mp S.length), (11, .sl .no 1 (ints F)), (12, .int .i64 F.length), (13, .int .i64 i)] [] (S ++ ([.mapv (imr m)] :: E))) = some (.ex 0, ST [(3, v'), (4, .mp S.length), (11, .sl .no 1 (ints F)), (12, .int .i64 F.length), (13, .int .i64 F.length), (14, .bool false)] [] (S ++ ([.mapv (imr m')] :: E')))
  | 0, i, v, E, G, m, h, hG, _, _, _ => by
    have : i = F.length := by omega
    subst this
    refine ⟨v, E, m, by rw [List.drop_length]; exact hG, ?_⟩
    have hs := hG.scrub
    rw [Y_loop (L := L28_0) rfl]
    simp only [go_sem, op, mv, ↓reduceIte, Nat.reduceAdd, Nat.reduceEqDiff, Nat.reduceLT, Int.reduceNeg, Int.cast_ofNat_Int, Int.reduceLT, Int.reduceAdd, Int.reduceSub, Int.reduceLE, Int.reduceEq, Int.reduceToNat, Nat.reduceSub, Nat.reduceMul, Nat.reduceLeDiff, hs, Int.lt_irrefl]
  | k + 1, i, v, E, G, m, h, hG, hm, hGi, hgi => by
    have hi : i < F.length := by omega
    have h4 : (i : Int) < (F.length : Int) := by omega
    have h0 : (0 : Int) ≤ (i : Int) := by omega
    have hw : IntKind.i64.wrap ((i : Int) + 1) = ((i + 1 : Nat) : Int) := by rw [w64 (by omega) (by omega)]; rfl
    have hg : F[i]? = some F[i] := List.getElem?_eq_getElem hi
    have hd : F.drop i = F[i] :: F.drop (i + 1) := List.drop_eq_getElem_cons hi
    generalize F[i] = f at hg hd
    have hr := ints_at hg
    have hlk := lk_imr f m
    have hs := hG.scrub
    have hdv := hG.dem
    have hlen := hG.len
    rw [hd]
    simp only [grpF]
    cases hk : mgI m f with
    | some a =>
      rw [hk] at hlk
      simp only [Option.map_some] at hlk
      obtain ⟨ha0, hal⟩ := hm f a hk
      obtain ⟨an, rfl⟩ := Int.eq_ofNat_of_zero_le ha0
      have hal' : an < G.length := by omega
      have hga : G[an]? = some G[an] := List.getElem?_eq_getElem hal'
      have hgl := hgi _ (List.getElem_mem hal')
      have hgd : G.getD an [] = G[an] := by rw [List.getD_eq_getElem?_getD, hga]; rfl
      simp only [Int.toNat_natCast, hgd]
      generalize G[an] = g at hga hgl
      obtain ⟨P, W, W', sh2, E3, q1, q2, q3, q4, q5, q6⟩ := hG.more (Mp := [.mapv (imr m)]) hga (i : Int) (by omega)
      obtain ⟨v', E', m', ih1, ih2⟩ := l28 S F hF k (i + 1) v E3 (G.set an (g ++ [(i : Int)])) m (by omega) q6 (fun f a hfa => by rw [List.length_set]; exact hm f a hfa) (by rw [List.length_set]; omega) (fun g' hg' => by
        rcases List.mem_or_eq_of_mem_set hg' with q | q
        · have := hgi _ q; omega
        · rw [q, List.length_append, List.length_singleton]; omega)
      refine ⟨v', E', m', ih1, ?_⟩
      rw [Y_loop (L := L28_0) rfl]
      simp only [go_sem, op, mv, ↓reduceIte, Nat.reduceAdd, Nat.reduceEqDiff, Nat.reduceLT, Int.reduceNeg, Int.cast_ofNat_Int, Int.reduceLT, Int.reduceAdd, Int.reduceSub, Int.reduceLE, Int.reduceEq, Int.reduceToNat, Nat.reduceSub, Nat.reduceMul, Nat.reduceLeDiff, hs, hdv, h4, h0, hr, hw, mapOfQ, hlk, lkRi1, q1, q2, mksI, q3, q4, q5]
      exact ih2
    | none =>
      rw [hk] at hlk
      simp only [Option.map_none] at hlk
      have hmu := mu_imr f (G.length : Int) m
      obtain ⟨v1, sh1, P, W, W', sh2, E3, q0, qs, qd, q1, q2, q3, q4, q5, q6⟩ := hG.new (Mp := [.mapv (imr (msI m f G.length))]) (i : Int) (by omega)
      obtain ⟨v', E', m', ih1, ih2⟩ := l28 S F hF k (i + 1) v1 E3 (G ++ [[(i : Int)]]) (msI m f G.length) (by omega) q6 (fun f' a hfa => by
        rw [mg_ms] at hfa
        rw [List.length_append, List.length_singleton]
        split at hfa
        · cases hfa; omega
        · have := hm _ _ hfa; omega) (by rw [List.length_append, List.length_singleton]; omega) (fun g' hg' => by
        rcases List.mem_append.1 hg' with q | q
        · have := hgi _ q; omega
        · simp only [List.mem_singleton] at q; rw [q, List.length_singleton]; omega)
      refine ⟨v', E', m', ih1, ?_⟩
      rw [Y_loop (L := L28_0) rfl]
      simp only [go_sem, op, mv, ↓reduceIte, Nat.reduceAdd, Nat.reduceEqDiff, Nat.reduceLT, Int.reduceNeg, Int.cast_ofNat_Int, Int.reduceLT, Int.reduceAdd, Int.reduceSub, Int.reduceLE, Int.reduceEq, Int.reduceToNat, Nat.reduceSub, Nat.reduceMul, Nat.reduceLeDiff, hs, hdv, hlen, h4, h0, hr, hw, mapOfQ, hlk, lkRi0, hmu, sq, mksG, q0, qs, qd, q1, q2, mksI, q3, q4, q5]
      exact ih2
theorem GS.frz {q : Nat} {v : AV} {E : List (List AV)} {G : List (List Int)} (h : GS q v E G) (a b : List (List AV)) : frzV true a b v = some v := by
  rcases h with ⟨_, rfl, _⟩ | ⟨o, I, rfl, _⟩ <;> rfl
theorem GS.out {q : Nat} {v : AV} {E : List (List AV)} {G : List (List Int)} (h : GS q v E G) : outB true v = true := by
  rcases h with ⟨_, rfl, _⟩ | ⟨o, I, rfl, _⟩ <;> rfl
theorem firstF_len (L : List (List Tk)) : (firstF L).length = L.length := by rw [first_eq]; unfold firstG; simp
theorem c28 {V : AV} {sh : List (List AV)} {L : List (List Tk)} (hV : LV V sh L) (hR : RokS sh) (hL : L.length ≤ 100000) (hb : ∀ f ∈ L, small f) : ∃ v m E, GS sh.length v E (grpF [] [] 0 (firstF L)) ∧ G0 28 [V] sh = some (v, sh ++ ([.mapv (imr m)] :: E)) := by
  have e0 : imr [] = [] := rfl
  obtain ⟨v', E', m', x1, x2⟩ := l28 sh (firstF L) (by rw [firstF_len]; exact hL) (firstF L).length 0 (.sl .full 1 []) [] [] [] (by omega) (.inl ⟨rfl, rfl, rfl⟩) (fun f a h => by cases h) (Nat.le_refl _) (fun g h => by cases h)
  have ec : ((0 : Nat) : Int) = 0 := rfl
  rw [List.drop_zero] at x1
  rw [ec, e0] at x2
  have hs := hV.scrub
  have hdv := hV.dem
  have hs1 := x1.scrub
  have hd1 := x1.dem
  have h25 := c25 (hV.ext [[.mapv []]]) (hR.ext []) hL hb
  have harg := hV.arg
  have hfz := x1.frz sh (sh ++ ([.mapv (imr m')] :: E'))
  have hout := x1.out
  refine ⟨v', m', E', x1, ?_⟩
  refine contract F28 rfl rfl rfl ?_
  simp only [F28, go_sem, op, mv, ↓reduceIte, Nat.reduceAdd, Nat.reduceEqDiff, Nat.reduceLT, Int.reduceNeg, Int.cast_ofNat_Int, Int.reduceLT, Int.reduceAdd, Int.reduceSub, Int.reduceLE, Int.reduceEq, Int.reduceToNat, Nat.reduceSub, Nat.reduceMul, Nat.reduceLeDiff, hs, hdv, h25, ints_length, x2, hs1, hd1, harg, hfz, hout]
end Go.Av
