/- A part of the proof: Ev2. No conditions. -/
import Derived.Test.YthnablnojflbnaaDoorEv1
set_option linter.unusedSimpArgs false
set_option linter.unusedVariables false
namespace Go.Av
open Go.RowKit
set_option linter.unusedSectionVars false
variable [Gtab]

/-! ### What an abstract value says of a value in a world -/
mutual
def RepF (S : Nat → Nat → Prop) (w : World) : AV → Value → Prop
  | .int k n, v => v = .int k n
  | .bool b, v => v = .bool b
  | .str s, v => ∃ b, v = .string b ∧ b.data.toList = s
  | .nilp, v => v = .pointer none
  | .sl m z l, v => ∃ A c, v = .slice A l.length c ∧ l.length ≤ c ∧ (m = .full → c = l.length) ∧ m ≠ .own ∧ (l = [] ∨ ∃ b o, A = some ⟨b, o, none⟩ ∧ RepR S w z l b o)
  | _, _ => False
def RepR (S : Nat → Nat → Prop) (w : World) : Nat → List (List AV) → Nat → Nat → Prop
  | _, [], _, _ => True
  | z, e :: es, b, o => e.length = z ∧ RepC S w e b o ∧ RepR S w z es b (o + z)
def RepC (S : Nat → Nat → Prop) (w : World) : List AV → Nat → Nat → Prop
  | [], _, _ => True
  | a :: as, b, o => (S b o ∧ ∃ u, w.cell? ⟨b, o, none⟩ = some u ∧ RepF S w a u) ∧ RepC S w as b (o + 1)
end

section
variable {S S' : Nat → Nat → Prop} {w w' : World}
mutual
theorem RepF.mono (h : ∀ b o, S b o → S' b o ∧ w'.cell? ⟨b, o, none⟩ = w.cell? ⟨b, o, none⟩) : ∀ (x : AV) (v : Value), RepF S w x v → RepF S' w' x v
  | .int .., _, r => by simpa [RepF] using r
  | .bool _, _, r => by simpa [RepF] using r
  | .str _, _, r => by simpa [RepF] using r
  | .nilp, _, r => by simpa [RepF] using r
  | .sl m z l, v, r => by
    simp only [RepF] at r ⊢
    obtain ⟨A, c, h1, h2, h3, h4, h5⟩ := r
    refine ⟨A, c, h1, h2, h3, h4, ?_⟩
    rcases h5 with h5 | ⟨b, o, h6, h7⟩
    · exact .inl h5
    · exact .inr ⟨b, o, h6, RepR.mono h z l b o h7⟩
  | .any, _, r => by simp [RepF] at r
  | .undef, _, r => by simp [RepF] at r
  | .ptr .., _, r => by simp [RepF] at r
  | .loc .., _, r => by simp [RepF] at r
  | .ip _, _, r => by simp [RepF] at r
  | .fn .., _, r => by simp [RepF] at r
  | .agg _, _, r => by simp [RepF] at r
  | .tup _, _, r => by simp [RepF] at r
  | .ss .., _, r => by simp [RepF] at r
  | .mp _, _, r => by simp [RepF] at r
  | .mapv _, _, r => by simp [RepF] at r
  | .aggR _, _, r => by simp [RepF] at r
theorem RepR.mono (h : ∀ b o, S b o → S' b o ∧ w'.cell? ⟨b, o, none⟩ = w.cell? ⟨b, o, none⟩) : ∀ (z : Nat) (l : List (List AV)) (b o : Nat), RepR S w z l b o → RepR S' w' z l b o
  | _, [], _, _, _ => by simp [RepR]
  | z, e :: es, b, o, r => by
    simp only [RepR] at r ⊢
    exact ⟨r.1, RepC.mono h e b o r.2.1, RepR.mono h z es b (o + z) r.2.2⟩
theorem RepC.mono (h : ∀ b o, S b o → S' b o ∧ w'.cell? ⟨b, o, none⟩ = w.cell? ⟨b, o, none⟩) : ∀ (l : List AV) (b o : Nat), RepC S w l b o → RepC S' w' l b o
  | [], _, _, _ => by simp [RepC]
  | a :: as, b, o, r => by
    simp only [RepC] at r ⊢
    obtain ⟨⟨hs, u, hc, hr⟩, ht⟩ := r
    exact ⟨⟨(h b o hs).1, u, (h b o hs).2.trans hc, RepF.mono h a u hr⟩, RepC.mono h as b (o + 1) ht⟩
end

theorem RepC.get : ∀ {l : List AV} {b o : Nat}, RepC S w l b o → ∀ {j : Nat} {x : AV}, l[j]? = some x → S b (o + j) ∧ ∃ u, w.cell? ⟨b, o + j, none⟩ = some u ∧ RepF S w x u
  | [], _, _, _, _, _, hx => by simp at hx
  | a :: as, b, o, r, 0, x, hx => by
    simp only [RepC] at r
    simp at hx
    subst hx
    exact r.1
  | a :: as, b, o, r, j + 1, x, hx => by
    simp only [RepC] at r
    have := RepC.get r.2 (j := j) (x := x) (by simpa using hx)
    rwa [show o + 1 + j = o + (j + 1) from by omega] at this
theorem RepC.mk : ∀ {l : List AV} {b o : Nat}, (∀ j x, l[j]? = some x → S b (o + j) ∧ ∃ u, w.cell? ⟨b, o + j, none⟩ = some u ∧ RepF S w x u) → RepC S w l b o
  | [], _, _, _ => by simp [RepC]
  | a :: as, b, o, h => by
    simp only [RepC]
    refine ⟨by simpa using h 0 a rfl, RepC.mk fun j x hx => ?_⟩
    have := h (j + 1) x (by simpa using hx)
    rwa [show o + 1 + j = o + (j + 1) from by omega]
theorem RepC.drop {l : List AV} {b o : Nat} (h : RepC S w l b o) (n : Nat) : RepC S w (l.drop n) b (o + n) :=
  RepC.mk fun j x hx => by
    rw [List.getElem?_drop] at hx
    rw [Nat.add_assoc]
    exact h.get hx

theorem RepR.get : ∀ {z : Nat} {l : List (List AV)} {b o : Nat}, RepR S w z l b o → ∀ {i : Nat} {e : List AV}, l[i]? = some e → e.length = z ∧ RepC S w e b (o + i * z)
  | _, [], _, _, _, _, _, hx => by simp at hx
  | z, e :: es, b, o, r, 0, x, hx => by
    simp only [RepR] at r
    simp at hx
    subst hx
    simpa using ⟨r.1, r.2.1⟩
  | z, e :: es, b, o, r, i + 1, x, hx => by
    simp only [RepR] at r
    have := RepR.get r.2.2 (i := i) (e := x) (by simpa using hx)
    rwa [show o + z + i * z = o + (i + 1) * z from by rw [Nat.add_mul]; omega] at this
theorem RepR.mk : ∀ {z : Nat} {l : List (List AV)} {b o : Nat}, (∀ i e, l[i]? = some e → e.length = z ∧ RepC S w e b (o + i * z)) → RepR S w z l b o
  | _, [], _, _, _ => by simp [RepR]
  | z, e :: es, b, o, h => by
    simp only [RepR]
    have h0 := h 0 e rfl
    refine ⟨h0.1, by simpa using h0.2, RepR.mk fun i x hx => ?_⟩
    have := h (i + 1) x (by simpa using hx)
    rwa [show o + z + i * z = o + (i + 1) * z from by rw [Nat.add_mul]; omega]
end

def RepL (R : AV → Value → Prop) : List AV → List Value → Prop
  | [], [] => True
  | a :: as, v :: vs => R a v ∧ RepL R as vs
  | _, _ => False

theorem RepL.length {R : AV → Value → Prop} : ∀ {l : List AV} {vs : List Value}, RepL R l vs → vs.length = l.length
  | [], [], _ => rfl
  | _ :: _, _ :: _, h => by simp [RepL.length h.2]
  | [], _ :: _, h => by simp [RepL] at h
  | _ :: _, [], h => by simp [RepL] at h
theorem RepL.mono {R R' : AV → Value → Prop} (hr : ∀ x v, R x v → R' x v) : ∀ {l : List AV} {vs : List Value}, RepL R l vs → RepL R' l vs
  | [], [], _ => trivial
  | _ :: _, _ :: _, h => ⟨hr _ _ h.1, RepL.mono hr h.2⟩
  | [], _ :: _, h => by simp [RepL] at h
  | _ :: _, [], h => by simp [RepL] at h
theorem RepL.get {R : AV → Value → Prop} : ∀ {l : List AV} {vs : List Value}, RepL R l vs → ∀ {j : Nat} {x : AV}, l[j]? = some x → ∃ v, vs[j]? = some v ∧ R x v
  | a :: _, v :: _, h, 0, x, hx => ⟨v, rfl, by simp at hx; subst hx; exact h.1⟩
  | _ :: as, _ :: vs, h, j + 1, x, hx => by
    obtain ⟨v, hv, hr⟩ := RepL.get h.2 (j := j) (x := x) (by simpa using hx)
    exact ⟨v, by simpa using hv, hr⟩
  | [], [], _, _, _, hx => by simp at hx
  | [], _ :: _, h, _, _, _ => by simp [RepL] at h
  | _ :: _, [], h, _, _, _ => by simp [RepL] at h
theorem RepL.getv {R : AV → Value → Prop} {l : List AV} {vs : List Value} (h : RepL R l vs) {j : Nat} {v : Value} (hv : vs[j]? = some v) : ∃ x, l[j]? = some x ∧ R x v := by
  have hj : j < l.length := by
    have := (List.getElem?_eq_some_iff.1 hv).1
    rw [h.length] at this; exact this
  obtain ⟨v', hv', hr⟩ := h.get (List.getElem?_eq_getElem hj)
  rw [hv] at hv'
  cases hv'
  exact ⟨_, List.getElem?_eq_getElem hj, hr⟩
theorem RepL.append {R : AV → Value → Prop} : ∀ {l l' : List AV} {vs vs' : List Value}, RepL R l vs → RepL R l' vs' → RepL R (l ++ l') (vs ++ vs')
  | [], _, [], _, _, h' => h'
  | _ :: _, _, _ :: _, _, h, h' => ⟨h.1, RepL.append h.2 h'⟩
  | [], _, _ :: _, _, h, _ => by simp [RepL] at h
  | _ :: _, _, [], _, h, _ => by simp [RepL] at h
theorem RepL.take {R : AV → Value → Prop} : ∀ {l : List AV} {vs : List Value} (n : Nat), RepL R l vs → RepL R (l.take n) (vs.take n)
  | _, _, 0, _ => by simp [RepL]
  | [], [], _ + 1, _ => by simp [RepL]
  | _ :: _, _ :: _, n + 1, h => ⟨h.1, RepL.take n h.2⟩
  | [], _ :: _, _ + 1, h => by simp [RepL] at h
  | _ :: _, [], _ + 1, h => by simp [RepL] at h
theorem RepL.drop {R : AV → Value → Prop} : ∀ {l : List AV} {vs : List Value} (n : Nat), RepL R l vs → RepL R (l.drop n) (vs.drop n)
  | _, _, 0, h => by simpa using h
  | [], [], _ + 1, _ => by simp [RepL]
  | _ :: _, _ :: _, n + 1, h => by simpa using RepL.drop n h.2
  | [], _ :: _, _ + 1, h => by simp [RepL] at h
  | _ :: _, [], _ + 1, h => by simp [RepL] at h

/-- Where a slice ends in its block: at its end, or, of bytes, ahead of it. -/
def ssz (off cp z n : Nat) : Prop := off + cp * z ≤ n / 2 ∧ (z ≠ 1 → off + cp * z = n / 2 ∧ n % 2 = 1)
theorem ssz_full {off cp z n : Nat} (h : off + cp * z = n / 2) (h2 : n % 2 = 1) : ssz off cp z n := ⟨by omega, fun _ => ⟨h, h2⟩⟩
theorem ssz_le {off cp z n : Nat} (h : ssz off cp z n) : off + cp * z ≤ n / 2 := h.1
theorem ssz_sub {off cp z n i : Nat} (h : ssz off cp z n) (hi : i ≤ cp) : ssz (off + i * z) (cp - i) z n := by
  have e : off + i * z + (cp - i) * z = off + cp * z := by
    rw [Nat.sub_mul, Nat.add_assoc]
    congr 1
    have : i * z ≤ cp * z := Nat.mul_le_mul_right _ hi
    omega
  unfold ssz
  rw [e]
  exact h

structure Cx where
  S : Nat → Nat → Prop
  w : World
  β : Nat → Nat
  bs : Nat → Nat
  lam : Nat → Nat
  shn : Nat
  live : Nat → Prop

/-- Parts of a tuple, captured values. -/
def RepE (c : Cx) : AV → Value → Prop
  | .ptr o off, v => o < c.shn ∧ v = .pointer (some ⟨c.β o, off, none⟩)
  | .ss o off n z, v => o < c.shn ∧ ∃ cp, v = .slice (some ⟨c.β o, off, none⟩) n cp ∧ n ≤ cp ∧ ssz off cp z (c.bs o)
  | .mp o, v => o < c.shn ∧ v = .map (some (c.β o))
  | .agg l, v => ∃ cs, v = .agg cs ∧ RepL (RepF c.S c.w) l cs.toList
  | x, v => RepF c.S c.w x v

/-- A cell of an object. -/
def RepC' (c : Cx) (ow : Value → Nat → Nat → Prop) : AV → Value → Prop
  | .any, _ => True
  | .sl .own z l, v => RepF c.S c.w (.sl .no z l) v ∧ ow v z l.length
  | x, v => RepE c x v

def noOwn : Value → Nat → Nat → Prop := fun _ _ _ => False

def RepT (c : Cx) (ow : Value → Nat → Nat → Prop) : AV → Value → Prop
  | .any, _ => True
  | .undef, v => v = undef
  | .loc s off, v => c.live s ∧ v = .pointer (some ⟨c.lam s, off, none⟩)
  | .ip l, v => ∃ b o, v = .pointer (some ⟨b, o, none⟩) ∧ RepC c.S c.w l b o
  | .fn f caps, v => ∃ cv, v = .func (.func f) #[] cv ∧ RepL (RepE c) caps cv.toList
  | .sl .own z l, v => RepF c.S c.w (.sl .no z l) v ∧ ow v z l.length
  | .tup l, v => ∃ vs, v = .tuple vs ∧ RepL (RepE c) l vs.toList
  | .aggR l, v => ∃ cs, v = .agg cs ∧ RepL (RepC' c noOwn) l cs.toList
  | x, v => RepE c x v

/-- Who owns a block that may be appended to: a slot, a cell of a shared object. -/
inductive Ow where
  | slot (t : Nat) | cell (i j : Nat)

inductive BK where
  | stab | shr (i : Nat) | loc (s : Nat) | own (t : Ow) (k : Nat)

structure Gh where
  β : Nat → Nat
  bs : Nat → Nat
  lam : Nat → Nat
  kd : Nat → BK

/-- What is fixed while a function runs: the world at its beginning, its arguments' cells, the shared objects, the blocks that their cells own. -/
structure Env where
  w0 : World
  S0 : Nat → Nat → Prop
  β0 : Nat → Nat
  bs0 : Nat → Nat
  O0 : Nat → Option Nat
  D0 : Nat → Bool
  n0 : Nat
  nt : Nat

def SS (E : Env) (g : Gh) (w : World) (b o : Nat) : Prop :=
  (b < E.w0.heap.size ∧ E.S0 b o) ∨ (E.w0.heap.size ≤ b ∧ b < w.heap.size ∧ g.kd b = .stab) ∨ (b < w.heap.size ∧ ∃ t k, g.kd b = .own t k ∧ o < k)

def OwnAt (kd : Nat → BK) (w : World) (t : Ow) (v : Value) (z n : Nat) : Prop :=
  ∃ A c, v = .slice A n c ∧ (c = n ∨ ∃ b arr ty, A = some ⟨b, 0, none⟩ ∧ w.heap[b]? = some (.cells arr ty (0, 0)) ∧ arr.size = c * z ∧ kd b = .own t (n * z))

def RepM (c : Cx) : List (List AV) → List MapEntry → Prop
  | [], [] => True
  | [k, v] :: r, e :: es => aggScal k = true ∧ aggScal v = true ∧ RepE c k e.key ∧ RepE c v e.val ∧ RepM c r es
  | _, _ => False

/-- No cell of the row is barred from being written. -/
def nofz (fz : Nat × Nat) (n : Nat) : Prop := fz = (0, 0) ∨ n ≤ fz.1

/-- The size of a block, twice, and whether it bears no mark of a string's bytes. -/
def bsz (fz : Nat × Nat) (m n : Nat) : Prop := m = n / 2 ∧ (n % 2 = 1 → fz = (0, 0))

/-- An object: a block whose first cells are known, or a map. -/
def ObjB (c : Cx) (ow : Nat → Value → Nat → Nat → Prop) (w : World) (b n : Nat) (cells : List AV) : Prop :=
  ∃ arr ty fz, w.heap[b]? = some (.cells arr ty fz) ∧ nofz fz arr.size ∧ bsz fz arr.size n ∧ ∀ (j : Nat) (x : AV), cells[j]? = some x → ∃ v, arr[j]? = some v ∧ RepC' c (ow j) x v
def ObjM (c : Cx) (w : World) (b : Nat) : List AV → Prop
  | [.mapv l] => ∃ es clock, w.heap[b]? = some (.map es clock) ∧ RepM c l es.toList
  | _ => True
def Obj' (c : Cx) (ow : Nat → Value → Nat → Nat → Prop) (w : World) (b n : Nat) (cells : List AV) : Prop :=
  (blkB cells = true → ObjB c ow w b n cells) ∧ ObjM c w b cells

def cx (E : Env) (g : Gh) (σ : AS) (w : World) : Cx :=
  { S := SS E g w, w := w, β := g.β, bs := g.bs, lam := g.lam, shn := σ.sh.length, live := fun s => (σ.lo s).isSome = true }

structure Sim (E : Env) (g : Gh) (σ : AS) (a : Act) (w : World) : Prop where
  size : a.tmps.size = E.nt
  defers : a.defers = []
  slots : ∀ t, RepT (cx E g σ w) (OwnAt g.kd w (.slot t)) (σ.fr t) (a.tmps.getD t undef)
  shr : ∀ i cells, σ.sh[i]? = some cells → (cells ≠ dead → g.kd (g.β i) = .shr i ∧ Obj' (cx E g σ w) (fun j => OwnAt g.kd w (.cell i j)) w (g.β i) (g.bs i) cells)
  shr0 : ∀ i, i < E.n0 → g.β i = E.β0 i ∧ g.bs i = E.bs0 i
  shr1 : ∀ i, i < σ.sh.length → E.n0 ≤ i → E.w0.heap.size ≤ g.β i ∨ ∃ j, j < E.n0 ∧ E.β0 j = g.β i ∧ E.D0 j = false ∧ σ.sh[j]? = some dead
  dd : ∀ i, i < E.n0 → E.D0 i = true → σ.sh[i]? = some dead
  shrlt : ∀ i, i < σ.sh.length → g.β i < w.heap.size
  shrk : ∀ i, i < σ.sh.length → ∃ j, g.kd (g.β i) = .shr j
  loc : ∀ s cells, σ.lo s = some cells → g.kd (g.lam s) = .loc s ∧ E.w0.heap.size ≤ g.lam s ∧ ObjB (cx E g σ w) (fun _ => noOwn) w (g.lam s) (2 * cells.length) cells
  n0 : E.n0 ≤ σ.sh.length
  s0 : ∀ b o, E.S0 b o → b < E.w0.heap.size ∧ (∀ i, i < E.n0 → E.β0 i ≠ b) ∧ ∀ k, E.O0 b = some k → o < k
  o0 : ∀ b k, E.O0 b = some k → b < E.w0.heap.size ∧ (∀ i, i < E.n0 → E.β0 i ≠ b) ∧ ∃ t k', g.kd b = .own t k' ∧ k ≤ k'
  own0 : ∀ b t k, g.kd b = .own t k → E.w0.heap.size ≤ b ∨ (E.O0 b).isSome = true
  os : w.os = E.w0.os
  tape : w.tape = E.w0.tape
  output : w.output = E.w0.output
  hsize : E.w0.heap.size ≤ w.heap.size
  frame : ∀ b, b < E.w0.heap.size → (∀ i, i < E.n0 → E.β0 i ≠ b) → E.O0 b = none → w.heap[b]? = E.w0.heap[b]?
  sframe : ∀ b o, E.S0 b o → w.cell? ⟨b, o, none⟩ = E.w0.cell? ⟨b, o, none⟩
  gl : ∀ i k l, Gtab.tab i = some (k, l) → RepC E.S0 E.w0 (l.map (AV.int k)) i 0

section
variable {E : Env} {g g' : Gh} {σ σ' : AS} {a : Act} {w w' : World}

/-- All that a relation of values leans on. -/
structure Cx.le (c c' : Cx) : Prop where
  cell : ∀ b o, c.S b o → c'.S b o ∧ c'.w.cell? ⟨b, o, none⟩ = c.w.cell? ⟨b, o, none⟩
  shn : c.shn ≤ c'.shn
  β : ∀ i, i < c.shn → c'.β i = c.β i
  bs : ∀ i, i < c.shn → c'.bs i = c.bs i
  loc : ∀ s, c.live s → c'.live s ∧ c'.lam s = c.lam s

theorem Cx.le.refl (c : Cx) : Cx.le c c := ⟨fun _ _ h => ⟨h, rfl⟩, Nat.le_refl _, fun _ _ => rfl, fun _ _ => rfl, fun _ h => ⟨h, rfl⟩⟩

theorem RepF.le {c c' : Cx} (h : Cx.le c c') {x : AV} {v : Value} (r : RepF c.S c.w x v) : RepF c'.S c'.w x v := RepF.mono h.cell _ _ r

theorem RepE.mono {c c' : Cx} (h : Cx.le c c') (x : AV) (v : Value) (r : RepE c x v) : RepE c' x v := by
  cases x <;> simp only [RepE] at r ⊢ <;> first | exact RepF.mono h.cell _ _ r | skip
  · rw [h.β _ r.1]; exact ⟨Nat.lt_of_lt_of_le r.1 h.shn, r.2⟩
  · obtain ⟨cs, h1, h2⟩ := r
    exact ⟨cs, h1, h2.mono (RepF.mono h.cell)⟩
  · rw [h.β _ r.1, h.bs _ r.1]; exact ⟨Nat.lt_of_lt_of_le r.1 h.shn, r.2⟩
  · rw [h.β _ r.1]; exact ⟨Nat.lt_of_lt_of_le r.1 h.shn, r.2⟩

theorem RepC'.mono {c c' : Cx} {ow ow' : Value → Nat → Nat → Prop} (h : Cx.le c c') (x : AV) (v : Value) (ho : ∀ z l, x = .sl .own z l → ow v z l.length → ow' v z l.length) (r : RepC' c ow x v) : RepC' c' ow' x v := by
  cases x with
  | any => trivial
  | sl m z l =>
    cases m with
    | own =>
      simp only [RepC'] at r ⊢
      exact ⟨RepF.mono h.cell _ _ r.1, ho z l rfl r.2⟩
    | no => exact RepE.mono h (.sl .no z l) v r
    | full => exact RepE.mono h (.sl .full z l) v r
  | undef => exact RepE.mono h .undef v r
  | int => exact RepE.mono h (.int _ _) v r
  | bool => exact RepE.mono h (.bool _) v r
  | str => exact RepE.mono h (.str _) v r
  | nilp => exact RepE.mono h .nilp v r
  | ptr => exact RepE.mono h (.ptr _ _) v r
  | loc s off => exact RepE.mono h (.loc s off) v r
  | ip l => exact RepE.mono h (.ip l) v r
  | fn f l => exact RepE.mono h (.fn f l) v r
  | agg => exact RepE.mono h (.agg _) v r
  | tup l => exact RepE.mono h (.tup l) v r
  | aggR l => exact RepE.mono h (.aggR l) v r
  | ss => exact RepE.mono h (.ss _ _ _ _) v r
  | mp => exact RepE.mono h (.mp _) v r
  | mapv l => exact RepE.mono h (.mapv l) v r

theorem RepT.mono {c c' : Cx} {ow ow' : Value → Nat → Nat → Prop} (h : Cx.le c c') (x : AV) (v : Value) (ho : ∀ z l, x = .sl .own z l → ow v z l.length → ow' v z l.length) (r : RepT c ow x v) : RepT c' ow' x v := by
  cases x with
  | any => trivial
  | undef => exact r
  | int => exact RepE.mono h (.int _ _) v r
  | bool => exact RepE.mono h (.bool _) v r
  | str => exact RepE.mono h (.str _) v r
  | nilp => exact RepE.mono h .nilp v r
  | ptr => exact RepE.mono h (.ptr _ _) v r
  | ss => exact RepE.mono h (.ss _ _ _ _) v r
  | mp => exact RepE.mono h (.mp _) v r
  | mapv l => exact RepE.mono h (.mapv l) v r
  | agg => exact RepE.mono h (.agg _) v r
  | loc s off =>
    simp only [RepT] at r ⊢
    exact ⟨(h.loc s r.1).1, by rw [(h.loc s r.1).2]; exact r.2⟩
  | ip l =>
    simp only [RepT] at r ⊢
    obtain ⟨b, o, h1, h2⟩ := r
    exact ⟨b, o, h1, RepC.mono h.cell _ _ _ h2⟩
  | fn f caps =>
    simp only [RepT] at r ⊢
    obtain ⟨cv, h1, h2⟩ := r
    exact ⟨cv, h1, h2.mono (RepE.mono h)⟩
  | tup l =>
    simp only [RepT] at r ⊢
    obtain ⟨cv, h1, h2⟩ := r
    exact ⟨cv, h1, h2.mono (RepE.mono h)⟩
  | aggR l =>
    simp only [RepT] at r ⊢
    obtain ⟨cv, h1, h2⟩ := r
    exact ⟨cv, h1, h2.mono (fun x v => RepC'.mono h x v (fun _ _ _ q => q))⟩
  | sl m z l =>
    cases m with
    | own =>
      simp only [RepT] at r ⊢
      exact ⟨RepF.mono h.cell _ _ r.1, ho z l rfl r.2⟩
    | no => exact RepE.mono h (.sl .no z l) v r
    | full => exact RepE.mono h (.sl .full z l) v r

theorem RepM.mono {c c' : Cx} (h : Cx.le c c') : ∀ {l : List (List AV)} {es : List MapEntry}, RepM c l es → RepM c' l es
  | [], [], _ => trivial
  | [k, v] :: l, e :: es, r => by
    simp only [RepM] at r ⊢
    exact ⟨r.1, r.2.1, RepE.mono h _ _ r.2.2.1, RepE.mono h _ _ r.2.2.2.1, RepM.mono h r.2.2.2.2⟩
  | [], _ :: _, r => by simp [RepM] at r
  | [] :: _, _, r => by simp [RepM] at r
  | [_] :: _, _, r => by simp [RepM] at r
  | (_ :: _ :: _ :: _) :: _, _, r => by simp [RepM] at r
  | [_, _] :: _, [], r => by simp [RepM] at r

theorem ObjB.mono {c c' : Cx} {ow ow' : Nat → Value → Nat → Nat → Prop} {b n : Nat} {cells : List AV} (h : Cx.le c c') (hb : w'.heap[b]? = w.heap[b]?)
    (ho : ∀ j z l v, cells[j]? = some (.sl .own z l) → ow j v z l.length → ow' j v z l.length) (r : ObjB c ow w b n cells) : ObjB c' ow' w' b n cells := by
  obtain ⟨arr, ty, fz, h1, hz, h2, h3⟩ := r
  refine ⟨arr, ty, fz, hb.trans h1, hz, h2, fun j x hx => ?_⟩
  obtain ⟨v, h4, h5⟩ := h3 j x hx
  exact ⟨v, h4, RepC'.mono h x v (fun z l e => by subst e; exact ho j z l v hx) h5⟩
theorem ObjM.mono {c c' : Cx} {b : Nat} {cells : List AV} (h : Cx.le c c') (hb : w'.heap[b]? = w.heap[b]?) (r : ObjM c w b cells) : ObjM c' w' b cells := by
  unfold ObjM at r ⊢
  split
  · obtain ⟨es, cl, h1, h2⟩ := r
    exact ⟨es, cl, hb.trans h1, h2.mono h⟩
  · trivial
theorem Obj'.mono {c c' : Cx} {ow ow' : Nat → Value → Nat → Nat → Prop} {b n : Nat} {cells : List AV} (h : Cx.le c c') (hb : w'.heap[b]? = w.heap[b]?)
    (ho : ∀ j z l v, cells[j]? = some (.sl .own z l) → ow j v z l.length → ow' j v z l.length) (r : Obj' c ow w b n cells) : Obj' c' ow' w' b n cells :=
  ⟨fun hk => (r.1 hk).mono h hb ho, r.2.mono h hb⟩

theorem RepT.dem {c : Cx} {ow ow' : Value → Nat → Nat → Prop} {x : AV} {v : Value} (r : RepT c ow x v) : RepT c ow' (demV x) v := by
  cases x with
  | sl m z l =>
    cases m <;> simp only [demV, RepT, RepE] at r ⊢
    · exact r
    · exact r
    · exact r.1
  | _ => exact r

theorem RepT.str {c : Cx} {ow ow' : Value → Nat → Nat → Prop} {x : AV} {v : Value} (r : RepT c ow x v) : RepT c ow' (strV x) v := by
  cases x with
  | sl m z l =>
    cases m with
    | no => exact r
    | own => exact r.1
    | full =>
      simp only [RepT, RepE, RepF] at r
      obtain ⟨A, cp, h1, h2, _, _, h5⟩ := r
      show RepF c.S c.w (.sl .no z l) v
      simp only [RepF]
      exact ⟨A, cp, h1, h2, by simp, by simp, h5⟩
  | _ => exact r

/-- A value that is no owner says the same of every slot. -/
theorem RepT.noown {c : Cx} {ow ow' : Value → Nat → Nat → Prop} {x : AV} {v : Value} (hx : demV x = x) (r : RepT c ow x v) : RepT c ow' x v := by
  rw [← hx]; exact r.dem

theorem lt_of_some {w : World} {b : Nat} {x : Obj} (e : w.heap[b]? = some x) : b < w.heap.size := by
  rcases Nat.lt_or_ge b w.heap.size with h' | h'
  · exact h'
  · rw [Array.getElem?_eq_none h'] at e; cases e

theorem ObjB.lt {c : Cx} {ow : Nat → Value → Nat → Nat → Prop} {b n : Nat} {cells : List AV} (h : ObjB c ow w b n cells) : b < w.heap.size := by
  obtain ⟨_, _, _, h1, _⟩ := h
  exact lt_of_some h1

theorem Sim.put_ (h : Sim E g σ a w) {d : Nat} {x : AV} {v : Value} (hd : d < E.nt) (hx : RepT (cx E g σ w) (OwnAt g.kd w (.slot d)) x v) :
    Sim E g (put σ (some d) x) (a.put (some d) v) w := by
  refine { h with size := ?_, slots := ?_ }
  · simpa [Act.put] using h.size
  · intro t
    have hs : d < a.tmps.size := by rw [h.size]; exact hd
    show RepT (cx E g σ w) _ (upd σ.fr d x t) ((a.tmps.setIfInBounds d v).getD t undef)
    unfold upd
    by_cases ht : t = d
    · subst ht
      simpa [Array.getD_eq_getD_getElem?, Array.getElem?_setIfInBounds, hs] using hx
    · rw [if_neg ht]
      have : (a.tmps.setIfInBounds d v).getD t undef = a.tmps.getD t undef := by
        simp [Array.getD_eq_getD_getElem?, Ne.symm ht]
      rw [this]
      exact h.slots t

theorem Sim.dem_ (h : Sim E g σ a w) (d : Option Nat) : Sim E g (demS σ d) a w := by
  cases d with
  | none => exact h
  | some d =>
    refine { h with slots := ?_ }
    intro t
    show RepT (cx E g σ w) _ (upd σ.fr d (demV (σ.fr d)) t) _
    unfold upd
    by_cases ht : t = d
    · subst ht; rw [if_pos rfl]; exact (h.slots t).dem
    · rw [if_neg ht]; exact h.slots t

theorem cx_scrub (al : List Nat) : (∀ s, s ∉ al → (σ.lo s).isSome = true → ((scrub al σ).lo s).isSome = true) := by
  intro s hs h
  simp [scrub, hs, h]

theorem Sim.scrub_ (h : Sim E g σ a w) (al : List Nat) : Sim E g (scrub al σ) a w := by
  have hE : ∀ x v, RepE (cx E g σ w) x v → RepE (cx E g (scrub al σ) w) x v := by
    intro x v r; cases x <;> exact r
  have hC : ∀ ow x v, RepC' (cx E g σ w) ow x v → RepC' (cx E g (scrub al σ) w) ow x v := by
    intro ow x v r
    cases x with
    | sl m z l => cases m <;> exact r
    | _ => exact r
  have hO : ∀ ow b n cells, ObjB (cx E g σ w) ow w b n cells → ObjB (cx E g (scrub al σ) w) ow w b n cells := by
    rintro ow b n cells ⟨arr, ty, fz, h1, hz, h2, h3⟩
    refine ⟨arr, ty, fz, h1, hz, h2, fun j x hx => ?_⟩
    obtain ⟨v, h4, h5⟩ := h3 j x hx
    exact ⟨v, h4, hC _ _ _ h5⟩
  have hM : ∀ l es, RepM (cx E g σ w) l es → RepM (cx E g (scrub al σ) w) l es := by
    intro l
    induction l with
    | nil => intro es r; cases es <;> exact r
    | cons e l ih =>
      intro es r
      match e, es, r with
      | [k, v], e :: es, r =>
        simp only [RepM] at r ⊢
        exact ⟨r.1, r.2.1, hE _ _ r.2.2.1, hE _ _ r.2.2.2.1, ih _ r.2.2.2.2⟩
      | [], _, r => simp [RepM] at r
      | [_], _, r => simp [RepM] at r
      | (_ :: _ :: _ :: _), _, r => simp [RepM] at r
      | [_, _], [], r => simp [RepM] at r
  refine { h with slots := ?_, loc := ?_, shr := ?_ }
  · intro t
    show RepT (cx E g (scrub al σ) w) _ (scrubV al (σ.fr t)) _
    have r := h.slots t
    cases hx : σ.fr t with
    | loc s off =>
      rw [hx] at r
      by_cases hs : s ∈ al
      · simp [scrubV, hs, RepT]
      · simp only [scrubV, hs, if_false, RepT, cx, scrub] at r ⊢; exact r
    | sl m z l =>
      rw [hx] at r
      cases m <;> exact r
    | _ =>
      rw [hx] at r
      exact r
  · intro i cells hi hd
    obtain ⟨h1, h2, h3⟩ := h.shr i cells hi hd
    refine ⟨h1, fun hb => hO _ _ _ _ (h2 hb), ?_⟩
    unfold ObjM at h3 ⊢
    split
    · obtain ⟨es, cl, h4, h5⟩ := h3
      exact ⟨es, cl, h4, hM _ _ h5⟩
    · trivial
  · intro s cells hc
    by_cases hs : s ∈ al
    · simp [scrub, hs] at hc
    · simp [scrub, hs] at hc
      obtain ⟨h1, h2, h3⟩ := h.loc s cells hc
      exact ⟨h1, h2, hO _ _ _ _ h3⟩

theorem Sim.forget_ (h : Sim E g σ a w) (kill : List Nat) : Sim E g (Av.forget kill σ) a w := by
  have h1 := h.scrub_ kill
  refine { h1 with slots := ?_ }
  intro t
  show RepT (cx E g (Av.scrub kill σ) w) _ (if t ∈ kill then .any else scrubV kill (σ.fr t)) _
  split
  · trivial
  · exact h1.slots t

theorem SS.lt (h : Sim E g σ a w) {b n : Nat} (hs : SS E g w b n) : b < w.heap.size := by
  rcases hs with ⟨h1, _⟩ | ⟨_, h2, _⟩ | ⟨h2, _⟩
  · exact Nat.lt_of_lt_of_le h1 h.hsize
  · exact h2
  · exact h2

/-- Another world behind which all that is known still stands; the slots and the objects may say less. -/
theorem Sim.world (h : Sim E g σ a w) (hos : w'.os = w.os) (htape : w'.tape = w.tape) (hout : w'.output = w.output) (hsz : w.heap.size ≤ w'.heap.size)
    (hb : ∀ b, b < w.heap.size → w'.heap[b]? = w.heap[b]?) (hk : ∀ b, b < w.heap.size → g'.kd b = g.kd b) (hβ : g'.β = g.β) (hbs : g'.bs = g.bs) (hlam : g'.lam = g.lam) : Sim E g' σ a w' ∧ Cx.le (cx E g σ w) (cx E g' σ w') := by
  have hS : ∀ b o, SS E g w b o → SS E g' w' b o ∧ w'.cell? ⟨b, o, none⟩ = w.cell? ⟨b, o, none⟩ := by
    intro b o hs
    have hlt : b < w.heap.size := SS.lt h hs
    refine ⟨?_, by simp [World.cell?, hb b hlt]⟩
    rcases hs with hs | ⟨h1, h2, h3⟩ | ⟨h2, t, k, h3, h4⟩
    · exact .inl hs
    · exact .inr (.inl ⟨h1, by omega, by rw [hk b hlt]; exact h3⟩)
    · exact .inr (.inr ⟨by omega, t, k, by rw [hk b hlt]; exact h3, h4⟩)
  have hle : Cx.le (cx E g σ w) (cx E g' σ w') := ⟨hS, Nat.le_refl _, fun i _ => by simp [cx, hβ], fun i _ => by simp [cx, hbs], fun s hs => ⟨hs, by simp [cx, hlam]⟩⟩
  have how : ∀ t v z n, OwnAt g.kd w t v z n → OwnAt g'.kd w' t v z n := by
    rintro t v z n ⟨A, c, h1, h2⟩
    refine ⟨A, c, h1, ?_⟩
    rcases h2 with h2 | ⟨b, arr, ty, h3, h4, h5, h6⟩
    · exact .inl h2
    · exact .inr ⟨b, arr, ty, h3, (hb b (lt_of_some h4)).trans h4, h5, (hk b (lt_of_some h4)).trans h6⟩
  refine ⟨{ h with os := hos.trans h.os, tape := htape.trans h.tape, output := hout.trans h.output, hsize := Nat.le_trans h.hsize hsz, slots := ?_, shr := ?_, shr0 := ?_, shr1 := ?_, shrlt := ?_, shrk := ?_, loc := ?_, o0 := ?_, own0 := ?_, frame := ?_, sframe := ?_ }, hle⟩
  · intro t
    exact RepT.mono hle _ _ (fun _ _ _ => how _ _ _ _) (h.slots t)
  · intro i cells hi hd
    obtain ⟨h1, h2⟩ := h.shr i cells hi hd
    have hlt := h.shrlt i (List.getElem?_eq_some_iff.1 hi).1
    rw [hβ, hbs]
    exact ⟨(hk _ hlt).trans h1, h2.mono hle (hb _ hlt) (fun j z l v _ => how _ _ _ _)⟩
  · intro i hi; rw [hβ, hbs]; exact h.shr0 i hi
  · intro i hi hn; rw [hβ]; exact h.shr1 i hi hn
  · intro i hi; rw [hβ]; exact Nat.lt_of_lt_of_le (h.shrlt i hi) hsz
  · intro i hi; rw [hβ, hk _ (h.shrlt i hi)]; exact h.shrk i hi
  · intro s cells hs
    obtain ⟨h1, h2, h3⟩ := h.loc s cells hs
    rw [hlam]
    exact ⟨(hk _ h3.lt).trans h1, h2, h3.mono hle (hb _ h3.lt) (fun j z l v _ h => h)⟩
  · intro b k hk'
    obtain ⟨h1, h2, h3⟩ := h.o0 b k hk'
    refine ⟨h1, h2, ?_⟩
    rw [hk b (Nat.lt_of_lt_of_le h1 h.hsize)]; exact h3
  · intro b t k hkd
    rcases Nat.lt_or_ge b w.heap.size with hlt | hge
    · rw [hk b hlt] at hkd; exact h.own0 b t k hkd
    · exact .inl (Nat.le_trans h.hsize hge)
  · intro b h1 h2 h3
    exact (hb b (Nat.lt_of_lt_of_le h1 h.hsize)).trans (h.frame b h1 h2 h3)
  · intro b o hs
    have hlt := Nat.lt_of_lt_of_le (h.s0 b o hs).1 h.hsize
    rw [← h.sframe b o hs]
    simp [World.cell?, hb b hlt]

/-- A new block. -/
theorem Sim.alloc (h : Sim E g σ a w) (o : Obj) (k : BK) : Sim E { g with kd := upd g.kd w.heap.size k } σ a (w.alloc o) ∧ Cx.le (cx E g σ w) (cx E { g with kd := upd g.kd w.heap.size k } σ (w.alloc o)) :=
  h.world rfl rfl rfl (by simp) (fun b hb => by show (w.heap.push o)[b]? = _; rw [Array.getElem?_push, if_neg (by omega)])
    (fun b hb => by simp [upd, Nat.ne_of_lt hb]) rfl rfl rfl

theorem Sim.drawn (h : Sim E g σ a w) (n : Nat) : Sim E g σ a { w with drawn := n } :=
  (h.world (g' := g) (w' := { w with drawn := n }) rfl rfl rfl (Nat.le_refl _) (fun _ _ => rfl) (fun _ _ => rfl) rfl rfl rfl).1
end

end Go.Av
