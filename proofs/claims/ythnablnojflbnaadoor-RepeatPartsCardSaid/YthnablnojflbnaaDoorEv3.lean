/- A part of the proof: Ev3. No conditions. -/
import Derived.Test.YthnablnojflbnaaDoorEv2
set_option linter.unusedSimpArgs false
set_option linter.unusedVariables false
namespace Go.Av
set_option linter.unusedSectionVars false
variable [Gtab]
open Go.RowKit

/-! ### When an operation of the model is what an abstract one says -/
mutual
def okC : Value → AV → Bool
  | .int k n, .int k' n' => k == k' && n == n'
  | .bool b, .bool b' => b == b'
  | .string b, .str s => b.data.toList == s
  | .slice none 0 0, .sl .full _ [] => true
  | .slice none 0 0, .sl .no _ [] => true
  | .pointer none, .nilp => true
  | _, _ => false
end
def okL : List Value → List AV → Bool
  | [], [] => true
  | v :: vs, a :: as => okC v a && okL vs as
  | _, _ => false
def okV : Value → AV → Bool
  | .agg cs, .agg l => okL cs.toList l
  | v, a => okC v a

/-- The cells of a table. -/
def tabL (i : Nat) : Option (List AV) := (Gtab.tab i).map fun p => p.2.map (AV.int p.1)
def intsOf (k : IntKind) : List AV → List Int → Bool
  | [], [] => true
  | .int k' n :: l, m :: ms => k == k' && n == m && intsOf k l ms
  | _, _ => false
def isTab (i : Nat) (l : List AV) : Bool := match Gtab.tab i with
  | some (k, ns) => intsOf k l ns
  | none => false
theorem intsOf_eq {k : IntKind} : ∀ {l : List AV} {ns : List Int}, intsOf k l ns = true → l = ns.map (AV.int k)
  | [], [], _ => rfl
  | .int k' n :: l, m :: ms, h => by
    simp only [intsOf, Bool.and_eq_true, beq_iff_eq] at h
    obtain ⟨⟨h1, h2⟩, h3⟩ := h
    have h1' : k = k' := by simpa using h1
    subst h1' h2
    rw [intsOf_eq h3]; rfl
  | [], _ :: _, h => by simp [intsOf] at h
  | .int .. :: _, [], h => by simp [intsOf] at h
  | .any :: _, _, h => by simp [intsOf] at h
  | .undef :: _, _, h => by simp [intsOf] at h
  | .bool _ :: _, _, h => by simp [intsOf] at h
  | .str _ :: _, _, h => by simp [intsOf] at h
  | .nilp :: _, _, h => by simp [intsOf] at h
  | .ptr .. :: _, _, h => by simp [intsOf] at h
  | .loc .. :: _, _, h => by simp [intsOf] at h
  | .ip _ :: _, _, h => by simp [intsOf] at h
  | .sl .. :: _, _, h => by simp [intsOf] at h
  | .fn .. :: _, _, h => by simp [intsOf] at h
  | .agg _ :: _, _, h => by simp [intsOf] at h
  | .tup _ :: _, _, h => by simp [intsOf] at h
  | .ss .. :: _, _, h => by simp [intsOf] at h
  | .mp _ :: _, _, h => by simp [intsOf] at h
  | .mapv _ :: _, _, h => by simp [intsOf] at h
  | .aggR _ :: _, _, h => by simp [intsOf] at h

def okR : Operand → AR → Bool
  | .global i, .c (.ip l) => isTab i l
  | .tmp t, .t s => t == s
  | .const v, .c a => okV v a
  | .func f, .c (.fn f' []) => f == f'
  | _, _ => false

def okRs : List Operand → List AR → Bool
  | [], [] => true
  | x :: xs, r :: rs => okR x r && okRs xs rs
  | _, _ => false

theorem okC_rep {S : Nat → Nat → Prop} {w : World} {v : Value} {x : AV} (h : okC v x = true) : RepF S w x v := by
  unfold okC at h
  split at h
  · simp at h; simp [RepF, h]
  · simp at h; simp [RepF, h]
  · simp at h; exact ⟨_, rfl, h⟩
  · simp only [RepF]; exact ⟨none, 0, rfl, Nat.le_refl _, fun _ => rfl, by simp, .inl trivial⟩
  · simp only [RepF]; exact ⟨none, 0, rfl, Nat.le_refl _, fun _ => rfl, by simp, .inl trivial⟩
  · simp [RepF]
  · cases h
theorem okL_rep {S : Nat → Nat → Prop} {w : World} : ∀ {vs : List Value} {l : List AV}, okL vs l = true → RepL (RepF S w) l vs
  | [], [], _ => trivial
  | v :: vs, x :: l, h => by
    simp only [okL, Bool.and_eq_true] at h
    exact ⟨okC_rep h.1, okL_rep h.2⟩
  | [], _ :: _, h => by simp [okL] at h
  | _ :: _, [], h => by simp [okL] at h
theorem okC_cases {v : Value} {x : AV} (h : okC v x = true) : demV x = x ∧ (∀ c ow, RepF c.S c.w x v → RepT c ow x v) := by
  unfold okC at h
  split at h
  · exact ⟨rfl, fun _ _ r => r⟩
  · exact ⟨rfl, fun _ _ r => r⟩
  · exact ⟨rfl, fun _ _ r => r⟩
  · exact ⟨rfl, fun _ _ r => r⟩
  · exact ⟨rfl, fun _ _ r => r⟩
  · exact ⟨rfl, fun _ _ r => r⟩
  · cases h
theorem okV_rep {c : Cx} {ow : Value → Nat → Nat → Prop} {v : Value} {x : AV} (h : okV v x = true) : RepT c ow x v := by
  unfold okV at h
  split at h
  · exact ⟨_, rfl, okL_rep h⟩
  · exact (okC_cases h).2 _ _ (okC_rep h)

section
variable {E : Env} {g g' : Gh} {σ : AS} {a : Act} {w w' : World}

/-- An operand reads as the abstract one says; its owner, if it is a slot, is that slot. -/
theorem Sim.tabR (h : Sim E g σ a w) {i : Nat} {l : List AV} (ho : isTab i l = true) : RepC (SS E g w) w l i 0 := by
  unfold isTab at ho
  split at ho
  · rename_i k ns hk
    rw [intsOf_eq ho]
    exact RepC.mono (fun b o hs => ⟨.inl ⟨(h.s0 b o hs).1, hs⟩, h.sframe b o hs⟩) _ _ _ (h.gl i k ns hk)
  · cases ho
theorem Sim.ev_ (h : Sim E g σ a w) {x : Operand} {r : AR} (ho : okR x r = true) {ow : Value → Nat → Nat → Prop} : RepT (cx E g σ w) ow (demV (ev σ.fr r)) (a.eval x) := by
  unfold okR at ho
  split at ho
  · exact ⟨_, 0, rfl, h.tabR ho⟩
  · simp at ho
    subst ho
    exact (h.slots _).dem
  · exact (okV_rep (ow := ow) ho).dem
  · simp at ho
    subst ho
    exact ⟨#[], rfl, trivial⟩
  · cases ho

/-- The same without the owner being struck: of a slot. -/
theorem Sim.evo (h : Sim E g σ a w) {t : Nat} : RepT (cx E g σ w) (OwnAt g.kd w (.slot t)) (ev σ.fr (.t t)) (a.eval (.tmp t)) := h.slots t

theorem Sim.args_ (h : Sim E g σ a w) : ∀ {xs : List Operand} {rs : List AR}, okRs xs rs = true → ∀ {i : Nat} {r : AR}, rs[i]? = some r → ∃ x, xs[i]? = some x ∧ okR x r = true
  | [], [], _, _, _, hr => by simp at hr
  | x :: xs, r :: rs, ho, 0, r', hr => by
    simp only [okRs, Bool.and_eq_true] at ho
    simp at hr; subst hr
    exact ⟨x, rfl, ho.1⟩
  | x :: xs, r :: rs, ho, i + 1, r', hr => by
    simp only [okRs, Bool.and_eq_true] at ho
    obtain ⟨x', h1, h2⟩ := Sim.args_ h ho.2 (i := i) (r := r') (by simpa using hr)
    exact ⟨x', by simpa using h1, h2⟩
  | [], _ :: _, ho, _, _, _ => by simp [okRs] at ho
  | _ :: _, [], ho, _, _, _ => by simp [okRs] at ho
end

/-! ### The types, as the program has them -/
def isAggP (P : Program) (t : TypeId) : Bool := match P.underlying t with | some (.struct _) | some (.array _ _) => true | _ => false
def sizeIs (P : Program) (t : TypeId) (agg : Bool) (n : Nat) : Bool :=
  (P.underlying t).isSome && isAggP P t == agg && (match P.info? t with | some i => i.size == n | none => false)
def zeroIs (P : Program) (t : TypeId) (l : List AV) : Bool :=
  match P.info? t with
  | some i => (match i.zero with | some z => okL z.cells.toList l | none => false) && i.size == l.length
  | none => false


/-- The same, of cells of which nothing need be known. -/
def okLO : List Value → List AV → Bool
  | [], [] => true
  | _ :: vs, .any :: as => okLO vs as
  | v :: vs, a :: as => okC v a && okLO vs as
  | _, _ => false
def zeroIsO (P : Program) (t : TypeId) (l : List AV) : Bool :=
  match P.info? t with
  | some i => (match i.zero with | some z => okLO z.cells.toList l | none => false) && i.size == l.length
  | none => false

def plainO (ao : AOper) : Bool := ao.ml == .none && ao.dem.isNone
def sizeOf' (P : Program) (t : TypeId) : Option Nat := (P.info? t).map (·.size)
def placeOf (P : Program) (t : TypeId) : Nat → Option (Nat × Nat) :=
  match P.underlying t with
  | some (.array _ e) => (match P.info? e with | some ie => fun i => some (i * ie.size, ie.size) | none => fun _ => none)
  | some (.struct fields) => (match fields.toList.mapM (fun f => (P.info? f.type).map fun i => (f.offset, i.size)) with | some places => fun i => places.toArray[i]? | none => fun _ => none)
  | _ => fun _ => none
def okPl (pl : Nat → Option (Nat × Nat)) : List (Nat × Operand) → List (Nat × Nat) → Bool
  | [], [] => true
  | (i, _) :: ps, q :: qs => pl i == some q && okPl pl ps qs
  | _, _ => false
def okOps (x : Operand) : Option Operand → List Operand
  | none => [x]
  | some y => [x, y]

/-- Fields of one cell each that '==' compares by value. -/
def fieldsOK (P : Program) : List Field → Nat → List Nat → Bool
  | [], _, [] => true
  | f :: fs, n, k :: ks => f.name != "_" && f.offset == n && (match P.underlying f.type, k with | some (.int _), 0 => true | some .bool, 1 => true | some .string, 2 => true | _, _ => false) && fieldsOK P fs (n + 1) ks
  | _, _, _ => false

def isConst0 : Operand → Bool
  | .const (.int _ 0) => true
  | _ => false
def isStrT (P : Program) (t : TypeId) : Bool := match P.underlying t with | some .string => true | _ => false
def isIntT (P : Program) (t : TypeId) (k : IntKind) : Bool := match P.underlying t with | some (.int k') => k == k' | _ => false
def elemBytes (P : Program) (t : TypeId) : Bool := match P.underlying t with | some (.slice e) => isIntT P e .u8 | _ => false
def keyOK (P : Program) (t : TypeId) (kk : List Nat) : Bool :=
  match P.underlying t, kk with
  | some (.int _), [0] => true
  | some .string, [2] => true
  | _, _ => false
def zeroV (P : Program) (t : TypeId) (agg : Bool) (zero : List AV) : Bool :=
  match (P.info? t).bind (·.zero) with
  | some (.agg cs) => agg && okL cs.toList zero
  | some v => !agg && (match zero with | [x] => okC v x | _ => false)
  | none => false
def okArgs1 (ao : AOper) : Bool := match ao.args with | [_, .t s] => ao.dem == some s | [_, .c _] => ao.dem.isNone | _ => false

def okK (P : Program) (o : Oper) (ao : AOper) : Bool :=
  match o.op, ao.k with
  | .move x, .mv | .assign x, .mv => okRs [x] ao.args && plainO ao
  | .move x, .mvo | .assign x, .mvo => okRs [x] ao.args && ao.ml == .none && (match ao.args with | [.t s] => ao.dem == some s | _ => false)
  | .pick c x y, .pick => okRs [c, x, y] ao.args && plainO ao
  | .alloc e, .alloc zero => okRs [] ao.args && zeroIs P e zero && ao.dem.isNone && ao.dst.isSome
  | .alloc e, .allocS zero => okRs [] ao.args && zeroIsO P e zero && ao.dem.isNone && ao.dst.isSome
  | .box _ x, .box _ => okRs [x] ao.args && ao.dem.isNone && ao.dst.isSome
  | .box _ x, .boxS _ => okRs [x] ao.args && ao.dem.isNone && ao.dst.isSome
  | .build t parts, .build zero pl => okRs (parts.toList.map (·.2)) ao.args && zeroIs P t zero && plainO ao && okPl (placeOf P t) parts.toList pl &&
      (match P.underlying t with
       | some (.array _ e) => (P.info? e).isSome
       | some (.struct fields) => (fields.toList.mapM (fun f => (P.info? f.type).map fun i => (f.offset, i.size))).isSome
       | _ => false)
  | .build t parts, .buildR zero pl => okRs (parts.toList.map (·.2)) ao.args && zeroIsO P t zero && plainO ao && okPl (placeOf P t) parts.toList pl &&
      (match P.underlying t with
       | some (.array _ e) => (P.info? e).isSome
       | some (.struct fields) => (fields.toList.mapM (fun f => (P.info? f.type).map fun i => (f.offset, i.size))).isSome
       | _ => false)
  | .buildSlice t len parts, .mks z zero len' pl => okRs (parts.toList.map (·.2)) ao.args && plainO ao && len == len' && pl == parts.toList.map (·.1) &&
      (match P.underlying t with
       | some (.slice e) => sizeOf' P e == some z && zeroIs P e zero && decide (len * z ≤ 16777216) && decide (0 < z)
       | _ => false)
  | .load t x, .ld agg n => okRs [x] ao.args && ao.dem.isNone && sizeIs P t agg n
  | .store t x y, .st n => okRs [x, y] ao.args && ao.dem.isNone && ao.dst.isNone && sizeOf' P t == some n
  | .nilCheck x, .nilc => okRs [x] ao.args && plainO ao
  | .binOp op _ x y _, .bin op' => okRs [x, y] ao.args && plainO ao && op == op'
  | .binOp op t x y _, .beq ne => okRs [x, y] ao.args && plainO ao && (if ne then op == .neq else op == .eql) && (match P.underlying t with | some .bool => true | _ => false)
  | .binOp op t x y _, .seq ne ks => okRs [x, y] ao.args && plainO ao && (if ne then op == .neq else op == .eql) && (match P.underlying t with | some (.struct fs) => !P.stoodInHeld t && !P.eqGuardType P.depth t && fieldsOK P fs.toList 0 ks | _ => false)
  | .unOp op _ x, .un op' => okRs [x] ao.args && plainO ao && op == op'
  | .slice t x lo hi none, .slc str z l h => okRs (x :: (lo.toList ++ hi.toList)) ao.args && plainO ao && lo.isSome == l && hi.isSome == h &&
      (match P.underlying t with
       | some (.slice e) => !str && sizeOf' P e == some z
       | some .string => str
       | _ => false)
  | .fieldAddr s x f, .fa off => okRs [x] ao.args && plainO ao &&
      (match P.underlying s with
       | some (.struct fs) => (match fs[f]? with | some f => f.offset == off && (match sizeOf' P f.type with | some n => n != 0 | none => false) | none => false)
       | _ => false)
  | .field t x f, .fld agg off n => okRs [x] ao.args && plainO ao &&
      (match P.underlying t with
       | some (.struct fs) => (match fs[f]? with | some f => f.offset == off && sizeIs P f.type agg n | none => false)
       | _ => false)
  | .indexAddr t x i, .ia z => okRs [x, i] ao.args && plainO ao &&
      (match P.underlying t with
       | some (.slice e) => sizeOf' P e == some z
       | _ => false)
  | .indexAddr t x i, .iaA z len => okRs [x, i] ao.args && plainO ao &&
      (match P.underlying t with
       | some (.array n e) => n == len && sizeOf' P e == some z
       | _ => false)
  | .index t x i, .ixs => okRs [x, i] ao.args && plainO ao && (match P.underlying t with | some .string => true | _ => false)
  | .call { callee := .builtin .len, args := xs, argTypes := ts }, .len str => okRs xs.toList ao.args && plainO ao && xs.size == 1 && (match ts[0]? with | some t => (match P.underlying t with | some .string => str | some (.slice _) => !str | _ => false) | none => false)
  | .call { callee := .builtin .max, args := xs, .. }, .mm true => okRs xs.toList ao.args && plainO ao && xs.size == 2
  | .call { callee := .builtin .min, args := xs, .. }, .mm false => okRs xs.toList ao.args && plainO ao && xs.size == 2
  | .call { callee := .builtin .append, args := xs, argTypes := ts }, .app str z bytes => okRs xs.toList ao.args && ao.ml == .none && xs.size == 2 &&
      (match ao.args with | .t s :: _ => ao.dem == some s | .c _ :: _ => ao.dem.isNone | _ => false) &&
      (match ts.toList with
       | [t, u] => (match P.underlying t with
         | some (.slice e) => (match P.info? e with | some i => i.size == z && i.bytes == bytes && (match i.zero with | some zv => zv.cells.size == z | none => false) | none => false) &&
             (match P.underlying u with | some .string => str | some (.slice _) => !str | _ => false)
         | _ => false)
       | _ => false)
  | .makeFunc (.func f) first caps, .mkf f' => okRs caps.toList ao.args && plainO ao && f == f' && first.isEmpty
  | .call { callee := .value (.func f), args := xs, .. }, .call f' => okRs xs.toList ao.args && ao.dem.isNone && f == f'
  | .call { callee := .value (.tmp t), args := xs, .. }, .callv => okRs (.tmp t :: xs.toList) ao.args && ao.dem.isNone
  | .extract x i, .ext i' => okRs [x] ao.args && plainO ao && i == i'
  | .load t x, .ldo => okRs [x] ao.args && ao.dem.isNone && sizeIs P t false 1
  | .store t x y, .sto => okRs [x, y] ao.args && okArgs1 ao && ao.dst.isNone && sizeOf' P t == some 1
  | .convert src dst x, .cvi k => okRs [x] ao.args && plainO ao && (P.underlying src).isSome && isIntT P dst k
  | .convert src dst x, .s2b => okRs [x] ao.args && ao.dem.isNone && isStrT P src && elemBytes P dst
  | .convert src dst x, .b2s => okRs [x] ao.args && ao.dem.isNone && isStrT P dst && elemBytes P src
  | .makeSlice t l c, .mkl z zero bytes => okRs [l, c] ao.args && ao.dem.isNone &&
      (match P.underlying t with
       | some (.slice e) => sizeOf' P e == some z && zeroIs P e zero && (match P.info? e with | some i => i.bytes == bytes | none => false)
       | _ => false)
  | .call { callee := .builtin .append, args := xs, argTypes := ts }, .appS str z bytes => okRs xs.toList ao.args && ao.dem.isNone && xs.size == 2 &&
      (match ts.toList with
       | [t, u] => (match P.underlying t with
         | some (.slice e) => (match P.info? e with | some i => i.size == z && i.bytes == bytes && (match i.zero with | some zv => zv.cells.size == z | none => false) | none => false) &&
             (match P.underlying u with | some .string => str | some (.slice _) => !str | _ => false)
         | _ => false)
       | _ => false)
  | .call { callee := .builtin .clear, args := xs, argTypes := ts }, .clr z zero => okRs xs.toList ao.args && ao.dem.isNone && xs.size == 1 &&
      (match ts.toList with
       | [t] => (match P.underlying t with
         | some (.slice e) => zeroIs P e zero && zero.length == z
         | _ => false)
       | _ => false)
  | .slice t x lo (some hi) (some mx), .slc0 _ => okRs [x] ao.args && plainO ao && lo.isNone && isConst0 hi && isConst0 mx &&
      (match P.underlying t with
       | some (.slice e) => (P.info? e).isSome
       | _ => false)
  | .makeMap _ none, .mkm => okRs [] ao.args && ao.dem.isNone
  | .lookup t x k ok', .lkp ok agg kk zero => okRs [x, k] ao.args && ao.dem.isNone && ok' == ok &&
      (match P.underlying t with
       | some (.map key elem) => keyOK P key kk && zeroV P elem agg zero
       | _ => false)
  | .mapUpdate t m k v, .mup kk => okRs [m, k, v] ao.args && ao.dem.isNone && ao.dst.isNone &&
      (match P.underlying t with
       | some (.map key _) => keyOK P key kk
       | _ => false)
  | .index t x i, .ixA agg z len => okRs [x, i] ao.args && plainO ao &&
      (match P.underlying t with
       | some (.array n e) => n == len && sizeIs P e agg z
       | _ => false)
  | .binOp op _ x y _, .shf l => okRs [x, y] ao.args && plainO ao && (if l then op == .shl else op == .shr)
  | .call { callee := .value (.func f), args := xs, .. }, .callR f' => okRs xs.toList ao.args && ao.dem.isNone && f == f'
  | .call { callee := .value (.tmp t), args := xs, .. }, .callvR => okRs (.tmp t :: xs.toList) ao.args && ao.dem.isNone
  | .slice t x lo (some hi) none, .slx z l => okRs (x :: (lo.toList ++ [hi])) ao.args && ao.dem.isNone && lo.isSome == l &&
      (match P.underlying t with
       | some (.slice e) => sizeOf' P e == some z
       | _ => false)
  | .slice t x (some lo) (some hi) (some mx), .slm => okRs [x, lo, hi, mx] ao.args && plainO ao &&
      (match P.underlying t with
       | some (.slice e) => (P.info? e).isSome
       | _ => false)
  | .slice t x (some lo) (some hi) none, .sla len => okRs [x, lo, hi] ao.args && ao.dem.isNone &&
      (match P.underlying t with
       | some (.array n e) => n == len && sizeOf' P e == some 1
       | _ => false)
  | .call { callee := .builtin .copy, args := xs, argTypes := ts }, .cpy z => okRs xs.toList ao.args && ao.dem.isNone && xs.size == 2 &&
      (match ts.toList with
       | [t, _] => (match P.underlying t with
         | some (.slice e) => sizeOf' P e == some z
         | _ => false)
       | _ => false)
  | .call { callee := .builtin .append, args := xs, argTypes := ts }, .appC z => okRs xs.toList ao.args && ao.dem.isNone && xs.size == 2 &&
      (match ts.toList with
       | [t, u] => (match P.underlying t with
         | some (.slice e) => sizeOf' P e == some z && (match P.underlying u with | some (.slice _) => true | _ => false)
         | _ => false)
       | _ => false)
  | _, _ => false

end Go.Av
