/- A part of the proof: Ev27. No conditions. -/
import Derived.Test.YthnablnojflbnaaDoorEv22
import Derived.Lib.Bytealg
set_option linter.unusedSimpArgs false
set_option linter.unusedVariables false
namespace Go.Av
set_option linter.unusedSectionVars false
variable [Gtab]
open Go.RowKit
set_option linter.unusedSimpArgs false
set_option linter.unusedVariables false
section
variable {P : Program}
/-- A call that turns nothing. -/
theorem After.same0 {sh : List (List AV)} {kd : Nat → BK} {β bs : Nat → Nat} {S0 : Nat → Nat → Prop} {O0 : Nat → Option Nat} {w : World} (h : EntOK sh kd β bs S0 O0 w) {r : AV} {v : Value} (hr : RepT (cx0 β bs (S1 S0 w w kd) w sh.length) noOwn r v) :
    After S0 O0 β bs w sh sh r v kd β bs w := by
  obtain ⟨⟨e1, e2⟩, e3, e4, e5, _⟩ := h
  have hle : Cx.le (cx0 β bs S0 w sh.length) (cx0 β bs (S1 S0 w w kd) w sh.length) := ⟨fun b o hS => ⟨.inl hS, rfl⟩, Nat.le_refl _, fun _ _ => rfl, fun _ _ => rfl, fun s hs => hs.elim⟩
  refine { same := fun _ _ => ⟨rfl, rfl⟩, len := Nat.le_refl _, shok := ⟨fun i cells hi hd => ?_, e2⟩, rep := hr, os := rfl, tape := rfl, output := rfl, size := Nat.le_refl _, frame := fun _ _ _ _ => rfl, sframe := fun _ _ _ => rfl, o0 := fun b k hk => ?_, own0 := fun b t k hk => ?_, new := fun i h1 h2 => by omega, deads := fun _ h => h }
  · obtain ⟨f1, f2⟩ := e1 i cells hi hd
    exact ⟨f1, f2.mono hle rfl (fun _ _ _ _ _ h => h)⟩
  · exact (e4 b k hk).2.2
  · rcases Nat.lt_or_ge b w.heap.size with hb | hb
    · exact .inr (e5 b t k hk hb)
    · exact .inl hb
/-- internal/bytealg.IndexByteString as a given contract. -/
def ibB (f0 : Nat) : Calls' := fun f args sh => if f = f0 then (match args with
  | [.str s, .int .u8 c] => some (.int .i64 (Lib.indexByte s c.toNat.toUInt8), sh)
  | _ => none) else none
theorem ibB_sound {f0 : FuncId} {fn : Func} (hf : P.funcs[f0]? = some fn) (hname : (fn.name == "runtime.NumGoroutine") = false) (hb : fn.body.isNone = true) (hn : Extern.findNext fn = none)
    (he : Extern.find fn = some Extern.BytealgIndexByte.indexByte) : Good P (ibB f0) := by
  intro f args sh r sh' h
  unfold ibB at h
  split at h
  · rename_i hff
    subst hff
    split at h
    · rename_i s c
      simp only [Option.some.injEq, Prod.mk.injEq] at h
      obtain ⟨rfl, rfl⟩ := h
      refine .inr ?_
      intro kd β bs S0 O0 w vs hent hargs
      obtain ⟨xs⟩ := vs
      have hl2 := hargs.length
      simp at hl2
      match xs, hl2 with
      | [u, v], _ =>
        obtain ⟨h1, h2, _⟩ := hargs
        obtain ⟨b, rfl, rfl⟩ : ∃ b, u = .string b ∧ b.data.toList = s := h1
        have h2' : v = .int .u8 c := h2
        subst h2'
        refine ⟨.int .i64 (Lib.indexByte b.data.toList c.toNat.toUInt8), w, kd, β, bs, ?_, After.same0 hent rfl⟩
        rw [run_callFunc_extern hf hname hb hn he]
        have : (#[.string b, .int .u8 c] : Array Value) = ⟨[.string b, .int .u8 c]⟩ := rfl
        rw [← this]
        show ((Extern.BytealgIndexByte.indexByte #[.string b, .int .u8 c]).run P w).andThen _ = _
        rw [Lib.run_indexByteString]
        rfl
    · cases h
  · cases h
end
end Go.Av
