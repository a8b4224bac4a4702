/- Plain rules for reckoning, put into the one list that 'simp' is given. -/
import Derived.Test.YthnablnojflbnaaDoorEv20
set_option linter.unusedSimpArgs false
set_option linter.unusedVariables false
namespace Go.Av
@[go_sem] theorem e_set0 {α : Type} (a b : α) (l : List α) : (a :: l).set 0 b = b :: l := (rfl)
@[go_sem] theorem e_setS {α : Type} (a b : α) (l : List α) (n : Nat) : (a :: l).set (n + 1) b = a :: l.set n b := (rfl)
@[go_sem] theorem e_takeS {α : Type} (a : α) (l : List α) (n : Nat) : (a :: l).take (n + 1) = a :: l.take n := (rfl)
@[go_sem] theorem e_takeN {α : Type} (n : Nat) : ([] : List α).take n = [] := List.take_nil
@[go_sem] theorem e_take0 {α : Type} (l : List α) : l.take 0 = [] := (rfl)
@[go_sem] theorem e_andf (p : Prop) : (p ∧ False) = False := and_false p
@[go_sem] theorem e_fand (p : Prop) : (False ∧ p) = False := false_and p
@[go_sem] theorem e_andt (p : Prop) : (p ∧ True) = p := and_true p
@[go_sem] theorem e_tand (p : Prop) : (True ∧ p) = p := true_and p
@[go_sem] theorem e_dec (p : Prop) [Decidable p] : (decide p = true) = p := decide_eq_true_eq
@[go_sem] theorem e_beq {α : Type} [BEq α] [ReflBEq α] (a : α) : (a == a) = true := beq_self_eq_true a
@[go_sem] theorem e_bne {α : Type} [BEq α] [LawfulBEq α] (a : α) : (a != a) = false := bne_self_eq_false a
@[go_sem] theorem e_mapC {α β : Type} (f : α → β) (a : α) (l : List α) : (a :: l).map f = f a :: l.map f := (rfl)
@[go_sem] theorem e_mapN {α β : Type} (f : α → β) : ([] : List α).map f = [] := (rfl)
@[go_sem] theorem e_bt (b : Bool) : (b && true) = b := Bool.and_true b
@[go_sem] theorem e_tb (b : Bool) : (true && b) = b := Bool.true_and b
@[go_sem] theorem e_bf (b : Bool) : (b && false) = false := Bool.and_false b
@[go_sem] theorem e_fb (b : Bool) : (false && b) = false := Bool.false_and b
@[go_sem] theorem e_bb (b : Bool) : (b && b) = b := Bool.and_self b
@[go_sem] theorem e_ands (p : Prop) : (p ∧ p) = p := and_self p
@[go_sem] theorem e_ne {α : Type} (a b : α) : (a ≠ b) = ¬ (a = b) := (rfl)
@[go_sem] theorem e_nt : (¬ True) = False := not_true_eq_false
@[go_sem] theorem e_nf : (¬ False) = True := not_false_eq_true
@[go_sem] theorem e_df (h : Decidable False) : @decide False h = false := decide_false h
@[go_sem] theorem e_dt (h : Decidable True) : @decide True h = true := decide_true h
@[go_sem] theorem e_ft : (false = true) = False := Bool.false_eq_true
@[go_sem] theorem e_mapS {α β : Type} (f : α → β) (a : α) : (some a).map f = some (f a) := (rfl)
@[go_sem] theorem e_mapO {α β : Type} (f : α → β) : (none : Option α).map f = none := (rfl)
@[go_sem] theorem e_bindS {α β : Type} (f : α → Option β) (a : α) : (some a).bind f = f a := (rfl)
@[go_sem] theorem e_bindO {α β : Type} (f : α → Option β) : (none : Option α).bind f = none := (rfl)
@[go_sem] theorem e_len0 {α : Type} : ([] : List α).length = 0 := (rfl)
@[go_sem] theorem e_lenC {α : Type} (a : α) (l : List α) : (a :: l).length = l.length + 1 := (rfl)
@[go_sem] theorem e_appN {α : Type} (l : List α) : l ++ [] = l := List.append_nil l
@[go_sem] theorem e_Napp {α : Type} (l : List α) : [] ++ l = l := (rfl)
@[go_sem] theorem e_Capp {α : Type} (a : α) (l m : List α) : (a :: l) ++ m = a :: (l ++ m) := (rfl)
@[go_sem] theorem e_toNat (n : Nat) : ((n : Int)).toNat = n := Int.toNat_natCast n
@[go_sem] theorem e_z (n : Nat) : 0 + n = n := Nat.zero_add n
@[go_sem] theorem e_zi (n : Int) : 0 + n = n := Int.zero_add n
@[go_sem] theorem e_nott : (!true) = false := (rfl)
@[go_sem] theorem e_notf : (!false) = true := (rfl)
@[go_sem] theorem e_w64 {n : Int} (h1 : -9223372036854775808 ≤ n) (h2 : n ≤ 9223372036854775807) : IntKind.i64.wrap n = n := w64 h1 h2
@[go_sem] theorem e_dem (o : Own) (z : Nat) (x : List (List AV)) : demV (.sl o z x) = .sl (demO o) z x := demV_sl o z x
end Go.Av
