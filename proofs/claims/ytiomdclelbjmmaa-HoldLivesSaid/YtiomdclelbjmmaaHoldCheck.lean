/-
  slices.ContainsFunc over writes; txn.Check.
-/
import Derived.Test.YtiomdclelbjmmaaHoldDefs
set_option linter.unusedVariables false
set_option linter.unusedSimpArgs false
namespace Go.Proofs.Ytiomdclelbjmmaa
open Go.RowKit

def longB (x : Wr) : Bool := decide (64 < x.k.size) || decide (256 < x.v.size)
def badB (x : Wr) : Bool := x.g && !(x.v.toList == [])

theorem long_any (x : Wr) (w : World) : Calls Try.prog 37 #[.agg #[.string x.k, .string x.v, .bool x.g]] w fun e w' => e = .returned (.bool (longB x)) ∧ Below w.heap.size w w' := by
  unfold longB
  by_cases h0 : 64 < x.k.size
  · have t0 : decide ((64 : Int) < (x.k.size : Int)) = true := by simp; omega
    have e0 : decide (64 < x.k.size) = true := by simpa using h0
    rw [e0, Bool.true_or]
    go_enter Try.func37, Try.ntmps37
    go_wp2_with (fail)
    go_ret
    exact ⟨rfl, (Below.refl _ _).alloc (Nat.le_refl _) _⟩
  · have t0 : decide ((64 : Int) < (x.k.size : Int)) = false := by simp; omega
    have e0 : decide (64 < x.k.size) = false := by simpa using h0
    rw [e0, Bool.false_or]
    by_cases h1 : 256 < x.v.size
    · have t1 : decide ((256 : Int) < (x.v.size : Int)) = true := by simp; omega
      have e1 : decide (256 < x.v.size) = true := by simpa using h1
      rw [e1]
      go_enter Try.func37, Try.ntmps37
      go_wp2_with (fail)
      go_ret
      exact ⟨rfl, (Below.refl _ _).alloc (Nat.le_refl _) _⟩
    · have t1 : decide ((256 : Int) < (x.v.size : Int)) = false := by simp; omega
      have e1 : decide (256 < x.v.size) = false := by simpa using h1
      rw [e1]
      go_enter Try.func37, Try.ntmps37
      go_wp2_with (fail)
      go_ret
      exact ⟨rfl, (Below.refl _ _).alloc (Nat.le_refl _) _⟩

theorem bad_any (x : Wr) (w : World) : Calls Try.prog 38 #[.agg #[.string x.k, .string x.v, .bool x.g]] w fun e w' => e = .returned (.bool (badB x)) ∧ Below w.heap.size w w' := by
  unfold badB
  obtain ⟨k, v, g⟩ := x
  cases g
  · go_enter Try.func38, Try.ntmps38
    go_wp2_with (fail)
    go_ret
    exact ⟨rfl, (Below.refl _ _).alloc (Nat.le_refl _) _⟩
  · go_enter Try.func38, Try.ntmps38
    go_wp2_with (fail)
    go_ret
    exact ⟨by simp, (Below.refl _ _).alloc (Nat.le_refl _) _⟩

/-- A number that is none below 0. -/
def SomeIdx (w : World) (e : Ending) (w' : World) : Prop := ∃ r : Nat, e = .returned (.int .i64 r) ∧ Below w.heap.size w w'

set_option maxRecDepth 100000 in
theorem idx_none (f : Nat) (p : Wr → Bool) (hcf : ∀ args w, (callFunc f args).run Try.prog w = .ok (.enter f args) w) (hf : ∀ x w, Calls Try.prog f #[.agg #[.string x.k, .string x.v, .bool x.g]] w fun e w' => e = .returned (.bool (p x)) ∧ Below w.heap.size w w')
    (A : Option Addr) (c : Nat) (l : List Wr) (w : World) (h : Rd w A (wrs l)) (hn : l.length ≤ 9223372036854775807) (hp : ∀ k (h : k < l.length), p l[k] = false) :
    Calls Try.prog 41 #[.slice A l.length c, .func (.func f) #[] #[]] w fun e w' => e = .returned (.int .i64 (-1)) ∧ Below w.heap.size w w' := by
  have HR := Lib.hid h
  have HF := Lib.hid hf
  have HP := Lib.hid hp
  clear h hf hp
  go_enter Try.func41, Try.ntmps41
  go_wp2_with (fail)
  go_loopw [8] (fun i wr => ∃ k : Nat, k ≤ l.length ∧ i = .int .i64 k ∧ Below w.heap.size w wr) (fun i _ => l.length - (intOf i).toNat)
  case atStart => exact ⟨0, Nat.zero_le _, rfl, Below.refl _ _⟩
  case round =>
    obtain ⟨k, hk, rfl, hb⟩ := hrel
    have HB := Lib.hid hb
    by_cases hlt : k < l.length
    · obtain ⟨b, o, rfl, _, q0, q1, q2⟩ := wr_cells (HR.out.below hb) hlt
      have HK := Lib.hid (HP.out k hlt)
      clear hb
      generalize l[k] = x at *
      go_wp2_with (fail)
      refine (HF.out x _).mono ?_
      rintro e w1 ⟨he, hb1⟩
      obtain rfl : e = .returned (.bool false) := he.trans (by rw [HK.out])
      have HB1 := Lib.hid (HB.out.trans (hb1.mono HB.out.size))
      clear he hb1
      go_wp2_with (fail)
      go_roundw
      case rel => exact ⟨k + 1, by omega, by go_num, HB1.out⟩
      case measure => simp [intOf]; omega
    · go_wp2_with (fail)
      go_ret
      exact ⟨rfl, HB.out⟩

set_option maxRecDepth 100000 in
theorem idx_some (f : Nat) (p : Wr → Bool) (hcf : ∀ args w, (callFunc f args).run Try.prog w = .ok (.enter f args) w) (hf : ∀ x w, Calls Try.prog f #[.agg #[.string x.k, .string x.v, .bool x.g]] w fun e w' => e = .returned (.bool (p x)) ∧ Below w.heap.size w w')
    (A : Option Addr) (c : Nat) (l : List Wr) (w : World) (h : Rd w A (wrs l)) (hn : l.length ≤ 9223372036854775807) (hp : ∃ k, ∃ (h : k < l.length), p l[k] = true) :
    Calls Try.prog 41 #[.slice A l.length c, .func (.func f) #[] #[]] w (SomeIdx w) := by
  have HR := Lib.hid h
  have HF := Lib.hid hf
  obtain ⟨k0, hk0, hp0⟩ := hp
  have HP := Lib.hid hp0
  clear h hf hp0
  go_enter Try.func41, Try.ntmps41
  go_wp2_with (fail)
  go_loopw [8] (fun i wr => ∃ k : Nat, k ≤ k0 ∧ i = .int .i64 k ∧ Below w.heap.size w wr) (fun i _ => l.length - (intOf i).toNat)
  case atStart => exact ⟨0, Nat.zero_le _, rfl, Below.refl _ _⟩
  case round =>
    obtain ⟨k, hk, rfl, hb⟩ := hrel
    have HB := Lib.hid hb
    have hlt : k < l.length := by omega
    obtain ⟨b, o, rfl, _, q0, q1, q2⟩ := wr_cells (HR.out.below hb) hlt
    have HK : Hid (k = k0 → p l[k] = true) := by intro e; subst e; exact HP.out
    clear hb HP
    generalize l[k] = x at *
    go_wp2_with (fail)
    refine (HF.out x _).mono ?_
    rintro e w1 ⟨he, hb1⟩
    have HB1 := Lib.hid (HB.out.trans (hb1.mono HB.out.size))
    clear hb1
    cases hpx : p x with
    | true =>
      obtain rfl : e = .returned (.bool true) := he.trans (by rw [hpx])
      clear he hpx
      go_wp2_with (fail)
      go_ret
      exact ⟨k, rfl, HB1.out⟩
    | false =>
      obtain rfl : e = .returned (.bool false) := he.trans (by rw [hpx])
      have hne : k ≠ k0 := fun e => by have := HK.out e; rw [hpx] at this; cases this
      clear he hpx
      have hk1 : k + 1 ≤ k0 := by omega
      clear hne
      go_wp2_with (fail)
      go_roundw
      case rel => exact ⟨k + 1, hk1, by go_num, HB1.out⟩
      case measure => simp [intOf]; omega

theorem has_none (f : Nat) (p : Wr → Bool) (hcf : ∀ args w, (callFunc f args).run Try.prog w = .ok (.enter f args) w) (hf : ∀ x w, Calls Try.prog f #[.agg #[.string x.k, .string x.v, .bool x.g]] w fun e w' => e = .returned (.bool (p x)) ∧ Below w.heap.size w w')
    (A : Option Addr) (c : Nat) (l : List Wr) (w : World) (h : Rd w A (wrs l)) (hn : l.length ≤ 9223372036854775807) (hp : ∀ k (h : k < l.length), p l[k] = false) :
    Calls Try.prog 36 #[.slice A l.length c, .func (.func f) #[] #[]] w fun e w' => e = .returned (.bool false) ∧ Below w.heap.size w w' := by
  have HC := Lib.hid (idx_none f p hcf hf A c l w h hn hp)
  clear h hf hp
  go_enter Try.func36, Try.ntmps36
  go_wp2_with (fail)
  refine HC.out.mono ?_
  rintro e w1 ⟨rfl, hb⟩
  go_wp2_with (fail)
  go_ret
  exact ⟨rfl, hb⟩

theorem has_some (f : Nat) (p : Wr → Bool) (hcf : ∀ args w, (callFunc f args).run Try.prog w = .ok (.enter f args) w) (hf : ∀ x w, Calls Try.prog f #[.agg #[.string x.k, .string x.v, .bool x.g]] w fun e w' => e = .returned (.bool (p x)) ∧ Below w.heap.size w w')
    (A : Option Addr) (c : Nat) (l : List Wr) (w : World) (h : Rd w A (wrs l)) (hn : l.length ≤ 9223372036854775807) (hp : ∃ k, ∃ (h : k < l.length), p l[k] = true) :
    Calls Try.prog 36 #[.slice A l.length c, .func (.func f) #[] #[]] w fun e w' => e = .returned (.bool true) ∧ Below w.heap.size w w' := by
  have HC := Lib.hid (idx_some f p hcf hf A c l w h hn hp)
  clear h hf hp
  go_enter Try.func36, Try.ntmps36
  go_wp2_with (fail)
  refine HC.out.mono ?_
  rintro e w1 ⟨r, rfl, hb⟩
  go_wp2_with (fail)
  go_ret
  exact ⟨by simp, hb⟩

theorem cf_long (args : Array Value) (w : World) : (callFunc 37 args).run Try.prog w = .ok (.enter 37 args) w := by kernel_rfl
theorem cf_bad (args : Array Value) (w : World) : (callFunc 38 args).run Try.prog w = .ok (.enter 38 args) w := by kernel_rfl
end Go.Proofs.Ytiomdclelbjmmaa
