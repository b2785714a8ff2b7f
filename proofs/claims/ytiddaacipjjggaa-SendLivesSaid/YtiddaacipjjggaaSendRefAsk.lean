/-
  The document's answer for layer 18: what it answers to Ask.
-/
import Derived.Test.YtiddaacipjjggaaSendRef
set_option linter.unusedVariables false
set_option linter.unusedSimpArgs false
namespace Go.Proofs.Ytiddaacipjjggaa
open Go.RowKit

set_option maxHeartbeats 1600000 in
theorem rask_any (f t b y : Int) (P : Option Addr) (w : World) (h1 : Small f) (h2 : Small t) (h3 : Small b) (h4 : Small y) :
    Calls Try.prog 15 #[.pointer P, .int .i64 f, .int .i64 t, .int .i64 b, .int .i64 y] w fun e w' => e = .returned (.tuple #[.int .i64 (Snd.ask f t b y).1, .int .i64 (Snd.ask f t b y).2]) ∧ w = w' := by
  obtain ⟨l1, u1⟩ := h1; obtain ⟨l2, u2⟩ := h2; obtain ⟨l3, u3⟩ := h3; obtain ⟨l4, u4⟩ := h4
  have hfirst : ∀ w : World, Calls Try.prog 21 #[.int .i64 (Snd.lo f b), .int .i64 (Snd.hi t y)] w fun e w' => e = .returned (.tuple #[.int .i64 (Snd.ask f t b y).1, .int .i64 (Snd.ask f t b y).2]) ∧ w = w' := by
    intro w
    have hl := Snd.lo_is f b
    have hh := Snd.hi_is t y
    have := first_any (Snd.lo f b) (Snd.hi t y) w (by omega) (by omega) (by omega) (by omega)
    rwa [← Snd.ask_part] at this
  have Hfirst := Lib.hid hfirst
  clear hfirst
  rcases Snd.lo_cases f b with ⟨a1, a2, e⟩ | ⟨a1, a2, e⟩ | ⟨a1, a2, e⟩ | ⟨a1, a2, e⟩ <;> rcases Snd.hi_cases t y with ⟨a3, e'⟩ | ⟨a3, e'⟩ <;> rw [e, e'] at Hfirst <;> clear e e'
  all_goals
    by_cases a4 : f < 1
  all_goals
    by_cases a5 : f ≤ b
  all_goals
    first
    | (exfalso; omega)
    | skip
  all_goals
    by_cases a6 : 1 ≤ b
  all_goals
    first
    | (exfalso; omega)
    | skip
  all_goals
    first
    | (have e1 : b + 1 = 1 := by omega
       rw [e1] at Hfirst
       clear e1)
    | skip
  all_goals
    go_enter Try.func15, Try.ntmps15
    go_wp2_with (go_at_call 21; refine (Hfirst.out _).mono ?_; rintro e w' ⟨rfl, rfl⟩)
    go_ret2
    exact ⟨rfl, rfl⟩
end Go.Proofs.Ytiddaacipjjggaa
