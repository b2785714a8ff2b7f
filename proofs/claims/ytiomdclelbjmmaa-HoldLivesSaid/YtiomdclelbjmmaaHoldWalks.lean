/-
  The walks through package clock, as layer 15 uses it: Right, Merge of two, Covers; the document's Right and Covers.
-/
import Derived.Test.YtiomdclelbjmmaaRows
import Derived.Test.YtiomdclelbjmmaaApp
import Derived.WalkSpells
import Derived.WalkLawsBesides
import Derived.StillTactics
import Derived.Laws.Pointers
import Derived.Laws.EntriesVeiled
import Derived.Deep.QuietTactic
import Derived.BigQuiet
import Derived.Deep.RegionHeld3
import Derived.Deep.RegionLaw
import Derived.Deep.DeepCutAuto
import Derived.Deep.CutBlock
import Derived.Maps.AppendAt
import Derived.Defers
set_option linter.unusedVariables false
set_option linter.unusedSimpArgs false
namespace Go.Proofs.Ytiomdclelbjmmaa
open Go.RowKit

/-- A clock's number that may be. -/
def okn (c : Int) : Prop := 0 ≤ c ∧ c ≤ 4611686018427387903
instance (c : Int) : Decidable (okn c) := by unfold okn; infer_instance

def i64w (c : Int) : Prop := -9223372036854775808 ≤ c ∧ c ≤ 9223372036854775807

theorem Try.ck0 (x0 x1 x2 : Int) (w : World) : (Instr.index 23 (.agg #[.int .i64 x0, .int .i64 x1, .int .i64 x2]) (.int .i64 0)).run Try.prog w = .ok (.int .i64 x0) w := by kernel_rfl
theorem Try.ck1 (x0 x1 x2 : Int) (w : World) : (Instr.index 23 (.agg #[.int .i64 x0, .int .i64 x1, .int .i64 x2]) (.int .i64 1)).run Try.prog w = .ok (.int .i64 x1) w := by kernel_rfl
theorem Try.ck2 (x0 x1 x2 : Int) (w : World) : (Instr.index 23 (.agg #[.int .i64 x0, .int .i64 x1, .int .i64 x2]) (.int .i64 2)).run Try.prog w = .ok (.int .i64 x2) w := by kernel_rfl

theorem right_yes (c0 c1 c2 : Int) (h0 : okn c0) (h1 : okn c1) (h2 : okn c2) (w : World) :
    Calls Try.prog 25 #[.agg #[.int .i64 c0, .int .i64 c1, .int .i64 c2]] w fun e w' => e = .returned (.bool true) ∧ Below w.heap.size w w' := by
  obtain ⟨a0, b0⟩ := h0
  obtain ⟨a1, b1⟩ := h1
  obtain ⟨a2, b2⟩ := h2
  have i0 := Try.ck0 c0 c1 c2
  have i1 := Try.ck1 c0 c1 c2
  have i2 := Try.ck2 c0 c1 c2
  go_enter Try.func25, Try.ntmps25
  go_wp2_with (fail)
  go_loop [6] (fun i => ∃ k : Nat, k ≤ 3 ∧ i = .int .i64 k) (fun i => 3 - (intOf i).toNat)
  case atStart => exact ⟨0, by omega, rfl⟩
  case round =>
    obtain ⟨k, hk, rfl⟩ := hrel
    have hc : k = 0 ∨ k = 1 ∨ k = 2 ∨ k = 3 := by omega
    rcases hc with rfl | rfl | rfl | rfl
    · go_wp2_with (fail)
      go_round
      case rel => exact ⟨1, by omega, rfl⟩
      case measure => simp [intOf]
    · go_wp2_with (fail)
      go_round
      case rel => exact ⟨2, by omega, rfl⟩
      case measure => simp [intOf]
    · go_wp2_with (fail)
      go_round
      case rel => exact ⟨3, by omega, rfl⟩
      case measure => simp [intOf]
    · go_wp2_with (fail)
      go_ret
      exact ⟨rfl, (Below.refl _ _).alloc (Nat.le_refl _) _⟩

theorem right_no (c0 c1 c2 : Int) (h : ¬ (okn c0 ∧ okn c1 ∧ okn c2)) (w : World) :
    Calls Try.prog 25 #[.agg #[.int .i64 c0, .int .i64 c1, .int .i64 c2]] w fun e w' => e = .returned (.bool false) ∧ Below w.heap.size w w' := by
  have HN := Lib.hid h
  clear h
  have i0 := Try.ck0 c0 c1 c2
  have i1 := Try.ck1 c0 c1 c2
  have i2 := Try.ck2 c0 c1 c2
  go_enter Try.func25, Try.ntmps25
  go_wp2_with (fail)
  go_loop [6] (fun i => ∃ k : Nat, k ≤ 3 ∧ i = .int .i64 k ∧ (0 < k → okn c0) ∧ (1 < k → okn c1) ∧ (2 < k → okn c2)) (fun i => 3 - (intOf i).toNat)
  case atStart => exact ⟨0, by omega, rfl, fun h => absurd h (by omega), fun h => absurd h (by omega), fun h => absurd h (by omega)⟩
  case round =>
    obtain ⟨k, hk, rfl, g0, g1, g2⟩ := hrel
    have G := Lib.hid (And.intro g0 (And.intro g1 g2))
    clear g0 g1 g2
    have hc : k = 0 ∨ k = 1 ∨ k = 2 ∨ k = 3 := by omega
    rcases hc with rfl | rfl | rfl | rfl
    · by_cases hz : c0 < 0
      · go_wp2_with (fail)
        go_ret
        exact ⟨rfl, (Below.refl _ _).alloc (Nat.le_refl _) _⟩
      · by_cases hm : 4611686018427387903 < c0
        · go_wp2_with (fail)
          go_ret
          exact ⟨rfl, (Below.refl _ _).alloc (Nat.le_refl _) _⟩
        · go_wp2_with (fail)
          go_round
          case rel => exact ⟨1, by omega, rfl, fun _ => ⟨by omega, by omega⟩, fun h => absurd h (by omega), fun h => absurd h (by omega)⟩
          case measure => simp [intOf]
    · by_cases hz : c1 < 0
      · go_wp2_with (fail)
        go_ret
        exact ⟨rfl, (Below.refl _ _).alloc (Nat.le_refl _) _⟩
      · by_cases hm : 4611686018427387903 < c1
        · go_wp2_with (fail)
          go_ret
          exact ⟨rfl, (Below.refl _ _).alloc (Nat.le_refl _) _⟩
        · go_wp2_with (fail)
          go_round
          case rel => exact ⟨2, by omega, rfl, fun _ => G.out.1 (by omega), fun _ => ⟨by omega, by omega⟩, fun h => absurd h (by omega)⟩
          case measure => simp [intOf]
    · by_cases hz : c2 < 0
      · go_wp2_with (fail)
        go_ret
        exact ⟨rfl, (Below.refl _ _).alloc (Nat.le_refl _) _⟩
      · by_cases hm : 4611686018427387903 < c2
        · go_wp2_with (fail)
          go_ret
          exact ⟨rfl, (Below.refl _ _).alloc (Nat.le_refl _) _⟩
        · go_wp2_with (fail)
          go_round
          case rel => exact ⟨3, by omega, rfl, fun _ => G.out.1 (by omega), fun _ => G.out.2.1 (by omega), fun _ => ⟨by omega, by omega⟩⟩
          case measure => simp [intOf]
    · exact absurd ⟨G.out.1 (by omega), G.out.2.1 (by omega), G.out.2.2 (by omega)⟩ HN.out

theorem rright_yes (c0 c1 c2 : Int) (h0 : okn c0) (h1 : okn c1) (h2 : okn c2) (w : World) :
    Calls Try.prog 28 #[.agg #[.int .i64 c0, .int .i64 c1, .int .i64 c2]] w fun e w' => e = .returned (.bool true) ∧ Below w.heap.size w w' := by
  obtain ⟨a0, b0⟩ := h0
  obtain ⟨a1, b1⟩ := h1
  obtain ⟨a2, b2⟩ := h2
  go_enter Try.func28, Try.ntmps28
  go_wp2_with (fail)
  go_ret
  exact ⟨rfl, (Below.refl _ _).alloc (Nat.le_refl _) _⟩

theorem rright_no (c0 c1 c2 : Int) (h : ¬ (okn c0 ∧ okn c1 ∧ okn c2)) (w : World) :
    Calls Try.prog 28 #[.agg #[.int .i64 c0, .int .i64 c1, .int .i64 c2]] w fun e w' => e = .returned (.bool false) ∧ Below w.heap.size w w' := by
  have hc : c0 < 0 ∨ (0 ≤ c0 ∧ 4611686018427387903 < c0) ∨ (0 ≤ c0 ∧ c0 ≤ 4611686018427387903 ∧ (c1 < 0 ∨ (0 ≤ c1 ∧ 4611686018427387903 < c1) ∨ (0 ≤ c1 ∧ c1 ≤ 4611686018427387903 ∧ (c2 < 0 ∨ (0 ≤ c2 ∧ 4611686018427387903 < c2))))) := by
    unfold okn at h
    omega
  clear h
  rcases hc with a | ⟨a, b⟩ | ⟨a, b, a1 | ⟨a1, b1⟩ | ⟨a1, b1, a2 | ⟨a2, b2⟩⟩⟩
  all_goals
    go_enter Try.func28, Try.ntmps28
    go_wp2_with (fail)
    go_ret
    first | exact ⟨rfl, (Below.refl _ _).alloc (Nat.le_refl _) _⟩ | exact ⟨by simp; omega, (Below.refl _ _).alloc (Nat.le_refl _) _⟩

def mx (a b : Int) : Int := if a < b then b else a

/-- Does the clock a cover b? -/
def cov (a b : Int × Int × Int) : Prop := b.1 ≤ a.1 ∧ b.2.1 ≤ a.2.1 ∧ b.2.2 ≤ a.2.2

theorem rcovers_yes (a0 a1 a2 b0 b1 b2 : Int) (h0 : b0 ≤ a0) (h1 : b1 ≤ a1) (h2 : b2 ≤ a2) (w : World) :
    Calls Try.prog 34 #[.agg #[.int .i64 a0, .int .i64 a1, .int .i64 a2], .agg #[.int .i64 b0, .int .i64 b1, .int .i64 b2]] w fun e w' => e = .returned (.bool true) ∧ Below w.heap.size w w' := by
  go_enter Try.func34, Try.ntmps34
  go_wp2_with (fail)
  go_ret
  exact ⟨rfl, ((Below.refl _ _).alloc (Nat.le_refl _) _).alloc (by simp) _⟩

theorem rcovers_no (a0 a1 a2 b0 b1 b2 : Int) (h : ¬ (b0 ≤ a0 ∧ b1 ≤ a1 ∧ b2 ≤ a2)) (w : World) :
    Calls Try.prog 34 #[.agg #[.int .i64 a0, .int .i64 a1, .int .i64 a2], .agg #[.int .i64 b0, .int .i64 b1, .int .i64 b2]] w fun e w' => e = .returned (.bool false) ∧ Below w.heap.size w w' := by
  have hc : a0 < b0 ∨ (b0 ≤ a0 ∧ (a1 < b1 ∨ (b1 ≤ a1 ∧ a2 < b2))) := by omega
  clear h
  rcases hc with a | ⟨a, b | ⟨b, c⟩⟩
  all_goals
    go_enter Try.func34, Try.ntmps34
    go_wp2_with (fail)
    go_ret
    first | exact ⟨rfl, ((Below.refl _ _).alloc (Nat.le_refl _) _).alloc (by simp) _⟩ | exact ⟨by simp; omega, ((Below.refl _ _).alloc (Nat.le_refl _) _).alloc (by simp) _⟩
end Go.Proofs.Ytiomdclelbjmmaa
