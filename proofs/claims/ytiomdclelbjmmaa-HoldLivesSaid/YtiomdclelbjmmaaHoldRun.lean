/-
  What All takes is fixed by the hold. Plain.
-/
import Derived.Test.YtiomdclelbjmmaaHoldActs
set_option linter.unusedVariables false
set_option linter.unusedSimpArgs false
namespace Go.Proofs.Ytiomdclelbjmmaa
open Go.RowKit

theorem Run.alike {h h1 : Hk} {l : List Tx} (r : Run h l h1) : ∀ {l2 : List Tx} {h2 : Hk}, Run h l2 h2 → l.length = l2.length → l = l2 ∧ h1 = h2 := by
  induction r with
  | nil =>
    intro l2 h2 r2 e
    cases r2 with
    | nil => exact ⟨rfl, rfl⟩
    | snoc hr hi hp hq => simp at e
  | snoc hr hi hp hq ih =>
    intro l2 h2 r2 e
    cases r2 with
    | nil => simp at e
    | snoc hr' hi' hp' hq' =>
      obtain ⟨rfl, rfl⟩ := ih hr' (by simpa using e)
      rw [hp] at hp'
      injection hp' with hp'
      subst hp'
      rw [hq] at hq'
      injection hq' with e1 e2
      subst e1 e2
      exact ⟨rfl, rfl⟩

theorem Run.cut {h h2 : Hk} {l2 : List Tx} (r : Run h l2 h2) : ∀ n, n < l2.length → ∃ l1 h1, Run h l1 h1 ∧ l1.length = n ∧ h1.peek ≠ none := by
  induction r with
  | nil => intro n hn; simp at hn
  | @snoc h1 l i t rest hr hi hp hq ih =>
    intro n hn
    by_cases e : n = l.length
    · exact ⟨l, h1, hr, e.symm, by rw [hp]; simp⟩
    · exact ih n (by simp at hn; omega)

theorem Run.det {h h1 h2 : Hk} {l l2 : List Tx} (r : Run h l h1) (p : h1.peek = none) (r2 : Run h l2 h2) (p2 : h2.peek = none) : l = l2 ∧ h1 = h2 := by
  rcases Nat.lt_trichotomy l.length l2.length with e | e | e
  · obtain ⟨l1, h3, r3, e3, n3⟩ := r2.cut _ e
    obtain ⟨rfl, rfl⟩ := r.alike r3 e3.symm
    exact absurd p n3
  · exact r.alike r2 e
  · obtain ⟨l1, h3, r3, e3, n3⟩ := r.cut _ e
    obtain ⟨rfl, rfl⟩ := r2.alike r3 e3.symm
    exact absurd p2 n3
end Go.Proofs.Ytiomdclelbjmmaa
