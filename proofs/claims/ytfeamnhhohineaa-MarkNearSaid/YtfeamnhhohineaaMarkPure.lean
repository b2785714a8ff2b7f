/-
  Plain lists, no Go: what an index of layer 10 is, and what its calls answer and leave.
-/
import Derived.WalkKit
set_option linter.unusedVariables false
set_option linter.unusedSimpArgs false
namespace Go.Proofs.Ytfeamnhhohineaa

/-- A mark: a number, its file, its place. -/
structure Mk where
  s : Int
  f : Int
  p : Int

namespace Mk
/-- The cells of marks, one behind the other. -/
def cells : List Mk → List Value
  | [] => []
  | m :: l => .int .i64 m.s :: .int .i64 m.f :: .int .i64 m.p :: cells l

theorem cells_length : ∀ l : List Mk, (cells l).length = l.length * 3
  | [] => rfl
  | m :: l => by simp [cells, cells_length l]; omega

theorem cells_append : ∀ l l' : List Mk, cells (l ++ l') = cells l ++ cells l'
  | [], _ => rfl
  | m :: l, l' => by simp [cells, cells_append l l']

theorem cells_at : ∀ (l : List Mk) (i : Nat) (h : i < l.length), (cells l)[i * 3]? = some (.int .i64 l[i].s) ∧ (cells l)[i * 3 + 1]? = some (.int .i64 l[i].f) ∧ (cells l)[i * 3 + 2]? = some (.int .i64 l[i].p)
  | m :: l, 0, _ => by simp [cells]
  | m :: l, i + 1, h => by
    have := cells_at l i (by simpa using h)
    simp only [List.getElem_cons_succ]
    rw [show (i + 1) * 3 = i * 3 + 1 + 1 + 1 from by omega, show i * 3 + 1 + 1 + 1 + 1 = i * 3 + 1 + 1 + 1 + 1 from rfl, show i * 3 + 1 + 1 + 1 + 2 = i * 3 + 2 + 1 + 1 + 1 from by omega]
    simpa [cells] using this

theorem cells_one : ∀ l : List Mk, ∀ u ∈ cells l, u.oneCell' = true
  | [], u, h => by simp [cells] at h
  | m :: l, u, h => by
    simp only [cells, List.mem_cons] at h
    rcases h with rfl | rfl | rfl | h
    · rfl
    · rfl
    · rfl
    · exact cells_one l u h

theorem cells_take (l : List Mk) (n : Nat) : (cells l).take (n * 3) = cells (l.take n) := by
  induction l generalizing n with
  | nil => simp [cells]
  | cons m l ih =>
    cases n with
    | zero => simp [cells]
    | succ n =>
      rw [show (n + 1) * 3 = n * 3 + 1 + 1 + 1 from by omega]
      simp [cells, ih]

theorem cells_drop (l : List Mk) (n : Nat) : (cells l).drop (n * 3) = cells (l.drop n) := by
  induction l generalizing n with
  | nil => simp [cells]
  | cons m l ih =>
    cases n with
    | zero => simp [cells]
    | succ n =>
      rw [show (n + 1) * 3 = n * 3 + 1 + 1 + 1 from by omega]
      simp [cells, ih]

/-- Marks rise. -/
def Up (l : List Mk) : Prop := ∀ (i j : Nat) (hj : j < l.length) (hi : i < j), (l[i]'(by omega)).s < l[j].s

/-- r marks have a number that is no more than s: the first ones. -/
def Place (l : List Mk) (s : Int) (r : Nat) : Prop := r ≤ l.length ∧ (∀ (i : Nat) (h : i < l.length), i < r → l[i].s ≤ s) ∧ (∀ (i : Nat) (h : i < l.length), r ≤ i → s < l[i].s)

theorem Place.uniq {l : List Mk} {s : Int} {r r' : Nat} (h : Place l s r) (h' : Place l s r') : r = r' := by
  obtain ⟨a, b, c⟩ := h
  obtain ⟨a', b', c'⟩ := h'
  rcases Nat.lt_trichotomy r r' with hlt | e | hlt
  · have h1 := c r (by omega) (Nat.le_refl _)
    have h2 := b' r (by omega) hlt
    omega
  · exact e
  · have h1 := c' r' (by omega) (Nat.le_refl _)
    have h2 := b r' (by omega) hlt
    omega

/-- What the search asks of place i. -/
def ask (l : List Mk) (q : Int) (i : Nat) : Bool := match l[i]? with
  | some m => decide (q < m.s)
  | none => true
theorem ask_at {l : List Mk} {q : Int} {i : Nat} (h : i < l.length) : ask l q i = decide (q < l[i].s) := by
  unfold ask
  rw [List.getElem?_eq_getElem h]
theorem place_of {l : List Mk} {q : Int} (hu : Up l) {r : Nat} (h : r ≤ l.length) (h1 : 0 < r → ask l q (r - 1) = false) (h2 : r < l.length → ask l q r = true) : Place l q r := by
  refine ⟨h, fun i hi hir => ?_, fun i hi hri => ?_⟩
  · have h3 := h1 (by omega)
    rw [ask_at (by omega)] at h3
    have h4 := of_decide_eq_false h3
    rcases Nat.lt_or_ge i (r - 1) with hl | hl
    · have := hu i (r - 1) (by omega) hl
      omega
    · have e : i = r - 1 := by omega
      subst e
      omega
  · have h3 := h2 (by omega)
    rw [ask_at (by omega)] at h3
    have h4 := of_decide_eq_true h3
    rcases Nat.lt_or_ge r i with hl | hl
    · have := hu r i hi hl
      omega
    · have e : i = r := by omega
      subst e
      omega
end Mk
end Go.Proofs.Ytfeamnhhohineaa
