/-
  Plain numbers, no Go: what a sender of layer 18 is (acked, sent, quiet), and what each of its calls answers and leaves.
-/
import Derived.WalkKit
set_option linter.unusedVariables false
set_option linter.unusedSimpArgs false
namespace Go.Proofs.Ytiddaacipjjggaa
namespace Snd

/-- A sender: up to which number all was applied, up to which number all was sent, how long it was quiet. -/
structure St where
  a : Int
  s : Int
  q : Int

/-- The first four numbers behind b, up to t: from which on, and how many. -/
def part (b t : Int) : Int × Int := if t ≤ b then (0, 0) else (b + 1, if 4 < t - b then 4 else t - b)

def wend (x : St) (y : Int) : Int := if y < x.a + 8 then y else x.a + 8

/-- A tick. -/
def tick (x : St) (y : Int) : (Int × Int) × St :=
  if y ≤ x.a then ((0, 0), ⟨x.a, x.s, 0⟩)
  else if x.s < wend x y then (part x.s (wend x y), ⟨x.a, (part x.s (wend x y)).1 + (part x.s (wend x y)).2 - 1, 0⟩)
  else if x.q + 1 = 4 then (part x.a (wend x y), ⟨x.a, x.s, 0⟩)
  else ((0, 0), ⟨x.a, x.s, x.q + 1⟩)

def ack (x : St) (t y : Int) : Bool × St := if t ≤ x.a ∨ y < t then (false, x) else (true, ⟨t, if t > x.s then t else x.s, 0⟩)

def lo (f b : Int) : Int := if 1 > (if b + 1 > f then b + 1 else f) then 1 else (if b + 1 > f then b + 1 else f)
def hi (t y : Int) : Int := if y < t then y else t
def ask (f t b y : Int) : Int × Int := if hi t y < lo f b then (0, 0) else (lo f b, if 4 < hi t y - lo f b + 1 then 4 else hi t y - lo f b + 1)

/-- Within bounds: no sum of a sender's leaves int64. -/
def St.ok (x : St) : Prop := 0 ≤ x.a ∧ x.a ≤ 4611686018427387903 ∧ x.a ≤ x.s ∧ x.s ≤ x.a + 8 ∧ 0 ≤ x.q ∧ x.q < 4

theorem part_le (b t : Int) : 0 ≤ (part b t).2 ∧ (part b t).2 ≤ 4 := by
  unfold part
  split
  · simp
  · simp only
    split <;> omega

theorem part_fst (b t : Int) : (part b t).1 = 0 ∨ (part b t).1 = b + 1 := by
  unfold part
  split
  · exact .inl rfl
  · exact .inr rfl
theorem wend_le (x : St) (y : Int) : wend x y ≤ x.a + 8 ∧ wend x y ≤ y ∧ (wend x y = y ∨ wend x y = x.a + 8) := by
  unfold wend
  split <;> omega
theorem part_none {b t : Int} (h : t ≤ b) : part b t = (0, 0) := by unfold part; rw [if_pos h]
theorem part_four {b t : Int} (_h : b < t) (h' : 4 < t - b) : part b t = (b + 1, 4) := by unfold part; rw [if_neg (by omega), if_pos h']
theorem part_all {b t : Int} (h : b < t) (h' : t - b ≤ 4) : part b t = (b + 1, t - b) := by unfold part; rw [if_neg (by omega), if_neg (by omega)]

theorem part_new {b t : Int} (h : b < t) : (part b t).1 = b + 1 := by unfold part; rw [if_neg (by omega)]
theorem wend_lt {x : St} {y : Int} (h : y < x.a + 8) : wend x y = y := if_pos h
theorem wend_ge {x : St} {y : Int} (h : ¬ y < x.a + 8) : wend x y = x.a + 8 := if_neg h
theorem tick_idle {x : St} {y : Int} (h : y ≤ x.a) : tick x y = ((0, 0), ⟨x.a, x.s, 0⟩) := by unfold tick; rw [if_pos h]
theorem tick_new {x : St} {y : Int} (h : ¬ y ≤ x.a) (h2 : x.s < wend x y) : tick x y = (part x.s (wend x y), ⟨x.a, (part x.s (wend x y)).1 + (part x.s (wend x y)).2 - 1, 0⟩) := by unfold tick; rw [if_neg h, if_pos h2]
theorem tick_again {x : St} {y : Int} (h : ¬ y ≤ x.a) (h2 : ¬ x.s < wend x y) (h3 : x.q + 1 = 4) : tick x y = (part x.a (wend x y), ⟨x.a, x.s, 0⟩) := by unfold tick; rw [if_neg h, if_neg h2, if_pos h3]
theorem tick_still {x : St} {y : Int} (h : ¬ y ≤ x.a) (h2 : ¬ x.s < wend x y) (h3 : ¬ x.q + 1 = 4) : tick x y = ((0, 0), ⟨x.a, x.s, x.q + 1⟩) := by unfold tick; rw [if_neg h, if_neg h2, if_neg h3]
theorem ack_no {x : St} {t y : Int} (h : t ≤ x.a ∨ y < t) : ack x t y = (false, x) := if_pos h
theorem ack_yes {x : St} {t y : Int} (h : ¬ (t ≤ x.a ∨ y < t)) : ack x t y = (true, ⟨t, if t > x.s then t else x.s, 0⟩) := if_neg h
theorem lo_is (f b : Int) : (f ≤ lo f b ∧ b + 1 ≤ lo f b ∧ 1 ≤ lo f b) ∧ (lo f b = f ∨ lo f b = b + 1 ∨ lo f b = 1) := by unfold lo; split <;> split <;> omega
theorem lo_cases (f b : Int) : (b + 1 > f ∧ 1 > b + 1 ∧ lo f b = 1) ∨ (b + 1 > f ∧ ¬ 1 > b + 1 ∧ lo f b = b + 1) ∨ (¬ b + 1 > f ∧ 1 > f ∧ lo f b = 1) ∨ (¬ b + 1 > f ∧ ¬ 1 > f ∧ lo f b = f) := by
  unfold lo; split <;> split <;> omega
theorem hi_cases (t y : Int) : (y < t ∧ hi t y = y) ∨ (¬ y < t ∧ hi t y = t) := by unfold hi; split <;> omega
theorem hi_is (t y : Int) : hi t y ≤ t ∧ hi t y ≤ y ∧ (hi t y = t ∨ hi t y = y) := by unfold hi; split <;> omega
theorem ask_part (f t b y : Int) : ask f t b y = part (lo f b - 1) (hi t y) := by
  unfold ask part
  by_cases h : hi t y < lo f b
  · have h2 : hi t y ≤ lo f b - 1 := by omega
    rw [if_pos h, if_pos h2]
  · have h2 : ¬ hi t y ≤ lo f b - 1 := by omega
    have e : hi t y - lo f b + 1 = hi t y - (lo f b - 1) := by omega
    rw [if_neg h, if_neg h2, e, Int.sub_add_cancel]
theorem tick_ok {x : St} (h : x.ok) (y : Int) : (tick x y).2.ok := by
  obtain ⟨h1, h2, h3, h4, h5, h6⟩ := h
  have hw := wend_le x y
  by_cases c1 : y ≤ x.a
  · rw [tick_idle c1]; exact ⟨h1, h2, h3, h4, by dsimp only; omega, by dsimp only; omega⟩
  by_cases c2 : x.s < wend x y
  · rw [tick_new c1 c2]
    by_cases c : 4 < wend x y - x.s
    · have e := part_four c2 c
      rw [e]
      exact ⟨h1, h2, by simp only; omega, by simp only; omega, by dsimp only; omega, by dsimp only; omega⟩
    · have e := part_all c2 (by omega)
      rw [e]
      exact ⟨h1, h2, by simp only; omega, by simp only; omega, by dsimp only; omega, by dsimp only; omega⟩
  by_cases c3 : x.q + 1 = 4
  · rw [tick_again c1 c2 c3]; exact ⟨h1, h2, h3, h4, by dsimp only; omega, by dsimp only; omega⟩
  · rw [tick_still c1 c2 c3]; exact ⟨h1, h2, h3, h4, by simp only; omega, by simp only; omega⟩
theorem ack_ok {x : St} (h : x.ok) {t y : Int} (hy : y ≤ 2305843009213693952) : (ack x t y).2.ok := by
  obtain ⟨h1, h2, h3, h4, h5, h6⟩ := h
  by_cases c : t ≤ x.a ∨ y < t
  · rw [ack_no c]; exact ⟨h1, h2, h3, h4, h5, h6⟩
  · rw [ack_yes c]
    refine ⟨by simp only; omega, by simp only; omega, ?_, ?_, by dsimp only; omega, by dsimp only; omega⟩ <;> simp only <;> split <;> omega

/-- What a tick sends lies behind what was acked, and was synced; Acked stays. -/
theorem part_law {b t : Int} : part b t = (0, 0) ∨ ((part b t).1 = b + 1 ∧ 0 < (part b t).2 ∧ (part b t).2 ≤ 4 ∧ b + (part b t).2 ≤ t) := by
  by_cases h : t ≤ b
  · exact .inl (part_none h)
  · right
    by_cases h2 : 4 < t - b
    · rw [part_four (by omega) h2]; refine ⟨rfl, ?_, ?_, ?_⟩ <;> dsimp only <;> omega
    · rw [part_all (by omega) (by omega)]; refine ⟨rfl, ?_, ?_, ?_⟩ <;> dsimp only <;> omega
theorem tick_law {x : St} (hx : x.ok) (y : Int) {f n a s q : Int} (hr : tick x y = ((f, n), ⟨a, s, q⟩)) :
    a = x.a ∧ (⟨a, s, q⟩ : St).ok ∧ ((f = 0 ∧ n = 0) ∨ (x.a < f ∧ 1 ≤ f ∧ 0 < n ∧ n ≤ 4 ∧ f + n - 1 ≤ y)) := by
  have ho := tick_ok hx y
  rw [hr] at ho
  obtain ⟨h1, h2, h3, h4, h5, h6⟩ := hx
  have hw := wend_le x y
  refine ⟨?_, ho, ?_⟩
  · by_cases c1 : y ≤ x.a
    · rw [tick_idle c1] at hr; injection hr with _ e; injection e with e _ _; exact e.symm
    by_cases c2 : x.s < wend x y
    · rw [tick_new c1 c2] at hr; injection hr with _ e; injection e with e _ _; exact e.symm
    by_cases c3 : x.q + 1 = 4
    · rw [tick_again c1 c2 c3] at hr; injection hr with _ e; injection e with e _ _; exact e.symm
    · rw [tick_still c1 c2 c3] at hr; injection hr with _ e; injection e with e _ _; exact e.symm
  · have key : ∀ b, x.a ≤ b → part b (wend x y) = (f, n) → (f = 0 ∧ n = 0) ∨ (x.a < f ∧ 1 ≤ f ∧ 0 < n ∧ n ≤ 4 ∧ f + n - 1 ≤ y) := by
      intro b hb e
      rcases part_law (b := b) (t := wend x y) with h | ⟨g1, g2, g3, g4⟩
      · rw [h] at e; injection e with e1 e2; exact .inl ⟨e1.symm, e2.symm⟩
      · rw [e] at g1 g2 g3 g4
        dsimp only at g1 g2 g3 g4
        right; omega
    by_cases c1 : y ≤ x.a
    · rw [tick_idle c1] at hr; injection hr with e _; injection e with e1 e2; exact .inl ⟨e1.symm, e2.symm⟩
    by_cases c2 : x.s < wend x y
    · rw [tick_new c1 c2] at hr; injection hr with e _; exact key _ h3 e
    by_cases c3 : x.q + 1 = 4
    · rw [tick_again c1 c2 c3] at hr; injection hr with e _; exact key _ (Int.le_refl _) e
    · rw [tick_still c1 c2 c3] at hr; injection hr with e _; injection e with e1 e2; exact .inl ⟨e1.symm, e2.symm⟩
theorem ack_law {x : St} (hx : x.ok) {t y : Int} (hy : y ≤ 2305843009213693952) {r : Bool} {a s q : Int} (hr : ack x t y = (r, ⟨a, s, q⟩)) : x.a ≤ a ∧ (⟨a, s, q⟩ : St).ok := by
  have ho := ack_ok hx (t := t) hy
  rw [hr] at ho
  refine ⟨?_, ho⟩
  by_cases c : t ≤ x.a ∨ y < t
  · rw [ack_no c] at hr; injection hr with _ e; rw [e]; exact Int.le_refl _
  · rw [ack_yes c] at hr; injection hr with _ e; injection e with e _ _; omega
theorem ask_law {f t b y r n : Int} (hr : ask f t b y = (r, n)) : (r = 0 ∧ n = 0) ∨ (b < r ∧ f ≤ r ∧ 1 ≤ r ∧ 0 < n ∧ n ≤ 4 ∧ r + n - 1 ≤ t ∧ r + n - 1 ≤ y) := by
  rw [ask_part] at hr
  have hl := lo_is f b
  have hh := hi_is t y
  rcases part_law (b := lo f b - 1) (t := hi t y) with h | ⟨g1, g2, g3, g4⟩
  · rw [h] at hr; injection hr with e1 e2; exact .inl ⟨e1.symm, e2.symm⟩
  · rw [hr] at g1 g2 g3 g4
    dsimp only at g1 g2 g3 g4
    right; omega

end Snd
end Go.Proofs.Ytiddaacipjjggaa
