/-
  Slices that the code itself made: what a row owns, and what is kept of it. Plain lemmas; no program.
-/
import Derived.Test.YtiomdclelbjmmaaWorld
import Derived.Laws.OwnMore
import Derived.Maps.AppendAt
import Derived.Deep.AppendLies
set_option linter.unusedVariables false
set_option linter.unusedSimpArgs false
namespace Go.Proofs.Ytiomdclelbjmmaa
open Go.RowKit

section
variable {w w' : World} {base base' : Nat} {e : TypeId} {size n : Nat} {v : Value} {xs : List Value} {S : Nat → Prop}

theorem own_kp (h : w.ownsRow base e size v n xs) (k : Kp S w w') (hS : ∀ g, v.ownBlock = some g → ¬ S g) : w'.ownsRow base e size v n xs := by
  refine ⟨h.1, ?_⟩
  rcases h.2 with h2 | ⟨g, cap, cur, rfl, hb, hh, r⟩
  · exact .inl h2
  · exact .inr ⟨g, cap, cur, rfl, hb, (k.block g (Array.getElem?_eq_some_iff.1 hh).1 (hS g (by simp [Value.ownBlock]))).trans hh, r⟩

theorem own_lower (h : w.ownsRow base e size v n xs) (hb : base' ≤ base) : w.ownsRow base' e size v n xs := by
  refine ⟨h.1, ?_⟩
  rcases h.2 with h2 | ⟨g, cap, cur, rfl, hg, r⟩
  · exact .inl h2
  · exact .inr ⟨g, cap, cur, rfl, by omega, r⟩

theorem own_below {B : Nat} (h : w.ownsRow base e size v n xs) (hb : Below B w w') (hv : ∀ g, v.ownBlock = some g → g < B) : w'.ownsRow base e size v n xs :=
  own_kp h (Kp.of_below hb) (fun g hg => by have := hv g hg; omega)

theorem own_ge (h : w.ownsRow base e size v n xs) : ∀ g, v.ownBlock = some g → base ≤ g ∧ g < w.heap.size := by
  intro g hg
  rcases h.2 with ⟨rfl, _⟩ | ⟨g', cap, cur, rfl, hb, hh, _⟩
  · simp [Value.ownBlock] at hg
  · have : g' = g := by simpa [Value.ownBlock] using hg
    subst this
    exact ⟨hb, (Array.getElem?_eq_some_iff.1 hh).1⟩

theorem own_new (h : w.ownsRow base e size v n xs) (hb : Below w.heap.size w w') : w'.ownsRow base e size v n xs := own_below h hb (fun g hg => (own_ge h g hg).2)

theorem own_drewN (h : w.ownsRow base e size v n xs) (k : Nat) : (w.drewN k).ownsRow base e size v n xs := h

/-- A row's block is no block of another element type. -/
theorem own_ne_bk {g : Nat} {t : TypeId} {cs : Array Value} (h : w.ownsRow base e size v n xs) (hg : Bk w g t cs) (hne : e ≠ t) : v.ownBlock ≠ some g := by
  intro hv
  rcases h.2 with ⟨rfl, _⟩ | ⟨g', cap, cur, rfl, _, hh, _⟩
  · simp [Value.ownBlock] at hv
  · have : g' = g := by simpa [Value.ownBlock] using hv
    subst this
    unfold Bk at hg
    rw [hh] at hg
    simp only [Option.some.injEq, Obj.cells.injEq] at hg
    exact hne hg.2.1

theorem bk_grown {row : Option Nat} {g : Nat} {t : TypeId} {cs : Array Value} (h : Bk w g t cs) (hg : w.grownBy w' row) (hne : row ≠ some g) : Bk w' g t cs := (hg.block g h.lt (fun e => hne e.symm)).trans h

/-- The cells that a slice value shows: nil shows none. -/
def Rd (w : World) (A : Option Addr) (xs : List Value) : Prop := ∀ j u, xs[j]? = some u → ∃ b o, A = some ⟨b, o, none⟩ ∧ b < w.heap.size ∧ w.cell? ⟨b, o + j, none⟩ = some u

theorem plus_off (b o k : Nat) : (⟨b, o, none⟩ : Addr).add k = ⟨b, o + k, none⟩ := by
  unfold Addr.add
  split
  · rename_i h; subst h; rfl
  · rfl

theorem Rd.below {A : Option Addr} (h : Rd w A xs) (hb : Below w.heap.size w w') : Rd w' A xs := by
  intro j u hu
  obtain ⟨b, o, rfl, hl, hc⟩ := h j u hu
  exact ⟨b, o, rfl, Nat.lt_of_lt_of_le hl hb.size, (hb.cell hl).trans hc⟩

theorem Rd.news {ad : Addr} (h : Rd w (some ad) xs) : ∀ j u, xs[j]? = some u → w.cell? (ad.add j) = some u := by
  intro j u hu
  obtain ⟨b, o, e, _, hc⟩ := h j u hu
  injection e with e
  subst e
  rw [plus_off]
  exact hc

theorem own_form (h : w.ownsRow base e size v n xs) : v = .slice none 0 0 ∧ n = 0 ∧ xs = [] ∨ ∃ g cap, v = .slice (some ⟨g, 0, none⟩) n cap ∧ base ≤ g ∧ g < w.heap.size ∧ n ≤ cap ∧ cap ≤ maxLen := by
  have h0 := h
  obtain ⟨hl, h2⟩ := h
  rcases h2 with ⟨rfl, rfl⟩ | ⟨g, cap, cur, rfl, hb, hh, hnc, hcm, _⟩
  · left
    refine ⟨rfl, rfl, ?_⟩
    rw [Nat.zero_mul] at hl
    exact List.eq_nil_of_length_eq_zero hl
  · right
    exact ⟨g, cap, rfl, hb, (Array.getElem?_eq_some_iff.1 hh).1, hnc, hcm⟩

theorem own_rd {A : Option Addr} {c : Nat} (h : w.ownsRow base e size (.slice A n c) n xs) : Rd w A xs := by
  intro j u hu
  rcases own_form h with ⟨_, _, rfl⟩ | ⟨g, cap, hv, _, hlt, _, _⟩
  · simp at hu
  · injection hv with hA _ hc
    subst hA; subst hc
    refine ⟨g, 0, rfl, hlt, ?_⟩
    have hj : j < n * size := by rw [← h.1]; exact (List.getElem?_eq_some_iff.1 hu).1
    rw [Nat.zero_add, h.cellAt j hj, hu]
end
end Go.Proofs.Ytiomdclelbjmmaa
