/-
  The hold and the document's hold, side by side. Plain.
-/
import Derived.Test.YtiomdclelbjmmaaHoldRun
set_option linter.unusedVariables false
set_option linter.unusedSimpArgs false
namespace Go.Proofs.Ytiomdclelbjmmaa
open Go.RowKit

/-- The blocks of both. -/
def Sb (b r k : Nat) : Prop := k = b ∨ k = r

/-- Both lie side by side, h1 in the one, h2 in the document's. -/
structure Two (w : World) (b r : Nat) (A : Option Addr) (l : List Act) (h1 h2 : Hk) (W : World) : Prop where
  x : HAt 61 (Sb b r) W b h1
  y : HAt 49 (Sb b r) W r h2
  acts : ActsAt (Sb b r) W A l
  l : Below w.heap.size w W
  lb : w.heap.size ≤ b
  lr : w.heap.size ≤ r
  ne : b ≠ r

section
variable {w W W1 : World} {b r : Nat} {A : Option Addr} {l : List Act} {h1 h2 h3 : Hk}

theorem Two.lt (m : Two w b r A l h1 h2 W) : ∀ k, Sb b r k → k < W.heap.size := by
  intro k hk
  rcases hk with rfl | rfl
  · exact m.x.lt
  · exact m.y.lt

theorem Two.stepX (m : Two w b r A l h1 h2 W) (k : Kp (· = b) W W1) (hh : HAt 61 (Sb b r) W1 b h3) : Two w b r A l h3 h2 W1 := by
  have hK : ∀ i, i < W.heap.size → i = b → Sb b r i := fun i _ e => .inl e
  refine ⟨hh, m.y.ext k hK (fun e => m.ne e.symm) (fun i hi => .inl hi) (.inr rfl), m.acts.ext k hK (fun i hi => .inl hi), ?_, m.lb, m.lr, m.ne⟩
  exact m.l.trans (k.below (B := w.heap.size) (fun i hi e => by have := m.lb; omega) m.l.size)

theorem Two.stepY (m : Two w b r A l h1 h2 W) (k : Kp (· = r) W W1) (hh : HAt 49 (Sb b r) W1 r h3) : Two w b r A l h1 h3 W1 := by
  have hK : ∀ i, i < W.heap.size → i = r → Sb b r i := fun i _ e => .inr e
  refine ⟨m.x.ext k hK (fun e => m.ne e) (fun i hi => .inl hi) (.inl rfl), hh, m.acts.ext k hK (fun i hi => .inl hi), ?_, m.lb, m.lr, m.ne⟩
  exact m.l.trans (k.below (B := w.heap.size) (fun i hi e => by have := m.lr; omega) m.l.size)

theorem Two.quiet (m : Two w b r A l h1 h2 W) (hb : Below W.heap.size W W1) : Two w b r A l h1 h2 W1 :=
  ⟨m.x.below hb, m.y.below hb, m.acts.below hb, m.l.trans (hb.mono m.l.size), m.lb, m.lr, m.ne⟩

theorem Two.drewN (m : Two w b r A l h1 h2 W) (n : Nat) : Two w b r A l h1 h2 (W.drewN n) :=
  m.quiet ⟨rfl, rfl, rfl, Nat.le_refl _, fun _ _ => rfl⟩
end
end Go.Proofs.Ytiomdclelbjmmaa
