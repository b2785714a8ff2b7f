/-
  Worlds and blocks: which blocks of memory stay as they were, and what a block holds whole. Plain lemmas; no program.
-/
import Derived.WalkKit
import Derived.Deep.Draws
import Derived.Lib.Hide
set_option linter.unusedVariables false
set_option linter.unusedSimpArgs false
namespace Go.Proofs.Ytiomdclelbjmmaa
open Go.RowKit

/-- Of the blocks that w had, w' holds all as they were but those in S. -/
structure Kp (S : Nat → Prop) (w w' : World) : Prop where
  os : w'.os = w.os
  tape : w'.tape = w.tape
  output : w'.output = w.output
  size : w.heap.size ≤ w'.heap.size
  block : ∀ k, k < w.heap.size → ¬ S k → w'.heap[k]? = w.heap[k]?

section
variable {S T : Nat → Prop} {w w' w'' : World}

theorem Kp.refl (S : Nat → Prop) (w : World) : Kp S w w := ⟨rfl, rfl, rfl, Nat.le_refl _, fun _ _ _ => rfl⟩

theorem Kp.trans (h : Kp S w w') (k : Kp T w' w'') (hT : ∀ i, i < w.heap.size → T i → S i) : Kp S w w'' :=
  ⟨k.os.trans h.os, k.tape.trans h.tape, k.output.trans h.output, Nat.le_trans h.size k.size,
   fun i hi hS => (k.block i (Nat.lt_of_lt_of_le hi h.size) (fun ht => hS (hT i hi ht))).trans (h.block i hi hS)⟩

theorem Kp.tr (h : Kp S w w') (k : Kp S w' w'') : Kp S w w'' := h.trans k fun _ _ => id

theorem Kp.mono (h : Kp S w w') (hT : ∀ i, i < w.heap.size → S i → T i) : Kp T w w' :=
  ⟨h.os, h.tape, h.output, h.size, fun i hi ht => h.block i hi fun hs => ht (hT i hi hs)⟩

theorem Kp.drewN (h : Kp S w w') (n : Nat) : Kp S w (w'.drewN n) := ⟨h.os, h.tape, h.output, h.size, h.block⟩
theorem Kp.drew (h : Kp S w w') : Kp S w w'.drew := ⟨h.os, h.tape, h.output, h.size, h.block⟩

theorem Kp.alloc (h : Kp S w w') (o : Obj) : Kp S w (w'.alloc o) :=
  ⟨h.os, h.tape, h.output, Nat.le_trans h.size (by simp), fun i hi hS => (Below.heap_alloc w' o i (Nat.lt_of_lt_of_le hi h.size)).trans (h.block i hi hS)⟩

theorem Kp.setCell (h : Kp S w w') {p : Addr} (hp : S p.block ∨ w.heap.size ≤ p.block) (u : Value) : Kp S w (w'.setCell p u) :=
  ⟨h.os, h.tape, h.output, by simpa using h.size, fun i hi hS => (Below.heap_setCell w' p u i (by
    rintro rfl
    rcases hp with hp | hp
    · exact hS hp
    · omega)).trans (h.block i hi hS)⟩

theorem Kp.set1 {b : Nat} (h : Kp (· = b) w w') (i : Nat) (u : Value) : Kp (· = b) w (w'.setCell ⟨b, i, none⟩ u) := h.setCell (p := ⟨b, i, none⟩) (.inl rfl) u
theorem Kp.of_below {B : Nat} (h : Below B w w') : Kp (fun k => B ≤ k) w w' := ⟨h.os, h.tape, h.output, h.size, fun k _ hk => h.block k (by omega)⟩
theorem Kp.below {B : Nat} (h : Kp S w w') (hS : ∀ k, k < B → ¬ S k) (hB : B ≤ w.heap.size) : Below B w w' :=
  ⟨h.os, h.tape, h.output, h.size, fun k hk => h.block k (by omega) (hS k hk)⟩
theorem Kp.of_grown {row : Option Nat} (h : w.grownBy w' row) : Kp (fun k => some k = row) w w' := ⟨h.os, h.tape, h.output, h.size, h.block⟩
theorem Kp.none_below (h : Kp (fun _ => False) w w') : Below w.heap.size w w' := h.below (fun _ _ => id) (Nat.le_refl _)

theorem Kp.cell (h : Kp S w w') {p : Addr} (hp : p.block < w.heap.size) (hS : ¬ S p.block) : w'.cell? p = w.cell? p := World.cell?_of_block (w := w) (h.block p.block hp hS)
theorem Kp.frozen (h : Kp S w w') {p : Addr} (hp : p.block < w.heap.size) (hS : ¬ S p.block) : w'.frozen? p = w.frozen? p := World.frozen?_of_block (w := w) (h.block p.block hp hS)

/-- Block g is just these cells, of element type t, none of them frozen. -/
def Bk (w : World) (g : Nat) (t : TypeId) (cs : Array Value) : Prop := w.heap[g]? = some (.cells cs t (0, 0))

variable {g g' : Nat} {t t' : TypeId} {cs cs' : Array Value}
theorem Bk.lt (h : Bk w g t cs) : g < w.heap.size := by
  rcases Nat.lt_or_ge g w.heap.size with h1 | h1
  · exact h1
  · unfold Bk at h; rw [Array.getElem?_eq_none h1] at h; cases h
theorem Bk.cell (h : Bk w g t cs) (i : Nat) : w.cell? ⟨g, i, none⟩ = cs[i]? := cell_of_row w g i cs t (0, 0) h
theorem Bk.free (h : Bk w g t cs) (i : Nat) : w.frozen? ⟨g, i, none⟩ = false := by
  unfold Bk at h
  simp [World.frozen?, h]
theorem Bk.new (w : World) (t : TypeId) (cs : Array Value) : Bk (w.alloc (.cells cs t)) w.heap.size t cs := heap_alloc_new w _
theorem Bk.drew (h : Bk w g t cs) : Bk w.drew g t cs := h
theorem Bk.drewN (h : Bk w g t cs) (n : Nat) : Bk (w.drewN n) g t cs := h
theorem Bk.alloc (h : Bk w g t cs) (o : Obj) : Bk (w.alloc o) g t cs := (Below.heap_alloc w o g h.lt).trans h
theorem Bk.put (h : Bk w g t cs) (i : Nat) (u : Value) : Bk (w.setCell ⟨g, i, none⟩ u) g t (cs.setIfInBounds i u) := by
  unfold Bk at h ⊢
  simp [World.setCell, Array.getElem?_modify, h]
theorem Bk.far (h : Bk w g t cs) {p : Addr} (hp : g ≠ p.block) (u : Value) : Bk (w.setCell p u) g t cs := (Below.heap_setCell w p u g hp).trans h
theorem Bk.kp (h : Bk w g t cs) (k : Kp S w w') (hg : ¬ S g) : Bk w' g t cs := (k.block g h.lt hg).trans h
theorem Bk.below {B : Nat} (h : Bk w g t cs) (hb : Below B w w') (hg : g < B) : Bk w' g t cs := (hb.block g hg).trans h
theorem Bk.inj (h : Bk w g t cs) (h' : Bk w g t' cs') : t = t' ∧ cs = cs' := by
  unfold Bk at h h'
  rw [h] at h'
  simp only [Option.some.injEq, Obj.cells.injEq, and_true] at h'
  exact ⟨h'.2, h'.1⟩
theorem Bk.ne (h : Bk w g t cs) (h' : Bk w g' t' cs') (hne : t ≠ t') : g ≠ g' := by
  rintro rfl
  exact hne (h.inj h').1
end
end Go.Proofs.Ytiomdclelbjmmaa
