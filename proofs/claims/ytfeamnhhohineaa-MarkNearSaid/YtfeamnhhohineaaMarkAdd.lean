/-
  The walks through package mark: Add, where no mark is laid; Drop and Cut.
-/
import Derived.Test.YtfeamnhhohineaaMarkMore
set_option linter.unusedVariables false
set_option linter.unusedSimpArgs false
namespace Go.Proofs.Ytfeamnhhohineaa
open Go.RowKit

theorem MkAt.box {w : World} {B b : Nat} {l : List Mk} {last : Int} (h : MkAt w B b l last) {w' : World} (hb : Below w.heap.size w w') : MkAt w' B b l last := by
  obtain ⟨v, h1, h2⟩ := h.row
  exact ⟨h.ge, v, h1.below hb h1.lt, own_new h2 hb⟩
theorem MkAt.lt {w : World} {B b : Nat} {l : List Mk} {last : Int} (h : MkAt w B b l last) : b < w.heap.size := by
  obtain ⟨v, h1, h2⟩ := h.row
  exact h1.lt

set_option maxRecDepth 100000 in
set_option maxHeartbeats 1000000 in
theorem add_arg (B b : Nat) (l : List Mk) (last : Int) (ms mf mp : Int) (w : World) (h : MkAt w B b l last) (hm : ¬ okMk ⟨ms, mf, mp⟩) :
    Calls Try.prog 6 #[.pointer (some ⟨b, 0, none⟩), mv ⟨ms, mf, mp⟩] w (AddPost B b l last false 1 w) := by
  have HM := Lib.hid h
  have hlt := h.lt
  have hge := h.ge
  have hor : ms < 1 ∨ 4611686018427387903 < ms ∨ mf < 0 ∨ 64 ≤ mf ∨ mp < 0 := by
    unfold okMk at hm
    dsimp only at hm
    omega
  clear h hm
  unfold mv
  have hfin : Hid (AddPost B b l last false 1 w (.returned (.tuple #[.bool false, .int .i64 1])) (w.alloc (.cells #[.int .i64 ms, .int .i64 mf, .int .i64 mp] 29))) :=
    ⟨rfl, (Below.refl _ _).alloc (by omega) _, HM.out.box ((Below.refl _ _).alloc (Nat.le_refl _) _), by simp⟩
  by_cases c1 : ms < 1
  · have d1 : decide (ms < 1) = true := by simpa using c1
    clear c1 hor
    go_enter Try.func6, Try.ntmps6
    go_wp2_with (fail)
    go_ret2
    exact hfin.out
  have d1 : decide (ms < 1) = false := by simpa using c1
  by_cases c2 : 4611686018427387903 < ms
  · have d2 : decide (4611686018427387903 < ms) = true := by simpa using c2
    clear c1 c2 hor
    go_enter Try.func6, Try.ntmps6
    go_wp2_with (fail)
    go_ret2
    exact hfin.out
  have d2 : decide (4611686018427387903 < ms) = false := by simpa using c2
  by_cases c3 : mf < 0
  · have d3 : decide (mf < 0) = true := by simpa using c3
    clear c1 c2 c3 hor
    go_enter Try.func6, Try.ntmps6
    go_wp2_with (fail)
    go_ret2
    exact hfin.out
  have d3 : decide (mf < 0) = false := by simpa using c3
  by_cases c4 : 64 ≤ mf
  · have d4 : decide (64 ≤ mf) = true := by simpa using c4
    clear c1 c2 c3 c4 hor
    go_enter Try.func6, Try.ntmps6
    go_wp2_with (fail)
    go_ret2
    exact hfin.out
  have d4 : decide (64 ≤ mf) = false := by simpa using c4
  have c5 : mp < 0 := by omega
  have d5 : decide (mp < 0) = true := by simpa using c5
  clear c1 c2 c3 c4 c5 hor
  go_enter Try.func6, Try.ntmps6
  go_wp2_with (fail)
  go_ret2
  exact hfin.out

set_option maxRecDepth 100000 in
set_option maxHeartbeats 1000000 in
theorem add_gap (B b : Nat) (l : List Mk) (last : Int) (ms mf mp : Int) (w : World) (h : MkAt w B b l last) (hm : okMk ⟨ms, mf, mp⟩) (hg : ms ≤ last) :
    Calls Try.prog 6 #[.pointer (some ⟨b, 0, none⟩), mv ⟨ms, mf, mp⟩] w (AddPost B b l last false 6 w) := by
  have HM := Lib.hid h
  have hlt := h.lt
  have hge := h.ge
  obtain ⟨v, hbk, _⟩ := h.row
  have eb1 : w.cell? ⟨b, 1, none⟩ = some (.int .i64 last) := hbk.cell 1
  obtain ⟨m1, m2, m3, m4, m5⟩ := hm
  dsimp only at m1 m2 m3 m4 m5
  have d1 : decide (ms < 1) = false := by simp; omega
  have d2 : decide (4611686018427387903 < ms) = false := by simp; omega
  have d3 : decide (mf < 0) = false := by simp; omega
  have d4 : decide (64 ≤ mf) = false := by simp; omega
  have d5 : decide (mp < 0) = false := by simp; omega
  have d6 : decide (ms ≤ last) = true := by simp; omega
  clear h hbk
  unfold mv
  go_enter Try.func6, Try.ntmps6
  go_wp2_with (fail)
  go_quiet (fail)
  go_wp2_with (fail)
  go_ret2
  have hb : Below w.heap.size w ((w.alloc (.cells #[.int .i64 ms, .int .i64 mf, .int .i64 mp] 29)).drewN nq) := below_drewN ((Below.refl _ _).alloc (Nat.le_refl _) _) nq
  exact ⟨rfl, hb.mono (by omega), HM.out.box hb, by simp⟩

/-- What Add leaves where no mark is laid. -/
def SkipPost (B b : Nat) (l : List Mk) (last : Int) (w : World) (e : Ending) (w' : World) : Prop :=
  e = .returned (.tuple #[.bool false, .int .i64 0]) ∧ Kp (· = b) w w' ∧ MkAt w' B b l last ∧ w.heap.size ≤ w'.heap.size

theorem skip_fin {B b : Nat} {l : List Mk} {A : Option Addr} {c n : Nat} {ms : Int} {w W1 : World} (hB : B ≤ b) (hBw : b < w.heap.size) (h1 : Kp (· = b) w W1)
    (hown : W1.ownsRow B 29 3 (.slice A l.length c) l.length (Mk.cells l)) (zk : Bk W1 b 44 #[.slice A l.length c, .int .i64 ms]) :
    SkipPost B b l ms w (.returned (.tuple #[.bool false, .int .i64 0])) (W1.drewN n) :=
  ⟨rfl, h1.drewN n, ⟨hB, _, zk.drewN n, own_drewN hown n⟩, h1.size⟩

set_option maxRecDepth 100000 in
set_option maxHeartbeats 2000000 in
theorem add_skip (B b : Nat) (l : List Mk) (last : Int) (ms mf mp : Int) (w : World) (h : MkAt w B b l last) (hn : l.length ≤ 1000000) (hm : okMk ⟨ms, mf, mp⟩) (hg : last < ms) (hl : Near l ⟨ms, mf, mp⟩) (hr : ∀ m ∈ l, 0 ≤ m.s ∧ m.s ≤ last) :
    Calls Try.prog 6 #[.pointer (some ⟨b, 0, none⟩), mv ⟨ms, mf, mp⟩] w (SkipPost B b l ms w) := by
  obtain ⟨v, hbk, hown⟩ := h.row
  obtain ⟨A, c, rfl⟩ := own_shape hown
  obtain ⟨m1, m2, m3, m4, m5⟩ := hm
  have hlt := hbk.lt
  have eb : w.cell? ⟨b, 0, none⟩ = some (.slice A l.length c) := hbk.cell 0
  have eb1 : w.cell? ⟨b, 1, none⟩ = some (.int .i64 last) := hbk.cell 1
  have fb0 := hbk.free 0
  have fb1 := hbk.free 1
  have HB := Lib.hid hbk
  have HO := Lib.hid hown
  have HM := Lib.hid h
  dsimp only at m1 m2 m3 m4 m5
  have d1 : decide (ms < 1) = false := by simp; omega
  have d2 : decide (4611686018427387903 < ms) = false := by simp; omega
  have d3 : decide (mf < 0) = false := by simp; omega
  have d4 : decide (64 ≤ mf) = false := by simp; omega
  have d5 : decide (mp < 0) = false := by simp; omega
  have d6 : decide (ms ≤ last) = false := by simp; omega
  have hlt1 : b < w.heap.size + 1 := by omega
  have hBb := h.ge
  obtain ⟨h0, hf, hs⟩ := hl
  have hbd := hr _ (List.getElem_mem (show l.length - 1 < l.length by omega))
  obtain ⟨g, rfl, _, _⟩ := mk_cells (b := b) hown h0
  have hcell : Hid (∀ (w' : World), w'.ownsRow B 29 3 (.slice (some ⟨g, 0, none⟩) l.length c) l.length (Mk.cells l) → w'.cell? ⟨g, (l.length - 1) * 3, none⟩ = some (.int .i64 (l[l.length - 1]).s) ∧ w'.cell? ⟨g, (l.length - 1) * 3 + 1, none⟩ = some (.int .i64 (l[l.length - 1]).f)) := by
    intro w' hw'
    obtain ⟨g', hA', q1, q2⟩ := mk_cells (b := b) hw' h0
    injection hA' with hA'
    injection hA' with hA'
    subst hA'
    exact ⟨q1, q2⟩
  clear hbk hown h hr
  generalize l[l.length - 1] = mz at *
  have hf1 : (mz.f == mf) = true := by simpa using hf
  have hs1 : decide (ms - mz.s < 2) = true := by simpa using hs
  have z1 : 0 ≤ mz.s := hbd.1
  have z2 : mz.s ≤ ms := by omega
  clear hf hs hbd hg
  unfold mv
  go_enter Try.func6, Try.ntmps6
  go_wp2_with (fail)
  go_quiet (fail)
  go_wp2_with (fail)
  obtain ⟨G1, G2, G3, G4⟩ := mk_last (s := ms) (o := .cells #[.int .i64 ms, .int .i64 mf, .int .i64 mp] 29) nq HB.out HO.out
  have G5 : Bk (((w.alloc (.cells #[.int .i64 ms, .int .i64 mf, .int .i64 mp] 29)).drewN nq).setCell ⟨b, 1, none⟩ (.int .i64 ms)) w.heap.size _ _ := mk_box hlt
  generalize (((w.alloc (.cells #[.int .i64 ms, .int .i64 mf, .int .i64 mp] 29)).drewN nq).setCell ⟨b, 1, none⟩ (.int .i64 ms)) = W1 at *
  have F1 := Lib.hid G1
  have F2 := Lib.hid G2
  have F3 := Lib.hid G3
  have F5 := Lib.hid G5
  clear G1 G2 G3 G5
  have q0 : W1.cell? ⟨b, 0, none⟩ = some (.slice (some ⟨g, 0, none⟩) l.length c) := F1.out.cell 0
  have q1 : W1.cell? ⟨w.heap.size, 0, none⟩ = some (.int .i64 ms) := F5.out.cell 0
  have q2 : W1.cell? ⟨w.heap.size, 1, none⟩ = some (.int .i64 mf) := F5.out.cell 1
  have q3 : W1.cell? ⟨w.heap.size, 2, none⟩ = some (.int .i64 mp) := F5.out.cell 2
  obtain ⟨q4, q5⟩ := hcell.out W1 F2.out
  go_quiet (fail)
  go_wp2_with (fail)
  go_ret2
  exact skip_fin hBb hlt F3.out F2.out F1.out
end Go.Proofs.Ytfeamnhhohineaa
