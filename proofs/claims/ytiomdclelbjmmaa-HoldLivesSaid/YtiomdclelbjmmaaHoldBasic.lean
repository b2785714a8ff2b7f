/-
  New, Applied, Waiting, Next: of the hold, and of the document's.
-/
import Derived.Test.YtiomdclelbjmmaaHoldOwn
set_option linter.unusedVariables false
set_option linter.unusedSimpArgs false
namespace Go.Proofs.Ytiomdclelbjmmaa
open Go.RowKit

def nilS : Value := .slice none 0 0
def Hk.new (c0 c1 c2 : Int) : Hk := ⟨fun i => if i = 0 then c0 else if i = 1 then c1 else c2, fun _ => []⟩

/-- A new hold, in a block of the call's own. -/
def NewPost (t : TypeId) (c0 c1 c2 : Int) (w : World) (e : Ending) (w' : World) : Prop :=
  ∃ g, w.heap.size ≤ g ∧ e = .returned (.tuple #[.pointer (some ⟨g, 0, none⟩), .int .i64 0]) ∧ Bk w' g t #[.int .i64 c0, .int .i64 c1, .int .i64 c2, .slice none 0 0, .slice none 0 0, .slice none 0 0] ∧ Below w.heap.size w w'

theorem hat_new {t : TypeId} {S : Nat → Prop} {w : World} {g : Nat} {c0 c1 c2 : Int} (h : Bk w g t #[.int .i64 c0, .int .i64 c1, .int .i64 c2, .slice none 0 0, .slice none 0 0, .slice none 0 0]) (hS : S g) : HAt t S w g (Hk.new c0 c1 c2) := by
  refine ⟨hS, _, h, rfl, fun i hi => ?_, fun i hi => ⟨.slice none 0 0, ?_, Ts.nil_⟩⟩
  · have hc : i = 0 ∨ i = 1 ∨ i = 2 := by omega
    rcases hc with rfl | rfl | rfl <;> rfl
  · have hc : i = 0 ∨ i = 1 ∨ i = 2 := by omega
    rcases hc with rfl | rfl | rfl <;> rfl

/-- A number, and the world but for draws. -/
def Num (x : Int) (w : World) (e : Ending) (w' : World) : Prop := e = .returned (.int .i64 x) ∧ ∃ n, w' = w.drewN n

section
variable {t : TypeId} {S : Nat → Prop} {w : World} {b : Nat} {h : Hk}
theorem HAt.ap (H : HAt t S w b h) {i : Nat} (hi : i < 3) : w.cell? ⟨b, i, none⟩ = some (.int .i64 (h.a i)) := by
  obtain ⟨cs, hb, hc⟩ := H.row
  rw [hb.cell]
  exact hc.app i hi
theorem HAt.qu (H : HAt t S w b h) {i : Nat} (hi : i < 3) : ∃ A c, w.cell? ⟨b, 3 + i, none⟩ = some (.slice A (h.q i).length c) := by
  obtain ⟨cs, hb, hc⟩ := H.row
  obtain ⟨v, h1, h2⟩ := hc.que i hi
  obtain ⟨A, c, L, rfl, _⟩ := h2.row
  exact ⟨A, c, by rw [hb.cell]; exact h1⟩
end

set_option maxRecDepth 100000 in
theorem new_in (c0 c1 c2 : Int) (h0 : okn c0) (h1 : okn c1) (h2 : okn c2) (w : World) : Calls Try.prog 8 #[.agg #[.int .i64 c0, .int .i64 c1, .int .i64 c2]] w (NewPost 61 c0 c1 c2 w) := by
  have D0 := Lib.hid (Bk.new w 23 #[.int .i64 c0, .int .i64 c1, .int .i64 c2])
  have B0 := Lib.hid ((Below.refl w.heap.size w).alloc (Nat.le_refl _) (.cells #[.int .i64 c0, .int .i64 c1, .int .i64 c2] 23))
  have H0 := Lib.hid h0
  have H1 := Lib.hid h1
  have H2 := Lib.hid h2
  clear h0 h1 h2
  go_enter Try.func8, Try.ntmps8
  go_wp2_with (fail)
  refine (right_yes c0 c1 c2 H0.out H1.out H2.out _).mono ?_
  rintro e w1 ⟨rfl, hb⟩
  have D1 := Lib.hid (D0.out.below hb D0.out.lt)
  have B1 := Lib.hid (B0.out.trans (hb.mono B0.out.size))
  have p0 : w1.cell? ⟨w.heap.size, 0, none⟩ = some (.int .i64 c0) := D1.out.cell 0
  have p1 : w1.cell? ⟨w.heap.size, 1, none⟩ = some (.int .i64 c1) := D1.out.cell 1
  have p2 : w1.cell? ⟨w.heap.size, 2, none⟩ = some (.int .i64 c2) := D1.out.cell 2
  clear hb D0 B0
  go_wp2_with (fail)
  go_ret2
  exact ⟨w1.heap.size, B1.out.size, rfl, Bk.new w1 _ _, B1.out.alloc B1.out.size _⟩

theorem new_out (c0 c1 c2 : Int) (h : ¬ (okn c0 ∧ okn c1 ∧ okn c2)) (w : World) : Calls Try.prog 8 #[.agg #[.int .i64 c0, .int .i64 c1, .int .i64 c2]] w (Says (.tuple #[.pointer none, .int .i64 1]) w) := by
  have B0 := Lib.hid ((Below.refl w.heap.size w).alloc (Nat.le_refl _) (.cells #[.int .i64 c0, .int .i64 c1, .int .i64 c2] 23))
  have HN := Lib.hid h
  clear h
  go_enter Try.func8, Try.ntmps8
  go_wp2_with (fail)
  refine (right_no c0 c1 c2 HN.out _).mono ?_
  rintro e w1 ⟨rfl, hb⟩
  have B1 := Lib.hid (B0.out.trans (hb.mono B0.out.size))
  clear hb B0
  go_wp2_with (fail)
  go_ret2
  exact ⟨rfl, B1.out⟩

theorem waiting_out (b : Nat) (n : Int) (hn : n < 0 ∨ 3 ≤ n) (w : World) : Calls Try.prog 23 #[.pointer (some ⟨b, 0, none⟩), .int .i64 n] w fun e w' => e = .returned (.int .i64 0) ∧ w' = w := by
  go_enter Try.func23, Try.ntmps23
  rcases hn with hn | hn
  · go_wp2_with (fail)
    go_ret
    exact ⟨rfl, rfl⟩
  · have h0 : ¬ n < 0 := by omega
    have h1 : 2 < n := by omega
    go_wp2_with (fail)
    go_ret
    exact ⟨rfl, rfl⟩

theorem next_out (b : Nat) (n : Int) (hn : n < 0 ∨ 3 ≤ n) (w : World) : Calls Try.prog 21 #[.pointer (some ⟨b, 0, none⟩), .int .i64 n] w fun e w' => e = .returned (.int .i64 0) ∧ w' = w := by
  go_enter Try.func21, Try.ntmps21
  rcases hn with hn | hn
  · go_wp2_with (fail)
    go_ret
    exact ⟨rfl, rfl⟩
  · have h0 : ¬ n < 0 := by omega
    have h1 : 2 < n := by omega
    go_wp2_with (fail)
    go_ret
    exact ⟨rfl, rfl⟩

theorem waiting_in {S : Nat → Prop} (b i : Nat) (hi : i < 3) (h : Hk) (w : World) (H : HAt 61 S w b h) : Calls Try.prog 23 #[.pointer (some ⟨b, 0, none⟩), .int .i64 i] w fun e w' => e = .returned (.int .i64 (h.q i).length) ∧ w' = w := by
  obtain ⟨A, c, q⟩ := H.qu hi
  have h0 : ¬ (i : Int) < 0 := by omega
  have h1 : (i : Int) < 3 := by omega
  have h2 : ¬ 2 < (i : Int) := by omega
  clear H
  go_enter Try.func23, Try.ntmps23
  go_wp2_with (fail)
  go_ret
  exact ⟨rfl, rfl⟩

theorem next_in {S : Nat → Prop} (b i : Nat) (hi : i < 3) (h : Hk) (w : World) (H : HAt 61 S w b h) (h0 : 0 ≤ h.a i) (hM : h.a i ≤ 4611686018427387903) (hl : (h.q i).length ≤ 1000000) : Calls Try.prog 21 #[.pointer (some ⟨b, 0, none⟩), .int .i64 i] w (Num (h.a i + (h.q i).length + 1) w) := by
  obtain ⟨A, c, q⟩ := H.qu hi
  have q0 := H.ap hi
  have t0 : ¬ (i : Int) < 0 := by omega
  have t1 : (i : Int) < 3 := by omega
  have t2 : ¬ 2 < (i : Int) := by omega
  clear H
  generalize h.a i = x at *
  generalize (h.q i).length = n at *
  go_enter Try.func21, Try.ntmps21
  go_wp2_with (fail)
  go_quiet (fail)
  go_wp2_with (fail)
  go_ret
  exact ⟨rfl, _, rfl⟩

set_option maxRecDepth 100000 in
theorem rnew_in (c0 c1 c2 : Int) (h0 : okn c0) (h1 : okn c1) (h2 : okn c2) (w : World) : Calls Try.prog 9 #[.agg #[.int .i64 c0, .int .i64 c1, .int .i64 c2]] w (NewPost 49 c0 c1 c2 w) := by
  have D0 := Lib.hid (Bk.new w 23 #[.int .i64 c0, .int .i64 c1, .int .i64 c2])
  have B0 := Lib.hid ((Below.refl w.heap.size w).alloc (Nat.le_refl _) (.cells #[.int .i64 c0, .int .i64 c1, .int .i64 c2] 23))
  have H0 := Lib.hid h0
  have H1 := Lib.hid h1
  have H2 := Lib.hid h2
  clear h0 h1 h2
  go_enter Try.func9, Try.ntmps9
  go_wp2_with (fail)
  refine (rright_yes c0 c1 c2 H0.out H1.out H2.out _).mono ?_
  rintro e w1 ⟨rfl, hb⟩
  have D1 := Lib.hid (D0.out.below hb D0.out.lt)
  have B1 := Lib.hid (B0.out.trans (hb.mono B0.out.size))
  have p0 : w1.cell? ⟨w.heap.size, 0, none⟩ = some (.int .i64 c0) := D1.out.cell 0
  have p1 : w1.cell? ⟨w.heap.size, 1, none⟩ = some (.int .i64 c1) := D1.out.cell 1
  have p2 : w1.cell? ⟨w.heap.size, 2, none⟩ = some (.int .i64 c2) := D1.out.cell 2
  clear hb D0 B0
  go_wp2_with (fail)
  go_ret2
  exact ⟨w1.heap.size, B1.out.size, rfl, Bk.new w1 _ _, B1.out.alloc B1.out.size _⟩

theorem rnew_out (c0 c1 c2 : Int) (h : ¬ (okn c0 ∧ okn c1 ∧ okn c2)) (w : World) : Calls Try.prog 9 #[.agg #[.int .i64 c0, .int .i64 c1, .int .i64 c2]] w (Says (.tuple #[.pointer none, .int .i64 1]) w) := by
  have B0 := Lib.hid ((Below.refl w.heap.size w).alloc (Nat.le_refl _) (.cells #[.int .i64 c0, .int .i64 c1, .int .i64 c2] 23))
  have HN := Lib.hid h
  clear h
  go_enter Try.func9, Try.ntmps9
  go_wp2_with (fail)
  refine (rright_no c0 c1 c2 HN.out _).mono ?_
  rintro e w1 ⟨rfl, hb⟩
  have B1 := Lib.hid (B0.out.trans (hb.mono B0.out.size))
  clear hb B0
  go_wp2_with (fail)
  go_ret2
  exact ⟨rfl, B1.out⟩

theorem rwaiting_out (b : Nat) (n : Int) (hn : n < 0 ∨ 3 ≤ n) (w : World) : Calls Try.prog 24 #[.pointer (some ⟨b, 0, none⟩), .int .i64 n] w fun e w' => e = .returned (.int .i64 0) ∧ w' = w := by
  go_enter Try.func24, Try.ntmps24
  rcases hn with hn | hn
  · go_wp2_with (fail)
    go_ret
    exact ⟨rfl, rfl⟩
  · have h0 : ¬ n < 0 := by omega
    have h1 : 2 < n := by omega
    go_wp2_with (fail)
    go_ret
    exact ⟨rfl, rfl⟩

theorem rnext_out (b : Nat) (n : Int) (hn : n < 0 ∨ 3 ≤ n) (w : World) : Calls Try.prog 22 #[.pointer (some ⟨b, 0, none⟩), .int .i64 n] w fun e w' => e = .returned (.int .i64 0) ∧ w' = w := by
  go_enter Try.func22, Try.ntmps22
  rcases hn with hn | hn
  · go_wp2_with (fail)
    go_ret
    exact ⟨rfl, rfl⟩
  · have h0 : ¬ n < 0 := by omega
    have h1 : 2 < n := by omega
    go_wp2_with (fail)
    go_ret
    exact ⟨rfl, rfl⟩

theorem rwaiting_in {S : Nat → Prop} (b i : Nat) (hi : i < 3) (h : Hk) (w : World) (H : HAt 49 S w b h) : Calls Try.prog 24 #[.pointer (some ⟨b, 0, none⟩), .int .i64 i] w fun e w' => e = .returned (.int .i64 (h.q i).length) ∧ w' = w := by
  obtain ⟨A, c, q⟩ := H.qu hi
  have h0 : ¬ (i : Int) < 0 := by omega
  have h1 : (i : Int) < 3 := by omega
  have h2 : ¬ 2 < (i : Int) := by omega
  clear H
  go_enter Try.func24, Try.ntmps24
  go_wp2_with (fail)
  go_ret
  exact ⟨rfl, rfl⟩

theorem rnext_in {S : Nat → Prop} (b i : Nat) (hi : i < 3) (h : Hk) (w : World) (H : HAt 49 S w b h) (h0 : 0 ≤ h.a i) (hM : h.a i ≤ 4611686018427387903) (hl : (h.q i).length ≤ 1000000) : Calls Try.prog 22 #[.pointer (some ⟨b, 0, none⟩), .int .i64 i] w (Num (h.a i + (h.q i).length + 1) w) := by
  obtain ⟨A, c, q⟩ := H.qu hi
  have q0 := H.ap hi
  have t0 : ¬ (i : Int) < 0 := by omega
  have t1 : (i : Int) < 3 := by omega
  have t2 : ¬ 2 < (i : Int) := by omega
  clear H
  generalize h.a i = x at *
  generalize (h.q i).length = n at *
  go_enter Try.func22, Try.ntmps22
  go_wp2_with (fail)
  go_quiet (fail)
  go_wp2_with (fail)
  go_ret
  exact ⟨rfl, _, rfl⟩
end Go.Proofs.Ytiomdclelbjmmaa
