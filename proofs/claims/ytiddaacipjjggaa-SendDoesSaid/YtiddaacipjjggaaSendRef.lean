/-
  The document's answer for layer 18: its sender answers and stands as the program's.
-/
import Derived.Test.YtiddaacipjjggaaSendMore
set_option linter.unusedVariables false
set_option linter.unusedSimpArgs false
namespace Go.Proofs.Ytiddaacipjjggaa
open Go.RowKit

/-- At block b lies a sender of the document's answer. -/
def RefAt (w : World) (b : Nat) (x : Snd.St) : Prop := Bk w b 40 #[.int .i64 x.a, .int .i64 x.s, .int .i64 x.q]

theorem rnew_bad (a : Int) (w : World) (h : a < 0 ∨ 4611686018427387903 < a) :
    Calls Try.prog 9 #[.int .i64 a] w fun e w' => e = .returned (.tuple #[.pointer none, .int .i64 1]) ∧ w = w' := by
  by_cases c : a < 0
  · go_enter Try.func9, Try.ntmps9
    go_wp2
    go_ret2
    exact ⟨rfl, rfl⟩
  · have c2 : 4611686018427387903 < a := by omega
    go_enter Try.func9, Try.ntmps9
    go_wp2
    go_ret2
    exact ⟨rfl, rfl⟩

theorem rnew_good (a : Int) (w : World) (h1 : ¬ a < 0) (h2 : ¬ 4611686018427387903 < a) :
    Calls Try.prog 9 #[.int .i64 a] w fun e w' => e = .returned (.tuple #[.pointer (some ⟨w.heap.size, 0, none⟩), .int .i64 0]) ∧
      w' = w.alloc (.cells #[.int .i64 a, .int .i64 a, .int .i64 0] 40) := by
  go_enter Try.func9, Try.ntmps9
  go_wp2
  go_ret2
  exact ⟨rfl, rfl⟩

set_option maxHeartbeats 1600000 in
theorem first_any (f t : Int) (w : World) (h0 : -4611686018427387911 ≤ f) (h1 : f ≤ 4611686018427387915) (h2 : -4611686018427387911 ≤ t) (h3 : t ≤ 4611686018427387911) :
    Calls Try.prog 21 #[.int .i64 f, .int .i64 t] w fun e w' => e = .returned (.tuple #[.int .i64 (Snd.part (f - 1) t).1, .int .i64 (Snd.part (f - 1) t).2]) ∧ w = w' := by
  by_cases c0 : t < f
  · rw [Snd.part_none (by omega)]
    go_enter Try.func21, Try.ntmps21
    go_wp2
    go_ret2
    exact ⟨rfl, rfl⟩
  by_cases c3 : f + 3 ≤ t
  · have e : Snd.part (f - 1) t = (f, 4) := by
      by_cases c4 : t = f + 3
      · rw [Snd.part_all (by omega) (by omega)]; congr 1 <;> omega
      · rw [Snd.part_four (by omega) (by omega)]; congr 1; omega
    rw [e]
    clear e
    have c1 : f + 1 ≤ t := by omega
    have c2 : f + 2 ≤ t := by omega
    go_enter Try.func21, Try.ntmps21
    go_wp2
    refine wp_loop_rounds 4 ?_
    rw [rounds_succ]
    go_wp2
    rw [rounds_succ]
    go_wp2
    rw [rounds_succ]
    go_wp2
    rw [rounds_succ]
    go_wp2
    go_ret2
    exact ⟨rfl, rfl⟩
  have e : Snd.part (f - 1) t = (f, t - f + 1) := by
    rw [Snd.part_all (by omega) (by omega)]; congr 1 <;> omega
  rw [e]
  clear e
  by_cases c1 : f + 1 ≤ t
  · by_cases c2 : f + 2 ≤ t
    · obtain rfl : t = f + 2 := by omega
      rw [show f + 2 - f + 1 = 3 from by omega]
      go_enter Try.func21, Try.ntmps21
      go_wp2
      refine wp_loop_rounds 3 ?_
      rw [rounds_succ]
      go_wp2
      rw [rounds_succ]
      go_wp2
      rw [rounds_succ]
      go_wp2
      go_ret2
      exact ⟨rfl, rfl⟩
    · obtain rfl : t = f + 1 := by omega
      rw [show f + 1 - f + 1 = 2 from by omega]
      go_enter Try.func21, Try.ntmps21
      go_wp2
      refine wp_loop_rounds 2 ?_
      rw [rounds_succ]
      go_wp2
      rw [rounds_succ]
      go_wp2
      go_ret2
      exact ⟨rfl, rfl⟩
  · obtain rfl : t = f := by omega
    rw [show t - t + 1 = 1 from by omega]
    go_enter Try.func21, Try.ntmps21
    go_wp2
    refine wp_loop_rounds 1 ?_
    rw [rounds_succ]
    go_wp2
    go_ret2
    exact ⟨rfl, rfl⟩

def RTickPost (b : Nat) (x : Snd.St) (y : Int) (w : World) (e : Ending) (w' : World) : Prop :=
  e = .returned (.tuple #[.int .i64 (Snd.tick x y).1.1, .int .i64 (Snd.tick x y).1.2]) ∧ Kp (· = b) w w' ∧ RefAt w' b (Snd.tick x y).2

set_option maxHeartbeats 1600000 in
theorem rtick_any (b : Nat) (x : Snd.St) (y : Int) (w : World) (h : RefAt w b x) (hx : x.ok) (h2 : -2305843009213693952 ≤ y) (h3 : y ≤ 2305843009213693952) :
    Calls Try.prog 11 #[.pointer (some ⟨b, 0, none⟩), .int .i64 y] w (RTickPost b x y w) := by
  obtain ⟨x1, x2, x3, x4, x5, x6⟩ := hx
  have e0 : w.cell? ⟨b, 0, none⟩ = some (.int .i64 x.a) := h.cell 0
  have e1 : w.cell? ⟨b, 1, none⟩ = some (.int .i64 x.s) := h.cell 1
  have e2 : w.cell? ⟨b, 2, none⟩ = some (.int .i64 x.q) := h.cell 2
  have f0 := h.free 0
  have f1 := h.free 1
  have f2 := h.free 2
  have H := Lib.hid h
  clear h
  by_cases c1 : y ≤ x.a
  · have hf : Hid (∀ w', Kp (· = b) w w' → RefAt w' b ⟨x.a, x.s, 0⟩ → RTickPost b x y w (.returned (.tuple #[.int .i64 0, .int .i64 0])) w') := by
      intro w' k1 k2
      unfold RTickPost
      rw [Snd.tick_idle c1]
      exact ⟨rfl, k1, k2⟩
    go_enter Try.func11, Try.ntmps11
    go_wp2_with (fail)
    go_ret2
    exact hf.out _ ((Kp.refl _ _).set1 _ _) (H.out.put 2 _)
  by_cases c4 : y < x.a + 8
  all_goals
    by_cases c2 : x.s < Snd.wend x y
    · have hf : Hid (∀ w', Kp (· = b) w w' → RefAt w' b ⟨x.a, (Snd.part x.s (Snd.wend x y)).1 + (Snd.part x.s (Snd.wend x y)).2 - 1, 0⟩ → RTickPost b x y w (.returned (.tuple #[.int .i64 (Snd.part x.s (Snd.wend x y)).1, .int .i64 (Snd.part x.s (Snd.wend x y)).2])) w') := by
        intro w' k1 k2
        unfold RTickPost
        rw [Snd.tick_new c1 c2]
        exact ⟨rfl, k1, k2⟩
      have hp := Snd.part_le x.s (Snd.wend x y)
      have hp1 : (Snd.part x.s (Snd.wend x y)).1 + (Snd.part x.s (Snd.wend x y)).2 - 1 = x.s + (Snd.part x.s (Snd.wend x y)).2 := by
        have := Snd.part_new c2
        omega
      rw [hp1] at hf
      clear hp1
      have hfirst : ∀ w : World, Calls Try.prog 21 #[.int .i64 (x.s + 1), .int .i64 (Snd.wend x y)] w fun e w' => e = .returned (.tuple #[.int .i64 (Snd.part x.s (Snd.wend x y)).1, .int .i64 (Snd.part x.s (Snd.wend x y)).2]) ∧ w = w' := by
        intro w
        have hw := Snd.wend_le x y
        have := first_any (x.s + 1) (Snd.wend x y) w (by omega) (by omega) (by omega) (by omega)
        rwa [Int.add_sub_cancel] at this
      have Hfirst := Lib.hid hfirst
      clear hfirst
      first | rw [Snd.wend_lt c4] at hf c2 hp Hfirst | rw [Snd.wend_ge c4] at hf c2 hp Hfirst
      go_enter Try.func11, Try.ntmps11
      go_wp2_with (go_at_call 21; refine (Hfirst.out _).mono ?_; rintro e w' ⟨rfl, rfl⟩)
      go_ret2
      exact hf.out _ (((Kp.refl _ _).set1 _ _).set1 _ _) ((H.out.put 1 _).put 2 _)
    by_cases c3 : x.q + 1 = 4
    · have hf : Hid (∀ w', Kp (· = b) w w' → RefAt w' b ⟨x.a, x.s, 0⟩ → RTickPost b x y w (.returned (.tuple #[.int .i64 (Snd.part x.a (Snd.wend x y)).1, .int .i64 (Snd.part x.a (Snd.wend x y)).2])) w') := by
        intro w' k1 k2
        unfold RTickPost
        rw [Snd.tick_again c1 c2 c3]
        exact ⟨rfl, k1, k2⟩
      have hfirst : ∀ w : World, Calls Try.prog 21 #[.int .i64 (x.a + 1), .int .i64 (Snd.wend x y)] w fun e w' => e = .returned (.tuple #[.int .i64 (Snd.part x.a (Snd.wend x y)).1, .int .i64 (Snd.part x.a (Snd.wend x y)).2]) ∧ w = w' := by
        intro w
        have hw := Snd.wend_le x y
        have := first_any (x.a + 1) (Snd.wend x y) w (by omega) (by omega) (by omega) (by omega)
        rwa [Int.add_sub_cancel] at this
      have Hfirst := Lib.hid hfirst
      clear hfirst
      first | rw [Snd.wend_lt c4] at hf c2 Hfirst | rw [Snd.wend_ge c4] at hf c2 Hfirst
      have c3' : ¬ x.q + 1 < 4 := by omega
      clear c3
      go_enter Try.func11, Try.ntmps11
      go_wp2_with (go_at_call 21; refine (Hfirst.out _).mono ?_; rintro e w' ⟨rfl, rfl⟩)
      go_ret2
      exact hf.out _ (((Kp.refl _ _).set1 _ _).set1 _ _) ((H.out.put 2 _).put 2 _)
    · have hf : Hid (∀ w', Kp (· = b) w w' → RefAt w' b ⟨x.a, x.s, x.q + 1⟩ → RTickPost b x y w (.returned (.tuple #[.int .i64 0, .int .i64 0])) w') := by
        intro w' k1 k2
        unfold RTickPost
        rw [Snd.tick_still c1 c2 c3]
        exact ⟨rfl, k1, k2⟩
      have c3' : x.q + 1 < 4 := by omega
      clear c3
      first | rw [Snd.wend_lt c4] at c2 | rw [Snd.wend_ge c4] at c2
      go_enter Try.func11, Try.ntmps11
      go_wp2_with (fail)
      go_ret2
      exact hf.out _ ((Kp.refl _ _).set1 _ _) (H.out.put 2 _)

def RAckPost (b : Nat) (x : Snd.St) (t y : Int) (w : World) (e : Ending) (w' : World) : Prop :=
  e = .returned (.bool (Snd.ack x t y).1) ∧ Kp (· = b) w w' ∧ RefAt w' b (Snd.ack x t y).2

theorem rack_any (b : Nat) (x : Snd.St) (t y : Int) (w : World) (h : RefAt w b x) :
    Calls Try.prog 13 #[.pointer (some ⟨b, 0, none⟩), .int .i64 t, .int .i64 y] w (RAckPost b x t y w) := by
  have e0 : w.cell? ⟨b, 0, none⟩ = some (.int .i64 x.a) := h.cell 0
  have e1 : w.cell? ⟨b, 1, none⟩ = some (.int .i64 x.s) := h.cell 1
  have e2 : w.cell? ⟨b, 2, none⟩ = some (.int .i64 x.q) := h.cell 2
  have f0 := h.free 0
  have f1 := h.free 1
  have f2 := h.free 2
  by_cases c : t ≤ x.a ∨ y < t
  · have hf : Hid (RAckPost b x t y w (.returned (.bool false)) w) := by
      unfold Hid RAckPost
      rw [Snd.ack_no c]
      exact ⟨rfl, Kp.refl _ _, h⟩
    by_cases c1 : t ≤ x.a
    · clear c
      go_enter Try.func13, Try.ntmps13
      go_wp2
      go_ret
      exact hf.out
    · have c2 : y < t := by omega
      clear c
      go_enter Try.func13, Try.ntmps13
      go_wp2
      go_ret
      exact hf.out
  · have hf : Hid (∀ w', Kp (· = b) w w' → RefAt w' b ⟨t, if t > x.s then t else x.s, 0⟩ → RAckPost b x t y w (.returned (.bool true)) w') := by
      intro w' k1 k2
      unfold RAckPost
      rw [Snd.ack_yes c]
      exact ⟨rfl, k1, k2⟩
    have c1 : ¬ t ≤ x.a := by omega
    have c2 : ¬ y < t := by omega
    clear c
    have H := Lib.hid h
    clear h
    by_cases c3 : t > x.s
    · rw [if_pos c3] at hf
      have c4 : x.s < t := c3
      clear c3
      go_enter Try.func13, Try.ntmps13
      go_wp2
      go_ret
      exact hf.out _ ((((Kp.refl _ _).set1 _ _).set1 _ _).set1 _ _) (((H.out.put 0 _).put 1 _).put 2 _)
    · rw [if_neg c3] at hf
      have c4 : ¬ x.s < t := c3
      clear c3
      go_enter Try.func13, Try.ntmps13
      go_wp2
      go_ret
      exact hf.out _ (((Kp.refl _ _).set1 _ _).set1 _ _) ((H.out.put 0 _).put 2 _)

end Go.Proofs.Ytiddaacipjjggaa
