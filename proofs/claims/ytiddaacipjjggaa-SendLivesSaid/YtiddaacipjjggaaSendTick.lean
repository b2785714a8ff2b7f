/-
  Tick of package send, in each of its cases.
-/
import Derived.Test.YtiddaacipjjggaaSendWalks
set_option linter.unusedVariables false
set_option linter.unusedSimpArgs false
namespace Go.Proofs.Ytiddaacipjjggaa
open Go.RowKit

set_option maxRecDepth 100000 in
set_option maxHeartbeats 1000000 in
theorem tick_again (b : Nat) (x : Snd.St) (y : Int) (w : World) (h : SndAt w b x) (hx : x.ok) (h2 : -2305843009213693952 ≤ y) (h3 : y ≤ 4611686018427387903) (c1 : ¬ y ≤ x.a) (c2 : ¬ x.s < Snd.wend x y) (c3 : x.q + 1 = 4) :
    Calls Try.prog 10 #[.pointer (some ⟨b, 0, none⟩), .int .i64 y] w (TickPost b x y w) := by
  obtain ⟨x1, x2, x3, x4, x5, x6⟩ := hx
  have hw := Snd.wend_le x y
  have hf : Hid (∀ w1, Kp (· = b) w w1 → SndAt w1 b ⟨x.a, x.s, 0⟩ → TickPost b x y w (.returned (.tuple #[.int .i64 (Snd.part x.a (Snd.wend x y)).1, .int .i64 (Snd.part x.a (Snd.wend x y)).2])) w1) := by
    intro w1 k1 k2
    have e : Snd.tick x y = (Snd.part x.a (Snd.wend x y), ⟨x.a, x.s, 0⟩) := by unfold Snd.tick; rw [if_neg c1, if_neg c2, if_pos c3]
    unfold TickPost
    rw [e]
    exact ⟨rfl, k1, k2⟩
  have e0 : w.cell? ⟨b, 0, none⟩ = some (.int .i64 x.a) := h.cell 0
  have hb := h.lt
  have H := Lib.hid h
  clear h
  have c2' : decide (x.s < Snd.wend x y) = false := by simpa using c2
  have c3' : (x.q + 1 == 4) = true := by simpa using c3
  have hbn : w.heap.size ≠ b := by omega
  clear c3
  go_enter Try.func10, Try.ntmps10
  go_wp2_with (first
    | (go_at_call 19; refine (end_any b x y _ H.out x1 x2).mono ?_; rintro e w' ⟨rfl, rfl⟩)
    | (go_at_call 20; refine (ways_any b _).mono ?_; rintro e w' ⟨rfl, rfl⟩))
  refine wp_loop_rounds 2 ?_
  rw [rounds_succ]
  have i0 : ∀ (c : Nat) (w : World), (Instr.index 51 (.agg (wv c)) (.int .i64 0)).run Try.prog w = .ok (.agg #[.func (.func 22) #[] #[.pointer (some ⟨c, 0, none⟩)], .func (.func 23) #[] #[.pointer (some ⟨c, 0, none⟩)]]) w := fun _ _ => by kernel_rfl
  have i1 : ∀ (c : Nat) (w : World), (Instr.index 51 (.agg (wv c)) (.int .i64 1)).run Try.prog w = .ok (.agg #[.func (.func 25) #[] #[.pointer (some ⟨c, 0, none⟩)], .func (.func 26) #[] #[.pointer (some ⟨c, 0, none⟩)]]) w := fun _ _ => by kernel_rfl
  go_wp2_with (first
    | (go_at_call 22; refine (ways1 b w.heap.size x (Snd.wend x y) _ (((H.out.alloc _).alloc _).alloc _) (((Bk.new w _ _).alloc _).alloc _)).mono ?_; rintro e w' ⟨rfl, rfl⟩))
  rw [rounds_succ]
  go_wp2_with (first
    | (go_at_call 25; refine (ways3 b w.heap.size x (Snd.wend x y) _ ((((H.out.alloc _).alloc _).alloc _).alloc _) ((((Bk.new w _ _).alloc _).alloc _).alloc _) x5 x6).mono ?_; rintro e w' ⟨rfl, rfl⟩)
    | (go_at_call 26; refine (ways4 b w.heap.size ⟨x.a, x.s, x.q + 1⟩ (Snd.wend x y) _ (((((H.out.alloc _).alloc _).alloc _).alloc _).put 2 _) (((((Bk.new w _ _).alloc _).alloc _).alloc _).far (p := ⟨b, 2, none⟩) hbn _) x1 x2 (by omega) (by omega)).mono ?_; rintro e w' ⟨rfl, rfl⟩))
  go_ret2
  exact hf.out _ (((((((Kp.refl _ _).alloc _).alloc _).alloc _).alloc _).set1 _ _).set1 _ _) ((((((H.out.alloc _).alloc _).alloc _).alloc _).put 2 _).put 2 _)

set_option maxRecDepth 100000 in
set_option maxHeartbeats 1000000 in
theorem tick_still (b : Nat) (x : Snd.St) (y : Int) (w : World) (h : SndAt w b x) (hx : x.ok) (h2 : -2305843009213693952 ≤ y) (h3 : y ≤ 4611686018427387903) (c1 : ¬ y ≤ x.a) (c2 : ¬ x.s < Snd.wend x y) (c3 : ¬ x.q + 1 = 4) :
    Calls Try.prog 10 #[.pointer (some ⟨b, 0, none⟩), .int .i64 y] w (TickPost b x y w) := by
  obtain ⟨x1, x2, x3, x4, x5, x6⟩ := hx
  have hw := Snd.wend_le x y
  have hf : Hid (∀ w1, Kp (· = b) w w1 → SndAt w1 b ⟨x.a, x.s, x.q + 1⟩ → TickPost b x y w (.returned (.tuple #[.int .i64 0, .int .i64 0])) w1) := by
    intro w1 k1 k2
    have e : Snd.tick x y = ((0, 0), ⟨x.a, x.s, x.q + 1⟩) := by unfold Snd.tick; rw [if_neg c1, if_neg c2, if_neg c3]
    unfold TickPost
    rw [e]
    exact ⟨rfl, k1, k2⟩
  have e0 : w.cell? ⟨b, 0, none⟩ = some (.int .i64 x.a) := h.cell 0
  have hb := h.lt
  have H := Lib.hid h
  clear h
  have c2' : decide (x.s < Snd.wend x y) = false := by simpa using c2
  have c3' : (x.q + 1 == 4) = false := by simpa using c3
  have hbn : w.heap.size ≠ b := by omega
  clear c3
  go_enter Try.func10, Try.ntmps10
  go_wp2_with (first
    | (go_at_call 19; refine (end_any b x y _ H.out x1 x2).mono ?_; rintro e w' ⟨rfl, rfl⟩)
    | (go_at_call 20; refine (ways_any b _).mono ?_; rintro e w' ⟨rfl, rfl⟩))
  refine wp_loop_rounds 3 ?_
  rw [rounds_succ]
  have i0 : ∀ (c : Nat) (w : World), (Instr.index 51 (.agg (wv c)) (.int .i64 0)).run Try.prog w = .ok (.agg #[.func (.func 22) #[] #[.pointer (some ⟨c, 0, none⟩)], .func (.func 23) #[] #[.pointer (some ⟨c, 0, none⟩)]]) w := fun _ _ => by kernel_rfl
  have i1 : ∀ (c : Nat) (w : World), (Instr.index 51 (.agg (wv c)) (.int .i64 1)).run Try.prog w = .ok (.agg #[.func (.func 25) #[] #[.pointer (some ⟨c, 0, none⟩)], .func (.func 26) #[] #[.pointer (some ⟨c, 0, none⟩)]]) w := fun _ _ => by kernel_rfl
  go_wp2_with (first
    | (go_at_call 22; refine (ways1 b w.heap.size x (Snd.wend x y) _ (((H.out.alloc _).alloc _).alloc _) (((Bk.new w _ _).alloc _).alloc _)).mono ?_; rintro e w' ⟨rfl, rfl⟩))
  rw [rounds_succ]
  go_wp2_with (first
    | (go_at_call 25; refine (ways3 b w.heap.size x (Snd.wend x y) _ ((((H.out.alloc _).alloc _).alloc _).alloc _) ((((Bk.new w _ _).alloc _).alloc _).alloc _) x5 x6).mono ?_; rintro e w' ⟨rfl, rfl⟩)
    | (go_at_call 26; refine (ways4 b w.heap.size ⟨x.a, x.s, x.q + 1⟩ (Snd.wend x y) _ (((((H.out.alloc _).alloc _).alloc _).alloc _).put 2 _) (((((Bk.new w _ _).alloc _).alloc _).alloc _).far (p := ⟨b, 2, none⟩) hbn _) x1 x2 (by omega) (by omega)).mono ?_; rintro e w' ⟨rfl, rfl⟩))
  rw [rounds_succ]
  go_wp2_with (fail)
  go_ret2
  exact hf.out _ ((((((Kp.refl _ _).alloc _).alloc _).alloc _).alloc _).set1 _ _) (((((H.out.alloc _).alloc _).alloc _).alloc _).put 2 _)

theorem tick_any (b : Nat) (x : Snd.St) (y : Int) (w : World) (h : SndAt w b x) (hx : x.ok) (h2 : -2305843009213693952 ≤ y) (h3 : y ≤ 4611686018427387903) :
    Calls Try.prog 10 #[.pointer (some ⟨b, 0, none⟩), .int .i64 y] w (TickPost b x y w) := by
  by_cases c1 : y ≤ x.a
  · exact tick_idle b x y w h c1
  by_cases c2 : x.s < Snd.wend x y
  · exact tick_new b x y w h hx h2 h3 c1 c2
  by_cases c3 : x.q + 1 = 4
  · exact tick_again b x y w h hx h2 h3 c1 c2 c3
  · exact tick_still b x y w h hx h2 h3 c1 c2 c3
end Go.Proofs.Ytiddaacipjjggaa
