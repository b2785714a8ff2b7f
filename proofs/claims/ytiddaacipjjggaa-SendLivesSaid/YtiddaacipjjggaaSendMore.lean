/-
  New, Acked, Sent, Quiet, Ack and Ask of package send.
-/
import Derived.Test.YtiddaacipjjggaaSendWalks
set_option linter.unusedVariables false
set_option linter.unusedSimpArgs false
namespace Go.Proofs.Ytiddaacipjjggaa
open Go.RowKit

theorem acked_any (b : Nat) (x : Snd.St) (w : World) (h : SndAt w b x) :
    Calls Try.prog 16 #[.pointer (some ⟨b, 0, none⟩)] w fun e w' => e = .returned (.int .i64 x.a) ∧ w = w' := by
  have e0 : w.cell? ⟨b, 0, none⟩ = some (.int .i64 x.a) := h.cell 0
  go_enter Try.func16, Try.ntmps16
  go_wp2
  go_ret
  exact ⟨rfl, rfl⟩

theorem sent_any (b : Nat) (x : Snd.St) (w : World) (h : SndAt w b x) :
    Calls Try.prog 17 #[.pointer (some ⟨b, 0, none⟩)] w fun e w' => e = .returned (.int .i64 x.s) ∧ w = w' := by
  have e0 : w.cell? ⟨b, 1, none⟩ = some (.int .i64 x.s) := h.cell 1
  go_enter Try.func17, Try.ntmps17
  go_wp2
  go_ret
  exact ⟨rfl, rfl⟩

theorem quiet_any (b : Nat) (x : Snd.St) (w : World) (h : SndAt w b x) :
    Calls Try.prog 18 #[.pointer (some ⟨b, 0, none⟩)] w fun e w' => e = .returned (.int .i64 x.q) ∧ w = w' := by
  have e0 : w.cell? ⟨b, 2, none⟩ = some (.int .i64 x.q) := h.cell 2
  go_enter Try.func18, Try.ntmps18
  go_wp2
  go_ret
  exact ⟨rfl, rfl⟩

theorem new_bad (a : Int) (w : World) (h : a < 0 ∨ 4611686018427387903 < a) :
    Calls Try.prog 8 #[.int .i64 a] w fun e w' => e = .returned (.tuple #[.pointer none, .int .i64 1]) ∧ w = w' := by
  by_cases c : a < 0
  · go_enter Try.func8, Try.ntmps8
    go_wp2
    go_ret2
    exact ⟨rfl, rfl⟩
  · have c2 : 4611686018427387903 < a := by omega
    go_enter Try.func8, Try.ntmps8
    go_wp2
    go_ret2
    exact ⟨rfl, rfl⟩

theorem new_good (a : Int) (w : World) (h1 : ¬ a < 0) (h2 : ¬ 4611686018427387903 < a) :
    Calls Try.prog 8 #[.int .i64 a] w fun e w' => e = .returned (.tuple #[.pointer (some ⟨w.heap.size, 0, none⟩), .int .i64 0]) ∧
      w' = w.alloc (.cells #[.int .i64 a, .int .i64 a, .int .i64 0] 46) := by
  go_enter Try.func8, Try.ntmps8
  go_wp2
  go_ret2
  exact ⟨rfl, rfl⟩

def AckPost (b : Nat) (x : Snd.St) (t y : Int) (w : World) (e : Ending) (w' : World) : Prop :=
  e = .returned (.bool (Snd.ack x t y).1) ∧ Kp (· = b) w w' ∧ SndAt w' b (Snd.ack x t y).2

theorem ack_any (b : Nat) (x : Snd.St) (t y : Int) (w : World) (h : SndAt w b x) :
    Calls Try.prog 12 #[.pointer (some ⟨b, 0, none⟩), .int .i64 t, .int .i64 y] w (AckPost b x t y w) := by
  have e0 : w.cell? ⟨b, 0, none⟩ = some (.int .i64 x.a) := h.cell 0
  have e1 : w.cell? ⟨b, 1, none⟩ = some (.int .i64 x.s) := h.cell 1
  have e2 : w.cell? ⟨b, 2, none⟩ = some (.int .i64 x.q) := h.cell 2
  have f0 := h.free 0
  have f1 := h.free 1
  have f2 := h.free 2
  by_cases c : t ≤ x.a ∨ y < t
  · have hf : Hid (AckPost b x t y w (.returned (.bool false)) w) := by
      unfold Hid AckPost
      rw [Snd.ack_no c]
      exact ⟨rfl, Kp.refl _ _, h⟩
    by_cases c1 : t ≤ x.a
    · clear c
      go_enter Try.func12, Try.ntmps12
      go_wp2
      go_ret
      exact hf.out
    · have c2 : y < t := by omega
      clear c
      go_enter Try.func12, Try.ntmps12
      go_wp2
      go_ret
      exact hf.out
  · have hf : Hid (∀ w', Kp (· = b) w w' → SndAt w' b ⟨t, if t > x.s then t else x.s, 0⟩ → AckPost b x t y w (.returned (.bool true)) w') := by
      intro w' k1 k2
      unfold AckPost
      rw [Snd.ack_yes c]
      exact ⟨rfl, k1, k2⟩
    have c1 : ¬ t ≤ x.a := by omega
    have c2 : ¬ y < t := by omega
    clear c
    have H := Lib.hid h
    clear h
    by_cases c3 : t > x.s
    · rw [if_pos c3] at hf
      go_enter Try.func12, Try.ntmps12
      go_wp2
      go_ret
      exact hf.out _ ((((Kp.refl _ _).set1 _ _).set1 _ _).set1 _ _) (((H.out.put 0 _).put 1 _).put 2 _)
    · rw [if_neg c3] at hf
      go_enter Try.func12, Try.ntmps12
      go_wp2
      go_ret
      exact hf.out _ ((((Kp.refl _ _).set1 _ _).set1 _ _).set1 _ _) (((H.out.put 0 _).put 1 _).put 2 _)

def Small (n : Int) : Prop := -2305843009213693952 ≤ n ∧ n ≤ 2305843009213693952

set_option maxHeartbeats 1600000 in
theorem ask_any (f t b y : Int) (P : Option Addr) (w : World) (h1 : Small f) (h2 : Small t) (h3 : Small b) (h4 : Small y) :
    Calls Try.prog 14 #[.pointer P, .int .i64 f, .int .i64 t, .int .i64 b, .int .i64 y] w fun e w' => e = .returned (.tuple #[.int .i64 (Snd.ask f t b y).1, .int .i64 (Snd.ask f t b y).2]) ∧ w = w' := by
  obtain ⟨l1, u1⟩ := h1; obtain ⟨l2, u2⟩ := h2; obtain ⟨l3, u3⟩ := h3; obtain ⟨l4, u4⟩ := h4
  unfold Snd.ask
  rcases Snd.lo_cases f b with ⟨a1, a2, e⟩ | ⟨a1, a2, e⟩ | ⟨a1, a2, e⟩ | ⟨a1, a2, e⟩ <;> rcases Snd.hi_cases t y with ⟨a3, e'⟩ | ⟨a3, e'⟩ <;> rw [e, e'] <;> clear e e'
  all_goals
    go_enter Try.func14, Try.ntmps14
    go_wp2
  all_goals go_ret2
  all_goals first
    | exact ⟨rfl, rfl⟩
    | (rw [if_pos (by omega)]; exact ⟨rfl, rfl⟩)
    | (rw [if_neg (by omega), if_pos (by omega)]; exact ⟨rfl, rfl⟩)
    | (rw [if_neg (by omega), if_neg (by omega)]; exact ⟨rfl, rfl⟩)
end Go.Proofs.Ytiddaacipjjggaa
