/-
  The law's own: 'awake' answers true.
-/
import Derived.Test.YtiddaacipjjggaaSendLarge
set_option linter.unusedVariables false
set_option linter.unusedSimpArgs false
namespace Go.Proofs.Ytiddaacipjjggaa
open Go.RowKit

theorem Kp.below_new {w w' : World} {o : Obj} (h : Kp (· = w.heap.size) (w.alloc o) w') : Below w.heap.size w w' :=
  (((Below.refl w.heap.size w).alloc (Nat.le_refl _) o).trans (h.below (B := w.heap.size) (fun k hk e => by omega) (by simp)))

/-- Tick, its answer written out. -/
theorem tick_at (b : Nat) (x : Snd.St) (y f n a s q : Int) (hr : Snd.tick x y = ((f, n), ⟨a, s, q⟩)) (w : World) (h : SndAt w b x) (hx : x.ok) (h2 : -2305843009213693952 ≤ y) (h3 : y ≤ 4611686018427387903) :
    Calls Try.prog 10 #[.pointer (some ⟨b, 0, none⟩), .int .i64 y] w fun e w' => e = .returned (.tuple #[.int .i64 f, .int .i64 n]) ∧ Kp (· = b) w w' ∧ SndAt w' b ⟨a, s, q⟩ := by
  refine (tick_any b x y w h hx h2 h3).mono fun e w' hp => ?_
  unfold TickPost at hp
  rwa [hr] at hp

theorem ack_at (b : Nat) (x : Snd.St) (t y a s q : Int) (r : Bool) (hr : Snd.ack x t y = (r, ⟨a, s, q⟩)) (w : World) (h : SndAt w b x) :
    Calls Try.prog 12 #[.pointer (some ⟨b, 0, none⟩), .int .i64 t, .int .i64 y] w fun e w' => e = .returned (.bool r) ∧ Kp (· = b) w w' ∧ SndAt w' b ⟨a, s, q⟩ := by
  refine (ack_any b x t y w h).mono fun e w' hp => ?_
  unfold AckPost at hp
  rwa [hr] at hp

theorem ask_at (P : Option Addr) (f t b y r n : Int) (hr : Snd.ask f t b y = (r, n)) (w : World) (h1 : Small f) (h2 : Small t) (h3 : Small b) (h4 : Small y) :
    Calls Try.prog 14 #[.pointer P, .int .i64 f, .int .i64 t, .int .i64 b, .int .i64 y] w fun e w' => e = .returned (.tuple #[.int .i64 r, .int .i64 n]) ∧ w = w' := by
  refine (ask_any f t b y P w h1 h2 h3 h4).mono fun e w' hp => ?_
  rwa [hr] at hp

set_option maxRecDepth 100000 in
set_option maxHeartbeats 4000000 in
theorem awake_any (w : World) : Calls Try.prog 6 #[] w fun e w' => e = .returned (.bool true) ∧ Below w.heap.size w w' := by
  go_enter Try.func6, Try.ntmps6
  go_wp2_with (fail)
  refine (new_good 0 _ (by decide) (by decide)).mono ?_
  rintro e w0 ⟨rfl, rfl⟩
  have h0 : SndAt (w.alloc (.cells #[.int .i64 0, .int .i64 0, .int .i64 0] 46)) w.heap.size ⟨0, 0, 0⟩ := Bk.new _ _ _
  have k0 : Kp (· = w.heap.size) (w.alloc (.cells #[.int .i64 0, .int .i64 0, .int .i64 0] 46)) (w.alloc (.cells #[.int .i64 0, .int .i64 0, .int .i64 0] 46)) := Kp.refl _ _
  have H0 := Lib.hid h0
  have K0 := Lib.hid k0
  clear h0 k0
  go_wp2_with (fail)
  refine (new_bad (-1) _ (.inl (by decide))).mono ?_
  rintro e w' ⟨rfl, rfl⟩
  go_wp2_with (fail)
  refine (tick_at w.heap.size ⟨0, 0, 0⟩ 6 1 4 0 4 0 (by rfl) _ H0.out ⟨by decide, by decide, by decide, by decide, by decide, by decide⟩ (by decide) (by decide)).mono ?_
  rintro e w1 ⟨rfl, k1, h1⟩
  have H1 := Lib.hid h1
  have K1 := Lib.hid (K0.out.tr k1)
  clear h1 k1 H0 K0
  go_wp2_with (fail)
  refine (tick_at w.heap.size ⟨0, 4, 0⟩ 6 5 2 0 6 0 (by rfl) _ H1.out ⟨by decide, by decide, by decide, by decide, by decide, by decide⟩ (by decide) (by decide)).mono ?_
  rintro e w2 ⟨rfl, k2, h2⟩
  have H2 := Lib.hid h2
  have K2 := Lib.hid (K1.out.tr k2)
  clear h2 k2 H1 K1
  go_wp2_with (fail)
  refine wp_loop_rounds 4 ?_
  rw [rounds_succ]
  go_wp2_with (fail)
  refine (tick_at w.heap.size ⟨0, 6, 0⟩ 6 0 0 0 6 1 (by rfl) _ H2.out ⟨by decide, by decide, by decide, by decide, by decide, by decide⟩ (by decide) (by decide)).mono ?_
  rintro e w3 ⟨rfl, k3, h3⟩
  have H3 := Lib.hid h3
  have K3 := Lib.hid (K2.out.tr k3)
  clear h3 k3 H2 K2
  go_wp2_with (fail)
  rw [rounds_succ]
  go_wp2_with (fail)
  refine (tick_at w.heap.size ⟨0, 6, 1⟩ 6 0 0 0 6 2 (by rfl) _ H3.out ⟨by decide, by decide, by decide, by decide, by decide, by decide⟩ (by decide) (by decide)).mono ?_
  rintro e w4 ⟨rfl, k4, h4⟩
  have H4 := Lib.hid h4
  have K4 := Lib.hid (K3.out.tr k4)
  clear h4 k4 H3 K3
  go_wp2_with (fail)
  rw [rounds_succ]
  go_wp2_with (fail)
  refine (tick_at w.heap.size ⟨0, 6, 2⟩ 6 0 0 0 6 3 (by rfl) _ H4.out ⟨by decide, by decide, by decide, by decide, by decide, by decide⟩ (by decide) (by decide)).mono ?_
  rintro e w5 ⟨rfl, k5, h5⟩
  have H5 := Lib.hid h5
  have K5 := Lib.hid (K4.out.tr k5)
  clear h5 k5 H4 K4
  go_wp2_with (fail)
  rw [rounds_succ]
  go_wp2_with (fail)
  refine (quiet_any w.heap.size ⟨0, 6, 3⟩ _ H5.out).mono ?_
  rintro e w' ⟨rfl, rfl⟩
  go_wp2_with (fail)
  refine (tick_at w.heap.size ⟨0, 6, 3⟩ 6 1 4 0 6 0 (by rfl) _ H5.out ⟨by decide, by decide, by decide, by decide, by decide, by decide⟩ (by decide) (by decide)).mono ?_
  rintro e w6 ⟨rfl, k6, h6⟩
  have H6 := Lib.hid h6
  have K6 := Lib.hid (K5.out.tr k6)
  clear h6 k6 H5 K5
  go_wp2_with (fail)
  refine (ask_at _ 2 9 2 6 3 4 (by rfl) _ ⟨by decide, by decide⟩ ⟨by decide, by decide⟩ ⟨by decide, by decide⟩ ⟨by decide, by decide⟩).mono ?_
  rintro e w' ⟨rfl, rfl⟩
  go_wp2_with (fail)
  refine (ask_at _ 7 9 2 6 0 0 (by rfl) _ ⟨by decide, by decide⟩ ⟨by decide, by decide⟩ ⟨by decide, by decide⟩ ⟨by decide, by decide⟩).mono ?_
  rintro e w' ⟨rfl, rfl⟩
  go_wp2_with (fail)
  refine (ack_at w.heap.size ⟨0, 6, 0⟩ 7 6 0 6 0 false (by rfl) _ H6.out).mono ?_
  rintro e w7 ⟨rfl, k7, h7⟩
  have H7 := Lib.hid h7
  have K7 := Lib.hid (K6.out.tr k7)
  clear h7 k7 H6 K6
  go_wp2_with (fail)
  refine (ack_at w.heap.size ⟨0, 6, 0⟩ 4 6 4 6 0 true (by rfl) _ H7.out).mono ?_
  rintro e w8 ⟨rfl, k8, h8⟩
  have H8 := Lib.hid h8
  have K8 := Lib.hid (K7.out.tr k8)
  clear h8 k8 H7 K7
  go_wp2_with (fail)
  refine (ack_at w.heap.size ⟨4, 6, 0⟩ 4 6 4 6 0 false (by rfl) _ H8.out).mono ?_
  rintro e w9 ⟨rfl, k9, h9⟩
  have H9 := Lib.hid h9
  have K9 := Lib.hid (K8.out.tr k9)
  clear h9 k9 H8 K8
  go_wp2_with (fail)
  refine (tick_at w.heap.size ⟨4, 6, 0⟩ 13 7 4 4 10 0 (by rfl) _ H9.out ⟨by decide, by decide, by decide, by decide, by decide, by decide⟩ (by decide) (by decide)).mono ?_
  rintro e w10 ⟨rfl, k10, h10⟩
  have H10 := Lib.hid h10
  have K10 := Lib.hid (K9.out.tr k10)
  clear h10 k10 H9 K9
  go_wp2_with (fail)
  refine (sent_any w.heap.size ⟨4, 10, 0⟩ _ H10.out).mono ?_
  rintro e w' ⟨rfl, rfl⟩
  go_wp2_with (fail)
  refine (acked_any w.heap.size ⟨4, 10, 0⟩ _ H10.out).mono ?_
  rintro e w' ⟨rfl, rfl⟩
  go_wp2_with (fail)
  go_ret
  exact ⟨rfl, K10.out.below_new⟩
end Go.Proofs.Ytiddaacipjjggaa
