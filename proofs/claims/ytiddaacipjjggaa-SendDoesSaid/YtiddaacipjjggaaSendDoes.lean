/-
  The walk through SendDoes: it answers true.
-/
import Derived.Test.YtiddaacipjjggaaSendSynced
set_option linter.unusedVariables false
set_option linter.unusedSimpArgs false
namespace Go.Proofs.Ytiddaacipjjggaa
open Go.RowKit

theorem rtick_at (b : Nat) (x : Snd.St) (y f n a s q : Int) (hr : Snd.tick x y = ((f, n), ⟨a, s, q⟩)) (w : World) (h : RefAt w b x) (hx : x.ok) (h2 : -2305843009213693952 ≤ y) (h3 : y ≤ 2305843009213693952) :
    Calls Try.prog 11 #[.pointer (some ⟨b, 0, none⟩), .int .i64 y] w fun e w' => e = .returned (.tuple #[.int .i64 f, .int .i64 n]) ∧ Kp (· = b) w w' ∧ RefAt w' b ⟨a, s, q⟩ := by
  refine (rtick_any b x y w h hx h2 h3).mono fun e w' hp => ?_
  unfold RTickPost at hp
  rwa [hr] at hp

theorem rack_at (b : Nat) (x : Snd.St) (t y a s q : Int) (r : Bool) (hr : Snd.ack x t y = (r, ⟨a, s, q⟩)) (w : World) (h : RefAt w b x) :
    Calls Try.prog 13 #[.pointer (some ⟨b, 0, none⟩), .int .i64 t, .int .i64 y] w fun e w' => e = .returned (.bool r) ∧ Kp (· = b) w w' ∧ RefAt w' b ⟨a, s, q⟩ := by
  refine (rack_any b x t y w h).mono fun e w' hp => ?_
  unfold RAckPost at hp
  rwa [hr] at hp

theorem rask_at (P : Option Addr) (f t b y r n : Int) (hr : Snd.ask f t b y = (r, n)) (w : World) (h1 : Small f) (h2 : Small t) (h3 : Small b) (h4 : Small y) :
    Calls Try.prog 15 #[.pointer P, .int .i64 f, .int .i64 t, .int .i64 b, .int .i64 y] w fun e w' => e = .returned (.tuple #[.int .i64 r, .int .i64 n]) ∧ w = w' := by
  refine (rask_any f t b y P w h1 h2 h3 h4).mono fun e w' hp => ?_
  rwa [hr] at hp

theorem acked_q (b : Nat) (x : Snd.St) (w : World) (n : Nat) (h : SndAt w b x) :
    Calls Try.prog 16 #[.pointer (some ⟨b, 0, none⟩)] (w.drewN n) fun e w'' => e = .returned (.int .i64 x.a) ∧ ∃ m, w'' = w.drewN m :=
  (acked_any b x _ (h.drewN n)).mono fun _ _ ⟨he, hw⟩ => ⟨he, n, hw.symm⟩
theorem sent_q (b : Nat) (x : Snd.St) (w : World) (n : Nat) (h : SndAt w b x) :
    Calls Try.prog 17 #[.pointer (some ⟨b, 0, none⟩)] (w.drewN n) fun e w'' => e = .returned (.int .i64 x.s) ∧ ∃ m, w'' = w.drewN m :=
  (sent_any b x _ (h.drewN n)).mono fun _ _ ⟨he, hw⟩ => ⟨he, n, hw.symm⟩
theorem quiet_q (b : Nat) (x : Snd.St) (w : World) (n : Nat) (h : SndAt w b x) :
    Calls Try.prog 18 #[.pointer (some ⟨b, 0, none⟩)] (w.drewN n) fun e w'' => e = .returned (.int .i64 x.q) ∧ ∃ m, w'' = w.drewN m :=
  (quiet_any b x _ (h.drewN n)).mono fun _ _ ⟨he, hw⟩ => ⟨he, n, hw.symm⟩

theorem Kp.undrew {S : Nat → Prop} {w w' : World} (h : Kp S w.drew w') : Kp S w w' := ⟨h.os, h.tape, h.output, h.size, h.block⟩
theorem box_cells2 {wr w1 w3 : World} {g g' : Nat} {a : Act} (k3 : Kp (· = g) (wr.alloc (actBox a)) w3) (k : Kp (· = g') w3 w1) (hb : g < wr.heap.size) (hb' : g' < wr.heap.size) :
    w1.cell? ⟨wr.heap.size, 0, none⟩ = some (.int .i64 a.d) ∧ w1.cell? ⟨wr.heap.size, 1, none⟩ = some (.int .i64 a.f) ∧ w1.cell? ⟨wr.heap.size, 2, none⟩ = some (.int .i64 a.t) ∧
      w1.cell? ⟨wr.heap.size, 3, none⟩ = some (.int .i64 a.b) ∧ w1.cell? ⟨wr.heap.size, 4, none⟩ = some (.int .i64 a.y) := by
  have hbk : Bk w1 wr.heap.size 33 #[.int .i64 a.d, .int .i64 a.f, .int .i64 a.t, .int .i64 a.b, .int .i64 a.y] := ((Bk.new wr _ _).kp k3 (by omega)).kp k (by omega)
  exact ⟨hbk.cell 0, hbk.cell 1, hbk.cell 2, hbk.cell 3, hbk.cell 4⟩

/-- What the loop of SendDoes keeps: both senders stand alike. -/
structure Both (w wr : World) (g : Nat) (x : Snd.St) : Prop where
  below : Below w.heap.size w wr
  ok : x.ok
  snd : SndAt wr g x
  ref : RefAt wr (g + 1) x
  size : g + 1 < wr.heap.size
  old : w.heap.size ≤ g

theorem Both.box {w wr : World} {g : Nat} {x : Snd.St} (h : Both w wr g x) (o : Obj) : Both w (wr.alloc o) g x :=
  ⟨h.below.alloc h.below.size _, h.ok, h.snd.alloc _, h.ref.alloc _, by have := h.size; simp; omega, h.old⟩
theorem Both.drewN {w wr : World} {g : Nat} {x : Snd.St} (h : Both w wr g x) (n : Nat) : Both w (wr.drewN n) g x :=
  ⟨⟨h.below.os, h.below.tape, h.below.output, h.below.size, h.below.block⟩, h.ok, h.snd, h.ref, h.size, h.old⟩
/-- One after the other, each turned its own block. -/
theorem Both.step {w wr w3 w4 : World} {g : Nat} {x y : Snd.St} (h : Both w wr g x) (hy : y.ok) (k3 : Kp (· = g) wr w3) (s3 : SndAt w3 g y) (k4 : Kp (· = g + 1) w3 w4) (r4 : RefAt w4 (g + 1) y) : Both w w4 g y := by
  have ho := h.old
  have hs := h.size
  have h3 := k3.size
  have h4 := k4.size
  refine ⟨(h.below.trans (k3.below (B := w.heap.size) (fun i hi e => by omega) h.below.size)).trans (k4.below (B := w.heap.size) (fun i hi e => by omega) (Nat.le_trans h.below.size h3)), hy, s3.kp k4 (by omega), r4, by omega, ho⟩
theorem Both.step' {w wr w3 w4 : World} {g : Nat} {x y : Snd.St} (h : Both w wr g x) (hy : y.ok) (k3 : Kp (· = g + 1) wr w3) (r3 : RefAt w3 (g + 1) y) (k4 : Kp (· = g) w3 w4) (s4 : SndAt w4 g y) : Both w w4 g y := by
  have ho := h.old
  have hs := h.size
  have h3 := k3.size
  have h4 := k4.size
  refine ⟨(h.below.trans (k3.below (B := w.heap.size) (fun i hi e => by omega) h.below.size)).trans (k4.below (B := w.heap.size) (fun i hi e => by omega) (Nat.le_trans h.below.size h3)), hy, s4, r3.kp k4 (by omega), by omega, ho⟩

set_option maxRecDepth 100000 in
set_option maxHeartbeats 8000000 in
theorem does_any (ac : Int) (A : Option Addr) (c : Nat) (l : List Act) (w : World) (h : ActsAt w A l) (hl : l.length ≤ 9223372036854775807) :
    Calls Try.prog 3 #[.int .i64 ac, .slice A l.length c] w fun e w' => e = .returned (.bool true) ∧ Below w.heap.size w w' := by
  go_enter Try.func3, Try.ntmps3
  go_wp2_with (fail)
  refine (awake_any _).mono ?_
  rintro e w1 ⟨rfl, b1⟩
  go_wp2_with (fail)
  refine (large_any A c l _ (h.below b1) hl).mono ?_
  rintro e w2 ⟨r, rfl, b2, hr⟩
  have B2 : Below w.heap.size w w2 := b1.trans (b2.mono b1.size)
  cases r with
  | true =>
    go_wp2_with (fail)
    go_ret
    exact ⟨rfl, B2⟩
  | false =>
    obtain ⟨hn, hs⟩ := hr rfl
    have HA := Lib.hid h
    have HS := Lib.hid hs
    clear hs h hr b1 b2
    by_cases cb : ac < 0 ∨ 4611686018427387903 < ac
    · go_wp2_with (fail)
      refine (new_bad ac _ cb).mono ?_
      rintro e w' ⟨rfl, rfl⟩
      go_wp2_with (fail)
      refine (rnew_bad ac _ cb).mono ?_
      rintro e w' ⟨rfl, rfl⟩
      clear cb
      go_wp2_with (fail)
      go_ret
      exact ⟨rfl, B2⟩
    · have cb1 : ¬ ac < 0 := by omega
      have cb2 : ¬ 4611686018427387903 < ac := by omega
      clear cb
      go_wp2_with (fail)
      refine (new_good ac _ (by omega) (by omega)).mono ?_
      rintro e w0 ⟨rfl, rfl⟩
      go_wp2_with (fail)
      refine (rnew_good ac _ (by omega) (by omega)).mono ?_
      rintro e w0 ⟨rfl, rfl⟩
      have S0 : Hid (Both w ((w2.alloc (.cells #[.int .i64 ac, .int .i64 ac, .int .i64 0] 46)).alloc (.cells #[.int .i64 ac, .int .i64 ac, .int .i64 0] 40)) w2.heap.size ⟨ac, ac, 0⟩) :=
        ⟨(B2.alloc B2.size _).alloc (Nat.le_trans B2.size (by simp)) _, ⟨by dsimp only; omega, by dsimp only; omega, by dsimp only; omega, by dsimp only; omega, by dsimp only; omega, by dsimp only; omega⟩, (Bk.new _ _ _).alloc _, by
          have := Bk.new (w2.alloc (.cells #[.int .i64 ac, .int .i64 ac, .int .i64 0] 46)) 40 #[.int .i64 ac, .int .i64 ac, .int .i64 0]
          simpa [RefAt] using this, by simp, B2.size⟩
      clear B2
      go_wp2_with (fail)
      go_loopw [47] (fun i wr => ∃ (k : Nat) (x : Snd.St), k ≤ l.length ∧ i = .int .i64 k ∧ Both w wr w2.heap.size x) (fun i _ => l.length - (intOf i).toNat)
      case atStart => exact ⟨0, ⟨ac, ac, 0⟩, Nat.zero_le _, rfl, S0.out⟩
      case round =>
        obtain ⟨k, x, hk, rfl, hB⟩ := hrel
        have H := Lib.hid hB
        clear hB S0
        have hsz := H.out.size
        by_cases hlt : k < l.length
        · obtain ⟨b, o, e, hbl, c0, c1, c2, c3, c4⟩ := (HA.out.below H.out.below) k hlt
          have hsm := HS.out _ (List.getElem_mem hlt)
          subst e
          obtain ⟨⟨f1, f2⟩, ⟨t1, t2⟩, ⟨g1, g2⟩, ⟨y1, y2⟩⟩ := hsm
          generalize l[k] = a at *
          by_cases d0 : a.d = 0
          · have d1 : a.d ≤ 0 := by omega
            have d2 : 0 ≤ a.d := by omega
            clear d0
            rcases hT : Snd.tick x a.y with ⟨⟨f, n⟩, ⟨a', s', q'⟩⟩
            obtain ⟨ea, hok', hfn⟩ := Snd.tick_law H.out.ok a.y hT
            have HT := Lib.hid hT
            clear hT ea hfn
            go_wp2_with (fail)
            refine (tick_at w2.heap.size x a.y f n a' s' q' HT.out _ (H.out.snd.alloc _) H.out.ok y1 (by omega)).mono ?_
            rintro e w3 ⟨rfl, k3, h3⟩
            obtain ⟨b0, b1, b2, b3, b4⟩ := box_cells (a := a) k3 (by omega)
            go_wp2_with (fail)
            refine (rtick_at (w2.heap.size + 1) x a.y f n a' s' q' HT.out _ ((H.out.ref.alloc _).kp k3 (by omega)) H.out.ok y1 y2).mono ?_
            rintro e w4 ⟨rfl, k4, h4⟩
            have HB : Hid (Both w w4 w2.heap.size ⟨a', s', q'⟩) := (H.out.box _).step hok' k3 h3 k4 h4
            clear b0 b1 b2 b3 b4 k3 h3 k4 h4 H
            go_wp2_with (fail)
            have q0 : w4.cell? ⟨w2.heap.size + 1, 0, none⟩ = some (.int .i64 a') := HB.out.ref.cell 0
            have q1 : w4.cell? ⟨w2.heap.size + 1, 1, none⟩ = some (.int .i64 s') := HB.out.ref.cell 1
            have q2 : w4.cell? ⟨w2.heap.size + 1, 2, none⟩ = some (.int .i64 q') := HB.out.ref.cell 2
            go_quiet (first
              | (go_at_call 16; exact acked_q w2.heap.size ⟨a', s', q'⟩ _ _ HB.out.snd)
              | (go_at_call 17; exact sent_q w2.heap.size ⟨a', s', q'⟩ _ _ HB.out.snd)
              | (go_at_call 18; exact quiet_q w2.heap.size ⟨a', s', q'⟩ _ _ HB.out.snd))
            go_wp2_with (fail)
            go_roundw
            case rel => exact ⟨k + 1, ⟨a', s', q'⟩, by omega, by go_num, HB.out.drewN _⟩
            case measure => simp [intOf]; omega
          by_cases d1' : a.d = 1
          · have d1 : a.d ≤ 1 := by omega
            have d2 : 1 ≤ a.d := by omega
            clear d1' d0
            rcases hT : Snd.ack x a.t a.y with ⟨r, ⟨a', s', q'⟩⟩
            obtain ⟨ea, hok'⟩ := Snd.ack_law H.out.ok y2 hT
            have HT := Lib.hid hT
            clear hT ea
            have hne : w2.heap.size ≠ w2.heap.size + 1 := by omega
            have hne' : ¬ wr.heap.size = w2.heap.size := by omega
            have hne'' : ¬ wr.heap.size = w2.heap.size + 1 := by omega
            have hne3 : ¬ w2.heap.size + 1 = w2.heap.size := by omega
            go_wp2_with (fail)
            go_region_held3 (fun w' => w'.cell? ⟨wr.heap.size, 2, none⟩ = some (.int .i64 a.t) ∧ w'.cell? ⟨wr.heap.size, 4, none⟩ = some (.int .i64 a.y)) (go_keep)
              (first
                | (go_at_call 12; refine (ack_at w2.heap.size x a.t a.y a' s' q' r HT.out _ (H.out.snd.alloc _).drew).mono ?_; rintro e w3 ⟨rfl, k3, h3⟩; obtain ⟨p0, p1, p2, p3, p4⟩ := box_cells (a := a) k3.undrew (by omega); have r3 := ((H.out.ref.alloc (actBox a)).drew).kp k3 hne3)
                | (go_at_call 13; refine (rack_at (w2.heap.size + 1) x a.t a.y a' s' q' r HT.out _ (H.out.ref.alloc _).drew).mono ?_; rintro e w4 ⟨rfl, k4, h4⟩; obtain ⟨p0, p1, p2, p3, p4⟩ := box_cells (a := a) k4.undrew (by omega); have s4 := ((H.out.snd.alloc (actBox a)).drew).kp k4 hne)
                | (go_at_call 13; refine (rack_at (w2.heap.size + 1) x a.t a.y a' s' q' r HT.out _ r3).mono ?_; rintro e w5 ⟨rfl, k5, h5⟩; have HB : Hid (Both w w5 w2.heap.size ⟨a', s', q'⟩) := ((H.out.box (actBox a)).drewN 1).step hok' k3 h3 k5 h5; obtain ⟨p0, p1, p2, p3, p4⟩ := box_cells2 (a := a) k3.undrew k5 (by omega) (by omega))
                | (go_at_call 12; refine (ack_at w2.heap.size x a.t a.y a' s' q' r HT.out _ s4).mono ?_; rintro e w5 ⟨rfl, k5, h5⟩; have HB : Hid (Both w w5 w2.heap.size ⟨a', s', q'⟩) := ((H.out.box (actBox a)).drewN 1).step' hok' k4 h4 k5 h5; obtain ⟨p0, p1, p2, p3, p4⟩ := box_cells2 (a := a) k4.undrew k5 (by omega) (by omega)))
            clear p0 p1 p2 p3 p4 r3 k3 h3 k5 h5
            go_wp2_with (fail)
            have q0 : w5.cell? ⟨w2.heap.size + 1, 0, none⟩ = some (.int .i64 a') := HB.out.ref.cell 0
            have q1 : w5.cell? ⟨w2.heap.size + 1, 1, none⟩ = some (.int .i64 s') := HB.out.ref.cell 1
            have q2 : w5.cell? ⟨w2.heap.size + 1, 2, none⟩ = some (.int .i64 q') := HB.out.ref.cell 2
            go_quiet (first
              | (go_at_call 16; exact acked_q w2.heap.size ⟨a', s', q'⟩ _ _ HB.out.snd)
              | (go_at_call 17; exact sent_q w2.heap.size ⟨a', s', q'⟩ _ _ HB.out.snd)
              | (go_at_call 18; exact quiet_q w2.heap.size ⟨a', s', q'⟩ _ _ HB.out.snd))
            go_wp2_with (fail)
            go_roundw
            case rel => exact ⟨k + 1, ⟨a', s', q'⟩, by omega, by go_num, HB.out.drewN _⟩
            case measure => simp [intOf]; omega
          by_cases d2' : a.d = 2
          · have d1 : a.d ≤ 2 := by omega
            have d2 : 2 ≤ a.d := by omega
            clear d2' d1' d0
            rcases hT : Snd.ask a.f a.t a.b a.y with ⟨f, n⟩
            have HT := Lib.hid hT
            clear hT
            go_wp2_with (fail)
            refine (ask_at _ a.f a.t a.b a.y _ _ HT.out _ ⟨f1, f2⟩ ⟨t1, t2⟩ ⟨g1, g2⟩ ⟨y1, y2⟩).mono ?_
            rintro e w' ⟨rfl, rfl⟩
            go_wp2_with (fail)
            refine (rask_at _ a.f a.t a.b a.y _ _ HT.out _ ⟨f1, f2⟩ ⟨t1, t2⟩ ⟨g1, g2⟩ ⟨y1, y2⟩).mono ?_
            rintro e w' ⟨rfl, rfl⟩
            go_wp2_with (fail)
            have q0 : wr.cell? ⟨w2.heap.size + 1, 0, none⟩ = some (.int .i64 x.a) := H.out.ref.cell 0
            have q1 : wr.cell? ⟨w2.heap.size + 1, 1, none⟩ = some (.int .i64 x.s) := H.out.ref.cell 1
            have q2 : wr.cell? ⟨w2.heap.size + 1, 2, none⟩ = some (.int .i64 x.q) := H.out.ref.cell 2
            go_quiet (first
              | (go_at_call 16; exact acked_q w2.heap.size x _ _ (H.out.snd.alloc _))
              | (go_at_call 17; exact sent_q w2.heap.size x _ _ (H.out.snd.alloc _))
              | (go_at_call 18; exact quiet_q w2.heap.size x _ _ (H.out.snd.alloc _)))
            go_wp2_with (fail)
            go_roundw
            case rel => exact ⟨k + 1, x, by omega, by go_num, (H.out.box _).drewN _⟩
            case measure => simp [intOf]; omega
          · have e0 : (a.d == 0) = false := by simp; omega
            have e1 : (a.d == 1) = false := by simp; omega
            have e2 : (a.d == 2) = false := by simp; omega
            clear d2' d1' d0
            go_wp2_with (fail)
            have q0 : wr.cell? ⟨w2.heap.size + 1, 0, none⟩ = some (.int .i64 x.a) := H.out.ref.cell 0
            have q1 : wr.cell? ⟨w2.heap.size + 1, 1, none⟩ = some (.int .i64 x.s) := H.out.ref.cell 1
            have q2 : wr.cell? ⟨w2.heap.size + 1, 2, none⟩ = some (.int .i64 x.q) := H.out.ref.cell 2
            go_quiet (first
              | (go_at_call 16; exact acked_q w2.heap.size x _ _ (H.out.snd.alloc _))
              | (go_at_call 17; exact sent_q w2.heap.size x _ _ (H.out.snd.alloc _))
              | (go_at_call 18; exact quiet_q w2.heap.size x _ _ (H.out.snd.alloc _)))
            go_wp2_with (fail)
            go_roundw
            case rel => exact ⟨k + 1, x, by omega, by go_num, (H.out.box _).drewN _⟩
            case measure => simp [intOf]; omega
        · go_wp2_with (fail)
          go_ret
          exact ⟨rfl, H.out.below⟩
end Go.Proofs.Ytiddaacipjjggaa
