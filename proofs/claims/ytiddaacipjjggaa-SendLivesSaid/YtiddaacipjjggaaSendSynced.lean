/-
  The walk through SendSynced: it answers true.
-/
import Derived.Test.YtiddaacipjjggaaSendAwake
set_option linter.unusedVariables false
set_option linter.unusedSimpArgs false
namespace Go.Proofs.Ytiddaacipjjggaa
open Go.RowKit

/-- The box that holds an act. -/
abbrev actBox (a : Act) : Obj := .cells #[.int .i64 a.d, .int .i64 a.f, .int .i64 a.t, .int .i64 a.b, .int .i64 a.y] 33

theorem Kp.below_of {w w1 w2 : World} {B g : Nat} (hb : Below B w w1) (hB : B ≤ w1.heap.size) (k : Kp (· = g) w1 w2) (hg : B ≤ g) : Below B w w2 :=
  hb.trans (k.below (B := B) (fun i hi e => by omega) hB)

theorem box_cells {wr w1 : World} {bS : Nat} {a : Act} (k : Kp (· = bS) (wr.alloc (actBox a)) w1) (hb : bS < wr.heap.size) :
    w1.cell? ⟨wr.heap.size, 0, none⟩ = some (.int .i64 a.d) ∧ w1.cell? ⟨wr.heap.size, 1, none⟩ = some (.int .i64 a.f) ∧ w1.cell? ⟨wr.heap.size, 2, none⟩ = some (.int .i64 a.t) ∧
      w1.cell? ⟨wr.heap.size, 3, none⟩ = some (.int .i64 a.b) ∧ w1.cell? ⟨wr.heap.size, 4, none⟩ = some (.int .i64 a.y) := by
  have hbk : Bk w1 wr.heap.size 33 #[.int .i64 a.d, .int .i64 a.f, .int .i64 a.t, .int .i64 a.b, .int .i64 a.y] := (Bk.new wr _ _).kp k (by omega)
  exact ⟨hbk.cell 0, hbk.cell 1, hbk.cell 2, hbk.cell 3, hbk.cell 4⟩

set_option maxRecDepth 100000 in
set_option maxHeartbeats 8000000 in
theorem synced_any (A : Option Addr) (c : Nat) (l : List Act) (w : World) (h : ActsAt w A l) (hl : l.length ≤ 9223372036854775807) :
    Calls Try.prog 4 #[.slice A l.length c] w fun e w' => e = .returned (.bool true) ∧ Below w.heap.size w w' := by
  go_enter Try.func4, Try.ntmps4
  go_wp2_with (fail)
  refine (awake_any _).mono ?_
  rintro e w1 ⟨rfl, b1⟩
  go_wp2_with (fail)
  refine (large_any A c l _ (h.below b1) hl).mono ?_
  rintro e w2 ⟨r, rfl, b2, hr⟩
  have B2 : Below w.heap.size w w2 := b1.trans (b2.mono b1.size)
  cases r with
  | true =>
    go_wp2_with (fail)
    go_ret
    exact ⟨rfl, B2⟩
  | false =>
    obtain ⟨hn, hs⟩ := hr rfl
    have HA := Lib.hid h
    have HS := Lib.hid hs
    clear hs h hr b1 b2
    go_wp2_with (fail)
    refine (new_good 0 _ (by decide) (by decide)).mono ?_
    rintro e w0 ⟨rfl, rfl⟩
    have B3 : Below w.heap.size w (w2.alloc (.cells #[.int .i64 0, .int .i64 0, .int .i64 0] 46)) := B2.alloc B2.size _
    have S0 : Hid (SndAt (w2.alloc (.cells #[.int .i64 0, .int .i64 0, .int .i64 0] 46)) w2.heap.size ⟨0, 0, 0⟩) := Bk.new _ _ _
    have hw2 := B2.size
    clear B2
    go_wp2_with (fail)
    go_loopw [22] (fun i wr => ∃ (k : Nat) (x : Snd.St), k ≤ l.length ∧ i = .int .i64 k ∧ Below w.heap.size w wr ∧ x.ok ∧ SndAt wr w2.heap.size x ∧ w2.heap.size < wr.heap.size) (fun i _ => l.length - (intOf i).toNat)
    case atStart => exact ⟨0, ⟨0, 0, 0⟩, Nat.zero_le _, rfl, B3, ⟨by decide, by decide, by decide, by decide, by decide, by decide⟩, S0.out, by simp⟩
    case round =>
      obtain ⟨k, x, hk, rfl, hb, hx, hsnd, hlt2⟩ := hrel
      have H := Lib.hid hsnd
      have HX := Lib.hid hx
      clear hsnd hx S0 B3
      by_cases hlt : k < l.length
      · obtain ⟨b, o, e, hbl, c0, c1, c2, c3, c4⟩ := (HA.out.below hb) k hlt
        have hsm := HS.out _ (List.getElem_mem hlt)
        subst e
        obtain ⟨⟨f1, f2⟩, ⟨t1, t2⟩, ⟨g1, g2⟩, ⟨y1, y2⟩⟩ := hsm
        generalize l[k] = a at *
        by_cases d0 : a.d = 0
        · have d1 : a.d ≤ 0 := by omega
          have d2 : 0 ≤ a.d := by omega
          clear d0
          rcases hT : Snd.tick x a.y with ⟨⟨f, n⟩, ⟨a', s', q'⟩⟩
          obtain ⟨ea, hok', hfn⟩ := Snd.tick_law HX.out a.y hT
          have HT := Lib.hid hT
          clear hT
          have ea1 : a' ≤ x.a := by omega
          have ea2 : x.a ≤ a' := by omega
          clear ea
          go_wp2_with (fail)
          refine (acked_any w2.heap.size x _ (H.out.alloc _)).mono ?_
          rintro e w' ⟨rfl, rfl⟩
          go_wp2_with (fail)
          refine (tick_at w2.heap.size x a.y f n a' s' q' HT.out _ (H.out.alloc _) HX.out y1 (by omega)).mono ?_
          rintro e w3 ⟨rfl, k3, h3⟩
          obtain ⟨b0, b1, b2, b3, b4⟩ := box_cells (a := a) k3 hlt2
          have hok2 := Lib.hid hok'
          obtain ⟨o1, o2, o3, o4, o5, o6⟩ := hok'
          have H3 := Lib.hid h3
          clear h3
          rcases hfn with ⟨rfl, rfl⟩ | ⟨p1, p2, p3, p4, p5⟩
          · go_wp2_with (fail)
            refine (acked_any w2.heap.size ⟨a', s', q'⟩ _ H3.out).mono ?_
            rintro e w' ⟨rfl, rfl⟩
            go_wp2_with (fail)
            refine (sent_any w2.heap.size ⟨a', s', q'⟩ _ H3.out).mono ?_
            rintro e w' ⟨rfl, rfl⟩
            go_wp2_with (fail)
            refine (acked_any w2.heap.size ⟨a', s', q'⟩ _ H3.out).mono ?_
            rintro e w' ⟨rfl, rfl⟩
            go_wp2_with (fail)
            go_roundw
            case rel => exact ⟨k + 1, ⟨a', s', q'⟩, by omega, by go_num, Kp.below_of (hb.alloc hb.size _) (Nat.le_trans hb.size (by simp)) k3 hw2, hok2.out, H3.out, Nat.lt_of_lt_of_le hlt2 (Nat.le_trans (by simp) k3.size)⟩
            case measure => simp [intOf]; omega
          · go_wp2_with (fail)
            refine (acked_any w2.heap.size ⟨a', s', q'⟩ _ H3.out).mono ?_
            rintro e w' ⟨rfl, rfl⟩
            go_wp2_with (fail)
            refine (sent_any w2.heap.size ⟨a', s', q'⟩ _ H3.out).mono ?_
            rintro e w' ⟨rfl, rfl⟩
            go_wp2_with (fail)
            refine (acked_any w2.heap.size ⟨a', s', q'⟩ _ H3.out).mono ?_
            rintro e w' ⟨rfl, rfl⟩
            go_wp2_with (fail)
            go_roundw
            case rel => exact ⟨k + 1, ⟨a', s', q'⟩, by omega, by go_num, Kp.below_of (hb.alloc hb.size _) (Nat.le_trans hb.size (by simp)) k3 hw2, hok2.out, H3.out, Nat.lt_of_lt_of_le hlt2 (Nat.le_trans (by simp) k3.size)⟩
            case measure => simp [intOf]; omega
        by_cases d0 : a.d = 1
        · have d1 : a.d ≤ 1 := by omega
          have d2 : 1 ≤ a.d := by omega
          clear d0
          rcases hT : Snd.ack x a.t a.y with ⟨r, ⟨a', s', q'⟩⟩
          obtain ⟨ea, hok'⟩ := Snd.ack_law HX.out y2 hT
          have HT := Lib.hid hT
          clear hT
          go_wp2_with (fail)
          refine (acked_any w2.heap.size x _ (H.out.alloc _)).mono ?_
          rintro e w' ⟨rfl, rfl⟩
          go_wp2_with (fail)
          refine (ack_at w2.heap.size x a.t a.y a' s' q' r HT.out _ (H.out.alloc _)).mono ?_
          rintro e w3 ⟨rfl, k3, h3⟩
          obtain ⟨b0, b1, b2, b3, b4⟩ := box_cells (a := a) k3 hlt2
          have hok2 := Lib.hid hok'
          obtain ⟨o1, o2, o3, o4, o5, o6⟩ := hok'
          have H3 := Lib.hid h3
          clear h3
          go_wp2_with (fail)
          refine (acked_any w2.heap.size ⟨a', s', q'⟩ _ H3.out).mono ?_
          rintro e w' ⟨rfl, rfl⟩
          go_wp2_with (fail)
          refine (sent_any w2.heap.size ⟨a', s', q'⟩ _ H3.out).mono ?_
          rintro e w' ⟨rfl, rfl⟩
          go_wp2_with (fail)
          refine (acked_any w2.heap.size ⟨a', s', q'⟩ _ H3.out).mono ?_
          rintro e w' ⟨rfl, rfl⟩
          go_wp2_with (fail)
          go_roundw
          case rel => exact ⟨k + 1, ⟨a', s', q'⟩, by omega, by go_num, Kp.below_of (hb.alloc hb.size _) (Nat.le_trans hb.size (by simp)) k3 hw2, hok2.out, H3.out, Nat.lt_of_lt_of_le hlt2 (Nat.le_trans (by simp) k3.size)⟩
          case measure => simp [intOf]; omega
        have hx2 := Lib.hid HX.out
        obtain ⟨o1, o2, o3, o4, o5, o6⟩ := HX.out
        by_cases d0 : a.d = 2
        · have d1 : a.d ≤ 2 := by omega
          have d2 : 2 ≤ a.d := by omega
          clear d0
          rcases hT : Snd.ask a.f a.t a.b a.y with ⟨f, n⟩
          have hfn := Snd.ask_law hT
          have HT := Lib.hid hT
          clear hT
          rcases hfn with ⟨rfl, rfl⟩ | ⟨p0, p1, p2, p3, p4, p5, p6⟩
          all_goals
            go_wp2_with (fail)
            refine (acked_any w2.heap.size x _ (H.out.alloc _)).mono ?_
            rintro e w' ⟨rfl, rfl⟩
            go_wp2_with (fail)
            refine (ask_at _ a.f a.t a.b a.y _ _ HT.out _ ⟨f1, f2⟩ ⟨t1, t2⟩ ⟨g1, g2⟩ ⟨y1, y2⟩).mono ?_
            rintro e w' ⟨rfl, rfl⟩
            go_wp2_with (fail)
            refine (acked_any w2.heap.size x _ (H.out.alloc _)).mono ?_
            rintro e w' ⟨rfl, rfl⟩
            go_wp2_with (fail)
            refine (sent_any w2.heap.size x _ (H.out.alloc _)).mono ?_
            rintro e w' ⟨rfl, rfl⟩
            go_wp2_with (fail)
            refine (acked_any w2.heap.size x _ (H.out.alloc _)).mono ?_
            rintro e w' ⟨rfl, rfl⟩
            go_wp2_with (fail)
            go_roundw
            case rel => exact ⟨k + 1, x, by omega, by go_num, hb.alloc hb.size _, HX.out, H.out.alloc _, by simp; omega⟩
            case measure => simp [intOf]; omega
        · have e0 : (a.d == 0) = false := by simp; omega
          have e1 : (a.d == 1) = false := by simp; omega
          have e2 : (a.d == 2) = false := by simp; omega
          go_wp2_with (fail)
          refine (acked_any w2.heap.size x _ (H.out.alloc _)).mono ?_
          rintro e w' ⟨rfl, rfl⟩
          go_wp2_with (fail)
          refine (acked_any w2.heap.size x _ (H.out.alloc _)).mono ?_
          rintro e w' ⟨rfl, rfl⟩
          go_wp2_with (fail)
          refine (sent_any w2.heap.size x _ (H.out.alloc _)).mono ?_
          rintro e w' ⟨rfl, rfl⟩
          go_wp2_with (fail)
          refine (acked_any w2.heap.size x _ (H.out.alloc _)).mono ?_
          rintro e w' ⟨rfl, rfl⟩
          go_wp2_with (fail)
          go_roundw
          case rel => exact ⟨k + 1, x, by omega, by go_num, hb.alloc hb.size _, HX.out, H.out.alloc _, by simp; omega⟩
          case measure => simp [intOf]; omega
      · go_wp2_with (fail)
        go_ret
        exact ⟨rfl, hb⟩
end Go.Proofs.Ytiddaacipjjggaa
