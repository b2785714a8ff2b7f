/-
  The walk through SendLives: it answers true.
-/
import Derived.Test.YtiddaacipjjggaaSendSynced
set_option linter.unusedVariables false
set_option linter.unusedSimpArgs false
namespace Go.Proofs.Ytiddaacipjjggaa
open Go.RowKit

namespace Snd
/-- So many ticks at most, and the number behind Acked is sent. -/
def pot (x : St) (y : Int) : Int := if x.s < wend x y then (wend x y - x.s + 3) / 4 + 4 else 4 - x.q

theorem ack_le {x : St} {t y : Int} (hx : x.a ≤ 2305843009213693952) (ht : t ≤ 2305843009213693952) {r : Bool} {a s q : Int} (hr : ack x t y = (r, ⟨a, s, q⟩)) : a ≤ 2305843009213693952 := by
  by_cases c : t ≤ x.a ∨ y < t
  · rw [ack_no c] at hr; injection hr with _ e; rw [e] at hx; exact hx
  · rw [ack_yes c] at hr; injection hr with _ e; injection e with e _ _; omega
theorem wend_up {x : St} {y : Int} (h : x.a < y) : x.a < wend x y := by unfold wend; split <;> omega

theorem pot_pos {x : St} (hx : x.ok) (y : Int) : 1 ≤ pot x y := by
  obtain ⟨h1, h2, h3, h4, h5, h6⟩ := hx
  unfold pot
  split <;> omega

theorem pot_le {x : St} (hx : x.ok) (y : Int) : pot x y ≤ 6 := by
  obtain ⟨h1, h2, h3, h4, h5, h6⟩ := hx
  have hw := wend_le x y
  unfold pot
  split <;> omega

theorem lives_law {x : St} (hx : x.ok) {y : Int} (hy : x.a < y) {f n a s q : Int} (hr : tick x y = ((f, n), ⟨a, s, q⟩)) :
    (0 < n ∧ f = x.a + 1) ∨ ((n = 0 ∨ (0 < n ∧ f ≠ x.a + 1)) ∧ pot ⟨a, s, q⟩ y + 1 ≤ pot x y) := by
  have hw := wend_le x y
  have hu := wend_up hy
  have hx' := hx
  obtain ⟨h1, h2, h3, h4, h5, h6⟩ := hx
  have c1 : ¬ y ≤ x.a := by omega
  by_cases c2 : x.s < wend x y
  · rw [tick_new c1 c2] at hr
    injection hr with e1 e2
    injection e2 with ea es eq
    have hp := part_new c2
    rw [e1] at hp es
    dsimp only at hp es
    have hn : n = if 4 < wend x y - x.s then 4 else wend x y - x.s := by
      by_cases c : 4 < wend x y - x.s
      · rw [part_four c2 c] at e1; injection e1 with _ e; rw [if_pos c]; exact e.symm
      · rw [part_all c2 (by omega)] at e1; injection e1 with _ e; rw [if_neg c]; exact e.symm
    by_cases c3 : x.s = x.a
    · left; split at hn <;> omega
    · right
      have hwe : wend ⟨a, s, q⟩ y = wend x y := by unfold wend; dsimp only; rw [ea]
      refine ⟨.inr ⟨by split at hn <;> omega, by omega⟩, ?_⟩
      unfold pot
      rw [hwe, if_pos c2]
      dsimp only
      split at hn <;> split <;> omega
  · by_cases c3 : x.q + 1 = 4
    · rw [tick_again c1 c2 c3] at hr
      injection hr with e1 e2
      have hp := part_new hu
      rcases part_law (b := x.a) (t := wend x y) with h | ⟨g1, g2, _, _⟩
      · rw [h] at hp; dsimp only at hp; omega
      · rw [e1] at g1 g2; left; exact ⟨g2, g1⟩
    · rw [tick_still c1 c2 c3] at hr
      injection hr with e1 e2
      injection e2 with ea es eq
      injection e1 with ef en
      right
      have hwe : wend ⟨a, s, q⟩ y = wend x y := by unfold wend; dsimp only; rw [ea]
      refine ⟨.inl en.symm, ?_⟩
      unfold pot
      rw [hwe, if_neg c2]
      dsimp only
      rw [if_neg (by omega)]
      omega
end Snd

set_option maxRecDepth 100000 in
set_option maxHeartbeats 8000000 in
theorem lives_any (A : Option Addr) (c : Nat) (l : List Act) (mo : Int) (w : World) (h : ActsAt w A l) (hl : l.length ≤ 9223372036854775807) (m0 : 0 ≤ mo) (m1 : mo ≤ 255) :
    Calls Try.prog 5 #[.slice A l.length c, .int .u8 mo] w fun e w' => e = .returned (.bool true) ∧ Below w.heap.size w w' := by
  go_enter Try.func5, Try.ntmps5
  go_wp2_with (fail)
  refine (awake_any _).mono ?_
  rintro e w1 ⟨rfl, b1⟩
  go_wp2_with (fail)
  refine (large_any A c l _ (h.below b1) hl).mono ?_
  rintro e w2 ⟨r, rfl, b2, hr⟩
  have B2 : Below w.heap.size w w2 := b1.trans (b2.mono b1.size)
  cases r with
  | true =>
    go_wp2_with (fail)
    go_ret
    exact ⟨rfl, B2⟩
  | false =>
    obtain ⟨hn, hs⟩ := hr rfl
    have HA := Lib.hid h
    have HS := Lib.hid hs
    clear hs h hr b1 b2
    go_wp2_with (fail)
    refine (new_good 0 _ (by decide) (by decide)).mono ?_
    rintro e w0 ⟨rfl, rfl⟩
    have B3 : Below w.heap.size w (w2.alloc (.cells #[.int .i64 0, .int .i64 0, .int .i64 0] 46)) := B2.alloc B2.size _
    have S0 : Hid (SndAt (w2.alloc (.cells #[.int .i64 0, .int .i64 0, .int .i64 0] 46)) w2.heap.size ⟨0, 0, 0⟩) := Bk.new _ _ _
    have hw2 := B2.size
    clear B2
    go_wp2_with (fail)
    go_loopw [24] (fun i wr => ∃ (k : Nat) (x : Snd.St), k ≤ l.length ∧ i = .int .i64 k ∧ Below w.heap.size w wr ∧ x.ok ∧ x.a ≤ 2305843009213693952 ∧ SndAt wr w2.heap.size x ∧ w2.heap.size < wr.heap.size) (fun i _ => l.length - (intOf i).toNat)
    case atStart => exact ⟨0, ⟨0, 0, 0⟩, Nat.zero_le _, rfl, B3, ⟨by decide, by decide, by decide, by decide, by decide, by decide⟩, by decide, S0.out, by simp⟩
    case round =>
      obtain ⟨k, x, hk, rfl, hb, hx, hxa, hsnd, hlt2⟩ := hrel
      have H := Lib.hid hsnd
      have HX := Lib.hid hx
      clear hsnd hx S0 B3
      by_cases hlt : k < l.length
      · obtain ⟨b, o, e, hbl, c0, c1, c2, c3, c4⟩ := (HA.out.below hb) k hlt
        have hsm := HS.out _ (List.getElem_mem hlt)
        subst e
        obtain ⟨⟨f1, f2⟩, ⟨t1, t2⟩, ⟨g1, g2⟩, ⟨y1, y2⟩⟩ := hsm
        generalize l[k] = a at *
        by_cases d0 : a.d = 0
        · have d1 : a.d ≤ 0 := by omega
          have d2 : 0 ≤ a.d := by omega
          clear d0
          rcases hT : Snd.tick x a.y with ⟨⟨f, n⟩, ⟨a', s', q'⟩⟩
          obtain ⟨ea, hok', hfn⟩ := Snd.tick_law HX.out a.y hT
          have HT := Lib.hid hT
          clear hT hfn
          have ea1 : a' ≤ 2305843009213693952 := by omega
          clear ea
          go_wp2_with (fail)
          refine (tick_at w2.heap.size x a.y f n a' s' q' HT.out _ (H.out.alloc _) HX.out y1 (by omega)).mono ?_
          rintro e w3 ⟨rfl, k3, h3⟩
          have H3 := Lib.hid h3
          clear h3
          go_wp2_with (fail)
          go_roundw
          case rel => exact ⟨k + 1, ⟨a', s', q'⟩, by omega, by go_num, Kp.below_of (hb.alloc hb.size _) (Nat.le_trans hb.size (by simp)) k3 hw2, hok', ea1, H3.out, Nat.lt_of_lt_of_le hlt2 (Nat.le_trans (by simp) k3.size)⟩
          case measure => simp [intOf]; omega
        by_cases d1' : a.d = 1
        · have d1 : a.d ≤ 1 := by omega
          have d2 : 1 ≤ a.d := by omega
          clear d0 d1'
          rcases hT : Snd.ack x a.t a.y with ⟨r, ⟨a', s', q'⟩⟩
          obtain ⟨ea, hok'⟩ := Snd.ack_law HX.out y2 hT
          have ea1 : a' ≤ 2305843009213693952 := Snd.ack_le hxa t2 hT
          have HT := Lib.hid hT
          clear hT
          go_wp2_with (fail)
          refine (ack_at w2.heap.size x a.t a.y a' s' q' r HT.out _ (H.out.alloc _)).mono ?_
          rintro e w3 ⟨rfl, k3, h3⟩
          have H3 := Lib.hid h3
          clear h3
          go_wp2_with (fail)
          go_roundw
          case rel => exact ⟨k + 1, ⟨a', s', q'⟩, by omega, by go_num, Kp.below_of (hb.alloc hb.size _) (Nat.le_trans hb.size (by simp)) k3 hw2, hok', ea1, H3.out, Nat.lt_of_lt_of_le hlt2 (Nat.le_trans (by simp) k3.size)⟩
          case measure => simp [intOf]; omega
        · have e0 : (a.d == 0) = false := by simp; omega
          have e1 : (a.d == 1) = false := by simp; omega
          clear d0 d1'
          go_wp2_with (fail)
          go_roundw
          case rel => exact ⟨k + 1, x, by omega, by go_num, hb.alloc hb.size _, HX.out, hxa, H.out.alloc _, by simp; omega⟩
          case measure => simp [intOf]; omega
      · have HX2 := HX.out
        obtain ⟨o1, o2, o3, o4, o5, o6⟩ := HX2
        go_wp2_with (fail)
        refine (acked_any w2.heap.size x _ H.out).mono ?_
        rintro e w' ⟨rfl, rfl⟩
        go_wp2_with (fail)
        obtain ⟨Y, hY⟩ : ∃ Y : Int, x.a + 1 + mo = Y := ⟨_, rfl⟩
        rw [hY]
        have hY1 : x.a < Y := by omega
        have hY2 : Y ≤ 4611686018427387903 := by omega
        clear hY
        obtain ⟨xa, hxe⟩ : ∃ xa : Int, xa = x.a := ⟨_, rfl⟩
        have hY3 : xa < Y := by omega
        have HE := Lib.hid hxe
        clear hxe
        obtain ⟨wo, rfl⟩ : ∃ wo : World, wo = wr := ⟨_, rfl⟩
        have hp0 := Snd.pot_le HX.out Y
        go_loopw [51] (fun i wr => ∃ (j : Nat) (z : Snd.St), i = .int .i64 j ∧ z.ok ∧ z.a = xa ∧ SndAt wr w2.heap.size z ∧ Below w.heap.size w wr ∧ w2.heap.size < wr.heap.size ∧ (j : Int) + Snd.pot z Y ≤ 6) (fun i _ => 6 - (intOf i).toNat)
        case atStart => exact ⟨0, x, rfl, HX.out, HE.out.symm, H.out, hb, hlt2, by simp; omega⟩
        case round =>
          obtain ⟨j, z, rfl, hz, hze, hsnd, hb', hlt3, hpot⟩ := hrel
          have hpp := Snd.pot_pos hz Y
          have hj : (j : Int) < 6 := by omega
          have Z := Lib.hid hsnd
          have ZX := Lib.hid hz
          have hz1 : z.a < Y := by omega
          have hza : 0 ≤ z.a ∧ z.a ≤ 4611686018427387903 := ⟨hz.1, hz.2.1⟩
          have HZ := Lib.hid hze
          clear hsnd hz hze hpp H HX hp0 hb
          rcases hT : Snd.tick z Y with ⟨⟨f, n⟩, ⟨a', s', q'⟩⟩
          obtain ⟨ea, hok', _⟩ := Snd.tick_law ZX.out Y hT
          have hL := Snd.lives_law ZX.out hz1 hT
          subst ea
          have HT := Lib.hid hT
          clear hT
          rcases hL with ⟨p1, rfl⟩ | ⟨⟨rfl⟩ | ⟨p1, p2⟩, hpp⟩
          · go_wp2_with (fail)
            refine (tick_at w2.heap.size z Y _ n _ s' q' HT.out _ Z.out ZX.out (by omega) hY2).mono ?_
            rintro e w3 ⟨rfl, k3, h3⟩
            have H3 := Lib.hid h3
            clear h3
            go_wp2_with (fail)
            refine (acked_any w2.heap.size ⟨z.a, s', q'⟩ _ H3.out).mono ?_
            rintro e w' ⟨rfl, rfl⟩
            go_wp2_with (fail)
            go_ret
            exact ⟨rfl, Kp.below_of hb' hb'.size k3 hw2⟩
          · go_wp2_with (fail)
            refine (tick_at w2.heap.size z Y _ _ _ s' q' HT.out _ Z.out ZX.out (by omega) hY2).mono ?_
            rintro e w3 ⟨rfl, k3, h3⟩
            have H3 := Lib.hid h3
            clear h3
            go_wp2_with (fail)
            go_roundw
            case rel => exact ⟨j + 1, ⟨z.a, s', q'⟩, by go_num, hok', HZ.out, H3.out, Kp.below_of hb' hb'.size k3 hw2, Nat.lt_of_lt_of_le hlt3 k3.size, by simp; omega⟩
            case measure => simp [intOf]; omega
          · have p3 : (f == z.a + 1) = false := by simpa using p2
            clear p2
            go_wp2_with (fail)
            refine (tick_at w2.heap.size z Y _ _ _ s' q' HT.out _ Z.out ZX.out (by omega) hY2).mono ?_
            rintro e w3 ⟨rfl, k3, h3⟩
            have H3 := Lib.hid h3
            clear h3
            go_wp2_with (fail)
            refine (acked_any w2.heap.size ⟨z.a, s', q'⟩ _ H3.out).mono ?_
            rintro e w' ⟨rfl, rfl⟩
            go_wp2_with (fail)
            go_roundw
            case rel => exact ⟨j + 1, ⟨z.a, s', q'⟩, by go_num, hok', HZ.out, H3.out, Kp.below_of hb' hb'.size k3 hw2, Nat.lt_of_lt_of_le hlt3 k3.size, by simp; omega⟩
            case measure => simp [intOf]; omega
end Go.Proofs.Ytiddaacipjjggaa
