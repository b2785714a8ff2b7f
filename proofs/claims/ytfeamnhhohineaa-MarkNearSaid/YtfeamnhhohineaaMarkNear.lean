/-
  MarkNear: for every input true; what was there stays.
-/
import Derived.Test.YtfeamnhhohineaaMarkAwake
set_option linter.unusedVariables false
set_option linter.unusedSimpArgs false
namespace Go.Proofs.Ytfeamnhhohineaa
open Go.RowKit

/-- The marks behind k numbers from 'first' on. -/
def nearL (first : Int) (k : Nat) : List Mk := (List.range ((k + 1) / 2)).map (fun (j : Nat) => (⟨first + 2 * (j : Int), 3, 14 * (j : Int)⟩ : Mk))

def nearLast (first : Int) (k : Nat) : Int := if k = 0 then 0 else first + k - 1

theorem nearL_length (first : Int) (k : Nat) : (nearL first k).length = (k + 1) / 2 := by simp [nearL]

theorem nearL_at (first : Int) (k j : Nat) (h : j < (nearL first k).length) : (nearL first k)[j] = ⟨first + 2 * (j : Int), 3, 14 * (j : Int)⟩ := by simp [nearL]

theorem nearL_even (first : Int) (j : Nat) : nearL first (2 * j + 1) = nearL first (2 * j) ++ [⟨first + (2 * j : Nat), 3, (2 * j : Nat) * 7⟩] := by
  unfold nearL
  rw [show (2 * j + 1 + 1) / 2 = j + 1 by omega, show (2 * j + 1) / 2 = j by omega, List.range_succ, List.map_append]
  have e1 : first + 2 * (j : Int) = first + (2 * j : Nat) := by omega
  have e2 : 14 * (j : Int) = (2 * j : Nat) * 7 := by omega
  simp only [List.map_cons, List.map_nil, e1, e2]

theorem nearL_odd (first : Int) (j : Nat) : nearL first (2 * j + 1 + 1) = nearL first (2 * j + 1) := by
  unfold nearL
  rw [show (2 * j + 1 + 1 + 1) / 2 = (2 * j + 1 + 1) / 2 by omega]

theorem nearL_far (first : Int) (j : Nat) : ¬ Near (nearL first (2 * j)) ⟨first + (2 * j : Nat), 3, (2 * j : Nat) * 7⟩ := by
  rintro ⟨h, _, h2⟩
  rw [nearL_at] at h2
  have hl := nearL_length first (2 * j)
  dsimp only at h2
  omega

theorem nearL_near (first : Int) (j : Nat) : Near (nearL first (2 * j + 1)) ⟨first + (2 * j + 1 : Nat), 3, (2 * j + 1 : Nat) * 7⟩ := by
  have hl := nearL_length first (2 * j + 1)
  refine ⟨by omega, ?_, ?_⟩
  · rw [nearL_at]
  · rw [nearL_at]
    dsimp only
    omega

theorem nearL_small (first : Int) (h1 : 1 ≤ first) (k : Nat) : ∀ m ∈ nearL first k, 0 ≤ m.s ∧ m.s ≤ nearLast first k := by
  intro m hm
  unfold nearL at hm
  obtain ⟨j, hj, rfl⟩ := List.mem_map.mp hm
  rw [List.mem_range] at hj
  unfold nearLast
  dsimp only
  split <;> omega

theorem nearL_up (first : Int) (k : Nat) : Mk.Up (nearL first k) := by
  intro i j hj hi
  rw [nearL_at, nearL_at]
  dsimp only
  omega

theorem nearL_place (first : Int) (k r : Nat) (h : r < k) : Mk.Place (nearL first k) (first + r) (r / 2 + 1) := by
  have hl := nearL_length first k
  refine ⟨by omega, fun i hi hr => ?_, fun i hi hr => ?_⟩
  · rw [nearL_at]; dsimp only; omega
  · rw [nearL_at]; dsimp only; omega

theorem nearL_place0 (first : Int) (k : Nat) : Mk.Place (nearL first k) (first - 1) 0 := by
  refine ⟨by omega, fun i hi hr => absurd hr (by omega), fun i hi hr => ?_⟩
  rw [nearL_at]; dsimp only; omega

theorem find_near {first : Int} {k r : Nat} {w w' : World} {e : Ending} (h1 : 1 ≤ first) (hr : r < k) (h : FindPost (nearL first k) (first + r) w e w') :
    Below w.heap.size w w' ∧ ∃ j : Nat, e = .returned (.tuple #[.agg #[.int .i64 (first + 2 * (j : Int)), .int .i64 3, .int .i64 (14 * (j : Int))], .bool true]) ∧ 2 * j ≤ r ∧ r < 2 * j + 2 := by
  have hl := nearL_length first k
  obtain ⟨he, hb⟩ := find_yes (r := r / 2) (m := ⟨first + 2 * ((r / 2 : Nat) : Int), 3, 14 * ((r / 2 : Nat) : Int)⟩) h (nearL_place first k r hr) (by rw [List.getElem?_eq_getElem (by omega), nearL_at])
  exact ⟨hb, r / 2, he, by omega, by omega⟩

/-- One Add of the loop. -/
theorem near_add (B b : Nat) (first : Int) (k : Nat) (w : World) (h : MkAt w B b (nearL first k) (nearLast first k)) (h1 : 1 ≤ first) (h2 : first ≤ 1099511627776) (hk : k < 100) :
    Calls Try.prog 6 #[.pointer (some ⟨b, 0, none⟩), .agg #[.int .i64 (first + k), .int .i64 3, .int .i64 (k * 7)]] w
      fun e w' => ∃ is, e = .returned (.tuple #[.bool is, .int .i64 0]) ∧ Below B w w' ∧ MkAt w' B b (nearL first (k + 1)) (nearLast first (k + 1)) ∧ w.heap.size ≤ w'.heap.size := by
  have hl := nearL_length first k
  have hm : okMk ⟨first + k, 3, k * 7⟩ := ⟨by dsimp only; omega, by dsimp only; omega, by dsimp only; omega, by dsimp only; omega, by dsimp only; omega⟩
  have hlast : nearLast first k < first + k := by unfold nearLast; split <;> omega
  have hlast1 : nearLast first (k + 1) = first + k := by unfold nearLast; rw [if_neg (by omega)]; omega
  rw [hlast1]
  obtain ⟨j, rfl | rfl⟩ : ∃ j, k = 2 * j ∨ k = 2 * j + 1 := ⟨k / 2, by omega⟩
  · rw [nearL_even]
    refine (add_new B b _ _ _ _ _ w h (by omega) hm hlast (nearL_far first j) (nearL_small first h1 _)).mono ?_
    rintro e w' ⟨rfl, hb, hm, hs⟩
    exact ⟨_, rfl, hb, hm, hs⟩
  · rw [nearL_odd]
    refine (add_skip B b _ _ _ _ _ w h (by omega) hm hlast (nearL_near first j) (nearL_small first h1 _)).mono ?_
    rintro e w' ⟨rfl, hb, hm, hs⟩
    exact ⟨_, rfl, hb.below (fun k hk e => by have := h.ge; omega) (by have := h.lt; have := h.ge; omega), hm, hs⟩

set_option maxRecDepth 100000 in
set_option maxHeartbeats 4000000 in
theorem near_any (first many which : Int) (f0 : -9223372036854775808 ≤ first) (f1 : first ≤ 9223372036854775807) (m0 : 0 ≤ many) (m1 : many < 256) (q0 : 0 ≤ which) (q1 : which < 256) (w : World) :
    Calls Try.prog 3 #[.int .i64 first, .int .u8 many, .int .u8 which] w fun e w' => e = .returned (.bool true) ∧ Below w.heap.size w w' := by
  go_enter Try.func3, Try.ntmps3
  go_wp2_with (fail)
  refine (awake_any _).mono ?_
  rintro e w1 ⟨rfl, hb⟩
  have B1 := Lib.hid hb
  have L1 := hb.size
  clear hb
  by_cases c1 : first < 1
  · go_wp2_with (fail)
    go_ret
    exact ⟨rfl, B1.out⟩
  by_cases c2 : first > 1099511627776
  · go_wp2_with (fail)
    go_ret
    exact ⟨rfl, B1.out⟩
  by_cases c3 : many < 1
  · go_wp2_with (fail)
    go_ret
    exact ⟨rfl, B1.out⟩
  by_cases c4 : many > 100
  · go_wp2_with (fail)
    go_ret
    exact ⟨rfl, B1.out⟩
  have hr0 : 0 ≤ which % many := Int.emod_nonneg _ (by omega)
  have hr1 : which % many < many := Int.emod_lt_of_pos _ (by omega)
  obtain ⟨r, hr⟩ : ∃ r : Nat, which % many = (r : Int) := Int.eq_ofNat_of_zero_le hr0
  have HR : Hid (wrap64 (first + wrap64 (which % many)) = first + r) := by
    unfold Hid
    rw [hr]
    unfold wrap64
    omega
  obtain ⟨M, rfl⟩ : ∃ M : Nat, many = (M : Int) := Int.eq_ofNat_of_zero_le m0
  have hrM : r < M := by omega
  have g1 : 1 ≤ first := by omega
  have g2 : first ≤ 1099511627776 := by omega
  have g3 : M ≤ 100 := by omega
  have g4 : 0 < M := by omega
  clear hr hr0 hr1
  go_wp2_with (fail)
  refine (mark_new _).mono ?_
  rintro e w2 ⟨rfl, hw⟩
  have M2 : Hid (MkAt w2 w1.heap.size w1.heap.size (nearL first 0) (nearLast first 0)) := by rw [hw]; exact mk_at_new w1
  have hb2 : Hid (Below w1.heap.size w1 w2) := by rw [hw]; exact (Below.refl _ _).alloc (Nat.le_refl _) _
  clear hw
  go_wp2_with (fail)
  go_loopw [37] (fun i wr => ∃ k : Nat, k ≤ M ∧ i = .int .i64 k ∧ MkAt wr w1.heap.size w1.heap.size (nearL first k) (nearLast first k) ∧ Below w1.heap.size w1 wr) (fun i _ => M - (intOf i).toNat)
  case atStart => exact ⟨0, Nat.zero_le _, rfl, M2.out, hb2.out⟩
  case round =>
    obtain ⟨k, hk, rfl, hm, hb⟩ := hrel
    have HM := Lib.hid hm
    clear hm M2 hb2
    by_cases hlt : k < M
    · have hk1 : k < 100 := by omega
      go_wp2_with (fail)
      refine (near_add _ _ first k _ HM.out g1 g2 hk1).mono ?_
      rintro e w3 ⟨is, rfl, hb3, hm3, hs3⟩
      have HM3 := Lib.hid hm3
      have HB3 := Lib.hid (hb.trans hb3)
      clear hm3 hb3 hb HM
      go_wp2_with (fail)
      go_roundw
      case rel => exact ⟨k + 1, by omega, by go_num, HM3.out, HB3.out⟩
      case measure => simp [intOf]; omega
    · have hkM : k = M := by omega
      subst hkM
      have g5 : k < 128 := by omega
      have HM2 := Lib.hid (MkAt.lt HM.out)
      have HB2 := Lib.hid ((B1.out.trans (hb.mono L1)))
      have HS2 := Lib.hid (hb.size)
      clear hb B1
      go_wp2_with (fail)
      rw [HR.out]
      refine (find_any _ _ _ _ _ _ HM.out (nearL_up _ _) (by rw [nearL_length]; omega)).mono ?_
      intro e w3 hfd
      obtain ⟨hb3, j, rfl, j1, j2⟩ := find_near g1 hrM hfd
      clear hfd
      have D3 := Lib.hid (Bk.new w3 29 #[.int .i64 (first + 2 * (j : Int)), .int .i64 3, .int .i64 (14 * (j : Int))])
      have HM3 := Lib.hid ((HM.out.box hb3).box ((Below.refl w3.heap.size w3).alloc (Nat.le_refl _) (.cells #[.int .i64 (first + 2 * (j : Int)), .int .i64 3, .int .i64 (14 * (j : Int))] 29)))
      have HB3 := Lib.hid (HB2.out.trans (((hb3.mono (by have := HS2.out; omega)).alloc (by have := HS2.out; have := hb3.size; omega) (.cells #[.int .i64 (first + 2 * (j : Int)), .int .i64 3, .int .i64 (14 * (j : Int))] 29))))
      have HS3 := Lib.hid hb3.size
      clear hb3 HM HB2
      go_wp2_with (fail)
      generalize hW3 : w3.alloc (.cells #[.int .i64 (first + 2 * (j : Int)), .int .i64 3, .int .i64 (14 * (j : Int))] 29) = w4 at *
      clear hW3
      refine (find_any _ _ _ _ _ _ HM3.out (nearL_up _ _) (by rw [nearL_length]; omega)).mono ?_
      intro e w5 hfd
      obtain ⟨he, hb5⟩ := find_no hfd (nearL_place0 _ _)
      obtain rfl : e = .returned (.tuple #[.agg #[.int .i64 0, .int .i64 0, .int .i64 0], .bool false]) := he
      clear hfd
      have D5 := D3.out.below hb5 D3.out.lt
      have L5 := D5.lt
      have q0 : w5.cell? ⟨w3.heap.size, 0, none⟩ = some (.int .i64 (first + 2 * (j : Int))) := D5.cell 0
      have q1 : w5.cell? ⟨w3.heap.size, 1, none⟩ = some (.int .i64 3) := D5.cell 1
      have q2 : w5.cell? ⟨w3.heap.size, 2, none⟩ = some (.int .i64 (14 * (j : Int))) := D5.cell 2
      have HB5 := Lib.hid ((HB3.out.trans (hb5.mono (by have := HM3.out.lt; omega))).alloc (by have := HM3.out.lt; have := hb5.size; omega) (.cells #[.int .i64 0, .int .i64 0, .int .i64 0] 29))
      clear hb5 HB3 HM3 D3 D5
      have t1 : decide (first + 2 * (j : Int) ≤ first + (r : Int)) = true := by simp; omega
      have t2 : decide (first + (r : Int) - (first + 2 * (j : Int)) < 2) = true := by simp; omega
      go_wp2_with (fail)
      go_ret
      have t3 : (14 * (j : Int) == 7 * (first + 2 * (j : Int) - first)) = true := by simp; omega
      rw [t3]
      exact ⟨rfl, HB5.out⟩
end Go.Proofs.Ytfeamnhhohineaa
