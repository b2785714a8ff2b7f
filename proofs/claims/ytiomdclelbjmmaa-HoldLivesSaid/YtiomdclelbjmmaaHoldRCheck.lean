/-
  The document's Check.
-/
import Derived.Test.YtiomdclelbjmmaaHoldChecks
set_option linter.unusedVariables false
set_option linter.unusedSimpArgs false
namespace Go.Proofs.Ytiomdclelbjmmaa
open Go.RowKit

set_option maxRecDepth 100000 in
theorem rcheck_pre (x : Tv) (w : World) (h : x.t.o < 0 ∨ 3 ≤ x.t.o ∨ (0 ≤ x.t.o ∧ x.t.o < 3 ∧ (x.t.s < 1 ∨ 4611686018427387903 < x.t.s))) :
    Calls Try.prog 32 #[.agg #[.int .i64 x.t.o, .int .i64 x.t.s, .int .i64 x.t.d0, .int .i64 x.t.d1, .int .i64 x.t.d2, .slice x.A x.t.ws.length x.c]] w (Says (.int .i64 x.t.check) w) := by
  obtain ⟨⟨o, s, d0, d1, d2, ws⟩, A, c⟩ := x
  unfold Tx.check
  dsimp only at *
  rcases h with h | h | ⟨ha, hb, h | h⟩
  · rw [if_pos (by omega)]
    go_enter Try.func32, Try.ntmps32
    go_wp2_with (fail)
    go_ret
    exact ⟨rfl, (Below.refl _ _).alloc (Nat.le_refl _) _⟩
  · rw [if_pos (by omega)]
    have h1 : ¬ o < 0 := by omega
    have h2 : 2 < o := by omega
    go_enter Try.func32, Try.ntmps32
    go_wp2_with (fail)
    go_ret
    exact ⟨rfl, (Below.refl _ _).alloc (Nat.le_refl _) _⟩
  · rw [if_neg (by omega), if_pos (by omega)]
    have h1 : ¬ o < 0 := by omega
    have h2 : ¬ 2 < o := by omega
    go_enter Try.func32, Try.ntmps32
    go_wp2_with (fail)
    go_ret
    exact ⟨rfl, (Below.refl _ _).alloc (Nat.le_refl _) _⟩
  · rw [if_neg (by omega), if_pos (by omega)]
    have h1 : ¬ o < 0 := by omega
    have h2 : ¬ 2 < o := by omega
    have h3 : ¬ s < 1 := by omega
    go_enter Try.func32, Try.ntmps32
    go_wp2_with (fail)
    go_ret
    exact ⟨rfl, (Below.refl _ _).alloc (Nat.le_refl _) _⟩

set_option maxRecDepth 100000 in
set_option maxHeartbeats 2000000 in
theorem rcheck_arg (i : Nat) (hi : i < 3) (s d0 d1 d2 : Int) (A : Option Addr) (n c : Nat) (w : World) (s1 : 1 ≤ s) (sm : s ≤ 4611686018427387903) (hk : ¬ (okn d0 ∧ okn d1 ∧ okn d2)) :
    Calls Try.prog 32 #[.agg #[.int .i64 i, .int .i64 s, .int .i64 d0, .int .i64 d1, .int .i64 d2, .slice A n c]] w (Says (.int .i64 1) w) := by
  have B0 := Lib.hid ((Below.refl w.heap.size w).alloc (Nat.le_refl _) (.cells #[.int .i64 i, .int .i64 s, .int .i64 d0, .int .i64 d1, .int .i64 d2, .slice A n c] 36))
  have h1 : ¬ (i : Int) < 0 := by omega
  have h2 : ¬ 2 < (i : Int) := by omega
  have h3 : ¬ s < 1 := by omega
  have h4 : ¬ 4611686018427387903 < s := by omega
  have HK := Lib.hid hk
  clear hk
  go_enter Try.func32, Try.ntmps32
  go_wp2_with (fail)
  refine (rright_no d0 d1 d2 HK.out _).mono ?_
  rintro e w1 ⟨rfl, hb⟩
  have B1 := Lib.hid (B0.out.trans (hb.mono B0.out.size))
  clear hb
  go_wp2_with (fail)
  go_ret
  exact ⟨rfl, B1.out⟩

set_option maxRecDepth 100000 in
set_option maxHeartbeats 2000000 in
theorem rcheck_rest (i : Nat) (hi : i < 3) (s d0 d1 d2 di r : Int) (A : Option Addr) (c : Nat) (ws : List Wr) (w : World) (hr : Rd w A (wrs ws)) (hn : ws.length ≤ 9223372036854775807) (s1 : 1 ≤ s) (sm : s ≤ 4611686018427387903) (k0 : okn d0) (k1 : okn d1) (k2 : okn d2)
    (hdi : (#[Value.int .i64 i, .int .i64 s, .int .i64 d0, .int .i64 d1, .int .i64 d2, .slice A ws.length c] : Array Value)[2 + i]? = some (.int .i64 di)) (hres : (if di ≠ s - 1 then 11 else if 16 < ws.length ∨ ws.any longB = true then 4 else if ws.any badB = true then 3 else 0) = r) :
    Calls Try.prog 32 #[.agg #[.int .i64 i, .int .i64 s, .int .i64 d0, .int .i64 d1, .int .i64 d2, .slice A ws.length c]] w (Says (.int .i64 r) w) := by
  have HR := Lib.hid hr
  have D0 := Lib.hid (Bk.new w 36 #[.int .i64 i, .int .i64 s, .int .i64 d0, .int .i64 d1, .int .i64 d2, .slice A ws.length c])
  have B0 := Lib.hid ((Below.refl w.heap.size w).alloc (Nat.le_refl _) (.cells #[.int .i64 i, .int .i64 s, .int .i64 d0, .int .i64 d1, .int .i64 d2, .slice A ws.length c] 36))
  have HRES := Lib.hid hres
  have HDI := Lib.hid hdi
  have HK0 := Lib.hid k0
  have HK9 : Hid (0 ≤ di ∧ di ≤ 4611686018427387903) := by
    have hc : i = 0 ∨ i = 1 ∨ i = 2 := by omega
    rcases hc with rfl | rfl | rfl
    · simp at hdi; exact hdi ▸ k0
    · simp at hdi; exact hdi ▸ k1
    · simp at hdi; exact hdi ▸ k2
  have HK1 := Lib.hid k1
  have HK2 := Lib.hid k2
  have h1 : ¬ (i : Int) < 0 := by omega
  have h2 : ¬ 2 < (i : Int) := by omega
  have h3 : ¬ s < 1 := by omega
  have h4 : ¬ 4611686018427387903 < s := by omega
  clear hr hres hdi k0 k1 k2
  go_enter Try.func32, Try.ntmps32
  go_wp2_with (fail)
  refine (rright_yes d0 d1 d2 HK0.out HK1.out HK2.out _).mono ?_
  rintro e w1 ⟨rfl, hb⟩
  have D1 := Lib.hid (D0.out.below hb D0.out.lt)
  have B1 := Lib.hid (B0.out.trans (hb.mono B0.out.size))
  clear hb D0 B0
  have p0 : w1.cell? ⟨w.heap.size, 0, none⟩ = some (.int .i64 i) := D1.out.cell 0
  have p1 : w1.cell? ⟨w.heap.size, 1, none⟩ = some (.int .i64 s) := D1.out.cell 1
  have p2 : w1.cell? ⟨w.heap.size, 2 + i, none⟩ = some (.int .i64 di) := (D1.out.cell (2 + i)).trans HDI.out
  have p5 : w1.cell? ⟨w.heap.size, 5, none⟩ = some (.slice A ws.length c) := D1.out.cell 5
  have hi2 : (i : Int) < 3 := by omega
  have okdi := HK9.out
  by_cases hd : di = s - 1
  · have t0 : (di + 1 != s) = false := by simp; omega
    by_cases h16 : 16 < ws.length
    · have HX : Hid (4 = r) := by
        have := HRES.out
        rwa [if_neg (by simp [hd]), if_pos (.inl h16)] at this
      have t1 : decide ((16 : Int) < (ws.length : Int)) = true := by simp; omega
      clear hd HRES h16
      go_wp2_with (fail)
      go_quiet (fail)
      go_wp2_with (fail)
      go_ret
      exact ⟨code_eq HX.out, below_dq B1.out _⟩
    · have t1 : decide ((16 : Int) < (ws.length : Int)) = false := by simp; omega
      have HN : Hid (¬ 16 < ws.length) := h16
      have hws : ws.length ≤ 16 := by omega
      have HE := Lib.hid hd
      clear hd h16
      go_wp2_with (fail)
      go_quiet (fail)
      go_wp2_with (fail)
      have DQ : Hid (Bk (w1.drewN nq) w.heap.size 36 #[.int .i64 i, .int .i64 s, .int .i64 d0, .int .i64 d1, .int .i64 d2, .slice A ws.length c]) := D1.out
      have BQ : Hid (Below w.heap.size w (w1.drewN nq)) := below_dq B1.out nq
      clear D1 B1 p0 p1 p2 p5
      generalize w1.drewN nq = W at *
      go_loopw [3] (fun j wr => ∃ k : Nat, k ≤ ws.length ∧ j = .int .i64 k ∧ wr = W ∧ ∀ j (h : j < ws.length), j < k → longB ws[j] = false) (fun j _ => ws.length - (intOf j).toNat)
      case atStart => exact ⟨0, Nat.zero_le _, rfl, rfl, fun j _ h => absurd h (by omega)⟩
      case round =>
        obtain ⟨k, hk, rfl, rfl, hft⟩ := hrel
        have HF := Lib.hid hft
        have p5 : wr.cell? ⟨w.heap.size, 5, none⟩ = some (.slice A ws.length c) := DQ.out.cell 5
        clear hft
        by_cases hlt : k < ws.length
        · obtain ⟨b, o, rfl, _, q0, q1, q2⟩ := wr_cells (HR.out.below BQ.out) hlt
          have HK : Hid (∀ (j : Nat) (h : j < ws.length), j < k + 1 → longB ws[k] = false → longB ws[j] = false) := by
            intro j h hj hf
            by_cases e : j = k
            · subst e; exact hf
            · exact HF.out j h (by omega)
          have HY : Hid (longB ws[k] = true → 4 = r) := by
            intro h
            have := HRES.out
            rwa [if_neg (by simp [HE.out]), if_pos (.inr (List.any_eq_true.mpr ⟨_, List.getElem_mem hlt, h⟩))] at this
          generalize ws[k] = x at *
          by_cases c1 : 64 < x.k.size
          · have t2 : decide ((64 : Int) < (x.k.size : Int)) = true := by simp; omega
            have HX := Lib.hid (HY.out (by unfold longB; simp [c1]))
            go_wp2_with (fail)
            go_ret
            exact ⟨code_eq HX.out, BQ.out⟩
          have t2 : decide ((64 : Int) < (x.k.size : Int)) = false := by simp; omega
          by_cases c2 : 256 < x.v.size
          · have t3 : decide ((256 : Int) < (x.v.size : Int)) = true := by simp; omega
            have HX := Lib.hid (HY.out (by unfold longB; simp [c2]))
            go_wp2_with (fail)
            go_ret
            exact ⟨code_eq HX.out, BQ.out⟩
          have t3 : decide ((256 : Int) < (x.v.size : Int)) = false := by simp; omega
          have HL : Hid (longB x = false) := by unfold Hid longB; simp; omega
          clear c1 c2
          go_wp2_with (fail)
          go_roundw
          case rel => exact ⟨k + 1, by omega, by go_num, trivial, fun j h hj => HK.out j h hj HL.out⟩
          case measure => simp [intOf]; omega
        · have HALL : Hid (¬ ws.any longB = true) := by
            intro h
            obtain ⟨j, hj, hp⟩ := any_true h
            have := HF.out j hj (by omega)
            rw [hp] at this
            cases this
          clear HF
          go_wp2_with (fail)
          clear p5
          go_loopw [4] (fun j w2 => ∃ k : Nat, k ≤ ws.length ∧ j = .int .i64 k ∧ w2 = wr ∧ ∀ j (h : j < ws.length), j < k → badB ws[j] = false) (fun j _ => ws.length - (intOf j).toNat)
          case atStart => exact ⟨0, Nat.zero_le _, rfl, rfl, fun j _ h => absurd h (by omega)⟩
          case round =>
            obtain ⟨k, hk, rfl, rfl, hft⟩ := hrel
            have HF := Lib.hid hft
            have p5 : wr.cell? ⟨w.heap.size, 5, none⟩ = some (.slice A ws.length c) := DQ.out.cell 5
            clear hft
            by_cases hlt : k < ws.length
            · obtain ⟨b, o, rfl, _, q0, q1, q2⟩ := wr_cells (HR.out.below BQ.out) hlt
              have HK : Hid (∀ (j : Nat) (h : j < ws.length), j < k + 1 → badB ws[k] = false → badB ws[j] = false) := by
                intro j h hj hf
                by_cases e : j = k
                · subst e; exact hf
                · exact HF.out j h (by omega)
              have HY : Hid (badB ws[k] = true → 3 = r) := by
                intro h
                have := HRES.out
                rwa [if_neg (by simp [HE.out]), if_neg (fun h => by rcases h with h | h; exact HN.out h; exact HALL.out h), if_pos (List.any_eq_true.mpr ⟨_, List.getElem_mem hlt, h⟩)] at this
              generalize ws[k] = x at *
              obtain ⟨xk, xv, xg⟩ := x
              dsimp only at q0 q1 q2
              cases xg with
              | false =>
                have HL : Hid (badB ⟨xk, xv, false⟩ = false) := rfl
                go_wp2_with (fail)
                go_roundw
                case rel => exact ⟨k + 1, by omega, by go_num, trivial, fun j h hj => HK.out j h hj HL.out⟩
                case measure => simp [intOf]; omega
              | true =>
                by_cases hv : xv.toList = []
                · have HL : Hid (badB ⟨xk, xv, true⟩ = false) := by unfold Hid badB; simp [hv]
                  go_wp2_with (fail)
                  go_roundw
                  case rel => exact ⟨k + 1, by omega, by go_num, trivial, fun j h hj => HK.out j h hj HL.out⟩
                  case measure => simp [intOf]; omega
                · have HX := Lib.hid (HY.out (by unfold badB; simp [hv]))
                  have hv2 : (xv.toList == []) = false := by simpa using hv
                  go_wp2_with (fail)
                  go_ret
                  exact ⟨code_eq HX.out, BQ.out⟩
            · have HX : Hid (0 = r) := by
                have := HRES.out
                rwa [if_neg (by simp [HE.out]), if_neg (fun h => by rcases h with h | h; exact HN.out h; exact HALL.out h), if_neg (fun h => by
                  obtain ⟨j, hj, hp⟩ := any_true h
                  have := HF.out j hj (by omega)
                  rw [hp] at this
                  cases this)] at this
              go_wp2_with (fail)
              go_ret
              exact ⟨code_eq HX.out, BQ.out⟩
  · have t0 : (di + 1 != s) = true := by simp; omega
    have HX : Hid (11 = r) := by
      have := HRES.out
      rwa [if_pos hd] at this
    clear hd HRES
    go_wp2_with (fail)
    go_quiet (fail)
    go_wp2_with (fail)
    go_ret
    exact ⟨code_eq HX.out, below_dq B1.out _⟩

theorem rcheck_any (x : Tv) (w : World) (hr : Rd w x.A (wrs x.t.ws)) (hn : x.t.ws.length ≤ 9223372036854775807) :
    Calls Try.prog 32 #[.agg #[.int .i64 x.t.o, .int .i64 x.t.s, .int .i64 x.t.d0, .int .i64 x.t.d1, .int .i64 x.t.d2, .slice x.A x.t.ws.length x.c]] w (Says (.int .i64 x.t.check) w) := by
  by_cases hp : x.t.o < 0 ∨ 3 ≤ x.t.o ∨ (0 ≤ x.t.o ∧ x.t.o < 3 ∧ (x.t.s < 1 ∨ 4611686018427387903 < x.t.s))
  · exact rcheck_pre x w hp
  · obtain ⟨i, hi⟩ : ∃ i : Nat, x.t.o = (i : Int) := ⟨x.t.o.toNat, by omega⟩
    obtain ⟨⟨o, s, d0, d1, d2, ws⟩, A, c⟩ := x
    dsimp only at *
    subst hi
    have hi3 : i < 3 := by omega
    have s1 : 1 ≤ s := by omega
    have sm : s ≤ 4611686018427387903 := by omega
    unfold Tx.check
    dsimp only
    rw [if_neg (by omega)]
    by_cases hk : okn d0 ∧ okn d1 ∧ okn d2
    · rw [if_neg (fun h => by rcases h with h | h | h; omega; omega; exact h hk)]
      have hc : i = 0 ∨ i = 1 ∨ i = 2 := by omega
      refine rcheck_rest i hi3 s d0 d1 d2 (Tx.dep ⟨i, s, d0, d1, d2, ws⟩ i) _ A c ws w hr hn s1 sm hk.1 hk.2.1 hk.2.2 ?_ rfl
      rcases hc with rfl | rfl | rfl <;> rfl
    · rw [if_pos (.inr (.inr hk))]
      exact rcheck_arg i hi3 s d0 d1 d2 A ws.length c w s1 sm hk
end Go.Proofs.Ytiomdclelbjmmaa
