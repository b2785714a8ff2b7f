/-
  Merge of two clocks; Covers.
-/
import Derived.Test.YtiomdclelbjmmaaHoldWalks
set_option linter.unusedVariables false
set_option linter.unusedSimpArgs false
namespace Go.Proofs.Ytiomdclelbjmmaa
open Go.RowKit

def sel (n o : Nat) (new old : Int) : Int := if o < n then new else old

def ov (k : Nat) (a b : Int) : Int := if k = 0 then 0 else if k = 1 then a else mx a b

theorem mx_le {a b : Int} (h : b ≤ a) : mx a b = a := by unfold mx; rw [if_neg (by omega)]
theorem mx_lt {a b : Int} (h : a < b) : mx a b = b := by unfold mx; rw [if_pos h]

set_option maxRecDepth 100000 in
set_option maxHeartbeats 2000000 in
theorem merge2 (g c : Nat) (a0 a1 a2 b0 b1 b2 : Int) (w : World) (h : Bk w g 23 #[.int .i64 a0, .int .i64 a1, .int .i64 a2, .int .i64 b0, .int .i64 b1, .int .i64 b2]) :
    Calls Try.prog 35 #[.slice (some ⟨g, 0, none⟩) 2 c] w fun e w' => e = .returned (.agg #[.int .i64 (mx a0 b0), .int .i64 (mx a1 b1), .int .i64 (mx a2 b2)]) ∧ Below w.heap.size w w' := by
  have HG := Lib.hid h
  have hgl := h.lt
  clear h
  have E0 := Bk.new (w.alloc (.cells #[.int .i64 0, .int .i64 0, .int .i64 0] 23)) 23 #[.int .i64 0, .int .i64 0, .int .i64 0]
  rw [World.size_alloc] at E0
  have E0 := Lib.hid E0
  have F0 := Lib.hid ((Bk.new w 23 #[.int .i64 0, .int .i64 0, .int .i64 0]).alloc (.cells #[.int .i64 0, .int .i64 0, .int .i64 0] 23))
  have B0 := Lib.hid (((Below.refl w.heap.size w).alloc (Nat.le_refl _) (.cells #[.int .i64 0, .int .i64 0, .int .i64 0] 23)).alloc (by simp) (.cells #[.int .i64 0, .int .i64 0, .int .i64 0] 23))
  go_enter Try.func35, Try.ntmps35
  go_wp2_with (fail)
  go_loopw [10] (fun i wr => ∃ k : Nat, k ≤ 2 ∧ i = .int .i64 k ∧ Bk wr (w.heap.size + 1) 23 #[.int .i64 (ov k a0 b0), .int .i64 (ov k a1 b1), .int .i64 (ov k a2 b2)] ∧ Bk wr w.heap.size 23 #[.int .i64 0, .int .i64 0, .int .i64 0] ∧ Below w.heap.size w wr) (fun i _ => 2 - (intOf i).toNat)
  case atStart => exact ⟨0, by omega, rfl, E0.out, F0.out, B0.out⟩
  case round =>
    obtain ⟨k, hk, rfl, hbk, hf, hb⟩ := hrel
    have hc : k = 0 ∨ k = 1 ∨ k = 2 := by omega
    rcases hc with rfl | rfl | rfl
    · have E1 : Bk wr (w.heap.size + 1) 23 #[.int .i64 0, .int .i64 0, .int .i64 0] := hbk
      have q0 : wr.cell? ⟨g, 0, none⟩ = some (.int .i64 a0) := (HG.out.below hb hgl).cell 0
      have q1 : wr.cell? ⟨g, 1, none⟩ = some (.int .i64 a1) := (HG.out.below hb hgl).cell 1
      have q2 : wr.cell? ⟨g, 2, none⟩ = some (.int .i64 a2) := (HG.out.below hb hgl).cell 2
      have i0 := Try.ck0 a0 a1 a2
      have i1 := Try.ck1 a0 a1 a2
      have i2 := Try.ck2 a0 a1 a2
      have E3 := Lib.hid (E1.alloc (.cells #[.int .i64 a0, .int .i64 a1, .int .i64 a2] 23))
      have F3 := Lib.hid (hf.alloc (.cells #[.int .i64 a0, .int .i64 a1, .int .i64 a2] 23))
      have B3 := Lib.hid (hb.alloc hb.size (.cells #[.int .i64 a0, .int .i64 a1, .int .i64 a2] 23))
      have hlt := E1.lt
      clear E1 hbk hf hb
      go_wp2_with (fail)
      generalize wr.alloc (.cells #[.int .i64 a0, .int .i64 a1, .int .i64 a2] 23) = W at *
      clear q0 q1 q2
      go_loopw [16] (fun j wr => ∃ n : Nat, n ≤ 3 ∧ j = .int .i64 n ∧ Bk wr (w.heap.size + 1) 23 #[.int .i64 (sel n 0 a0 0), .int .i64 (sel n 1 a1 0), .int .i64 (sel n 2 a2 0)] ∧ Kp (· = w.heap.size + 1) W wr) (fun j _ => 3 - (intOf j).toNat)
      case atStart => exact ⟨0, by omega, rfl, E3.out, Kp.refl _ _⟩
      case round =>
        obtain ⟨n, hn, rfl, hbk, hkp⟩ := hrel
        have K2 := Lib.hid hkp
        have hc : n = 0 ∨ n = 1 ∨ n = 2 ∨ n = 3 := by omega
        rcases hc with rfl | rfl | rfl | rfl
        · have E2 := Lib.hid (show Bk wr (w.heap.size + 1) 23 #[.int .i64 0, .int .i64 0, .int .i64 0] from hbk)
          have p0 : wr.cell? ⟨w.heap.size + 1, 0, none⟩ = some (.int .i64 0) := E2.out.cell 0
          have f0 := E2.out.free 0
          clear hbk hkp
          go_wp2_with (fail)
          go_roundw
          case rel => exact ⟨1, by omega, rfl, E2.out.put 0 (.int .i64 a0), K2.out.set1 _ _⟩
          case measure => simp [intOf]
        · have E2 := Lib.hid (show Bk wr (w.heap.size + 1) 23 #[.int .i64 a0, .int .i64 0, .int .i64 0] from hbk)
          have p0 : wr.cell? ⟨w.heap.size + 1, 1, none⟩ = some (.int .i64 0) := E2.out.cell 1
          have f0 := E2.out.free 1
          clear hbk hkp
          go_wp2_with (fail)
          go_roundw
          case rel => exact ⟨2, by omega, rfl, E2.out.put 1 (.int .i64 a1), K2.out.set1 _ _⟩
          case measure => simp [intOf]
        · have E2 := Lib.hid (show Bk wr (w.heap.size + 1) 23 #[.int .i64 a0, .int .i64 a1, .int .i64 0] from hbk)
          have p0 : wr.cell? ⟨w.heap.size + 1, 2, none⟩ = some (.int .i64 0) := E2.out.cell 2
          have f0 := E2.out.free 2
          clear hbk hkp
          go_wp2_with (fail)
          go_roundw
          case rel => exact ⟨3, by omega, rfl, E2.out.put 2 (.int .i64 a2), K2.out.set1 _ _⟩
          case measure => simp [intOf]
        · have E2 := Lib.hid (show Bk wr (w.heap.size + 1) 23 #[.int .i64 a0, .int .i64 a1, .int .i64 a2] from hbk)
          clear hbk hkp
          go_wp2_with (fail)
          go_roundw
          case rel => exact ⟨1, by omega, rfl, E2.out, F3.out.kp K2.out (by omega), B3.out.trans (K2.out.below (fun i hi e => by omega) B3.out.size)⟩
          case measure => simp [intOf]
    · have E1 : Bk wr (w.heap.size + 1) 23 #[.int .i64 a0, .int .i64 a1, .int .i64 a2] := hbk
      have q0 : wr.cell? ⟨g, 3, none⟩ = some (.int .i64 b0) := (HG.out.below hb hgl).cell 3
      have q1 : wr.cell? ⟨g, 4, none⟩ = some (.int .i64 b1) := (HG.out.below hb hgl).cell 4
      have q2 : wr.cell? ⟨g, 5, none⟩ = some (.int .i64 b2) := (HG.out.below hb hgl).cell 5
      have i0 := Try.ck0 b0 b1 b2
      have i1 := Try.ck1 b0 b1 b2
      have i2 := Try.ck2 b0 b1 b2
      have E3 := Lib.hid (E1.alloc (.cells #[.int .i64 b0, .int .i64 b1, .int .i64 b2] 23))
      have F3 := Lib.hid (hf.alloc (.cells #[.int .i64 b0, .int .i64 b1, .int .i64 b2] 23))
      have B3 := Lib.hid (hb.alloc hb.size (.cells #[.int .i64 b0, .int .i64 b1, .int .i64 b2] 23))
      have hlt := E1.lt
      clear E1 hbk hf hb
      go_wp2_with (fail)
      generalize wr.alloc (.cells #[.int .i64 b0, .int .i64 b1, .int .i64 b2] 23) = W at *
      clear q0 q1 q2
      go_loopw [16] (fun j wr => ∃ n : Nat, n ≤ 3 ∧ j = .int .i64 n ∧ Bk wr (w.heap.size + 1) 23 #[.int .i64 (sel n 0 (mx a0 b0) a0), .int .i64 (sel n 1 (mx a1 b1) a1), .int .i64 (sel n 2 (mx a2 b2) a2)] ∧ Kp (· = w.heap.size + 1) W wr) (fun j _ => 3 - (intOf j).toNat)
      case atStart => exact ⟨0, by omega, rfl, E3.out, Kp.refl _ _⟩
      case round =>
        obtain ⟨n, hn, rfl, hbk, hkp⟩ := hrel
        have K2 := Lib.hid hkp
        have hc : n = 0 ∨ n = 1 ∨ n = 2 ∨ n = 3 := by omega
        rcases hc with rfl | rfl | rfl | rfl
        · have E2 := Lib.hid (show Bk wr (w.heap.size + 1) 23 #[.int .i64 a0, .int .i64 a1, .int .i64 a2] from hbk)
          have p0 : wr.cell? ⟨w.heap.size + 1, 0, none⟩ = some (.int .i64 a0) := E2.out.cell 0
          have f0 := E2.out.free 0
          clear hbk hkp
          by_cases hx : a0 < b0
          · have HM := Lib.hid (mx_lt hx)
            go_wp2_with (fail)
            go_roundw
            case rel => exact ⟨1, by omega, rfl, by have := E2.out.put 0 (.int .i64 b0); show Bk _ _ _ #[.int .i64 (mx a0 b0), .int .i64 a1, .int .i64 a2]; rw [HM.out]; exact this, K2.out.set1 _ _⟩
            case measure => simp [intOf]
          · have HM := Lib.hid (mx_le (Int.not_lt.mp hx))
            go_wp2_with (fail)
            go_roundw
            case rel => exact ⟨1, by omega, rfl, by have := E2.out; rw [← HM.out] at this; exact this, K2.out⟩
            case measure => simp [intOf]
        · have E2 := Lib.hid (show Bk wr (w.heap.size + 1) 23 #[.int .i64 (mx a0 b0), .int .i64 a1, .int .i64 a2] from hbk)
          have p0 : wr.cell? ⟨w.heap.size + 1, 1, none⟩ = some (.int .i64 a1) := E2.out.cell 1
          have f0 := E2.out.free 1
          clear hbk hkp
          by_cases hx : a1 < b1
          · have HM := Lib.hid (mx_lt hx)
            go_wp2_with (fail)
            go_roundw
            case rel => exact ⟨2, by omega, rfl, by have := E2.out.put 1 (.int .i64 b1); show Bk _ _ _ #[.int .i64 (mx a0 b0), .int .i64 (mx a1 b1), .int .i64 a2]; rw [HM.out]; exact this, K2.out.set1 _ _⟩
            case measure => simp [intOf]
          · have HM := Lib.hid (mx_le (Int.not_lt.mp hx))
            go_wp2_with (fail)
            go_roundw
            case rel => exact ⟨2, by omega, rfl, by have := E2.out; rw [← HM.out] at this; exact this, K2.out⟩
            case measure => simp [intOf]
        · have E2 := Lib.hid (show Bk wr (w.heap.size + 1) 23 #[.int .i64 (mx a0 b0), .int .i64 (mx a1 b1), .int .i64 a2] from hbk)
          have p0 : wr.cell? ⟨w.heap.size + 1, 2, none⟩ = some (.int .i64 a2) := E2.out.cell 2
          have f0 := E2.out.free 2
          clear hbk hkp
          by_cases hx : a2 < b2
          · have HM := Lib.hid (mx_lt hx)
            go_wp2_with (fail)
            go_roundw
            case rel => exact ⟨3, by omega, rfl, by have := E2.out.put 2 (.int .i64 b2); show Bk _ _ _ #[.int .i64 (mx a0 b0), .int .i64 (mx a1 b1), .int .i64 (mx a2 b2)]; rw [HM.out]; exact this, K2.out.set1 _ _⟩
            case measure => simp [intOf]
          · have HM := Lib.hid (mx_le (Int.not_lt.mp hx))
            go_wp2_with (fail)
            go_roundw
            case rel => exact ⟨3, by omega, rfl, by have := E2.out; rw [← HM.out] at this; exact this, K2.out⟩
            case measure => simp [intOf]
        · have E2 := Lib.hid (show Bk wr (w.heap.size + 1) 23 #[.int .i64 (mx a0 b0), .int .i64 (mx a1 b1), .int .i64 (mx a2 b2)] from hbk)
          clear hbk hkp
          go_wp2_with (fail)
          go_roundw
          case rel => exact ⟨2, by omega, rfl, E2.out, F3.out.kp K2.out (by omega), B3.out.trans (K2.out.below (fun i hi e => by omega) B3.out.size)⟩
          case measure => simp [intOf]
    · have E1 : Bk wr (w.heap.size + 1) 23 #[.int .i64 (mx a0 b0), .int .i64 (mx a1 b1), .int .i64 (mx a2 b2)] := hbk
      have q0 : wr.cell? ⟨w.heap.size + 1, 0, none⟩ = some (.int .i64 (mx a0 b0)) := E1.cell 0
      have q1 : wr.cell? ⟨w.heap.size + 1, 1, none⟩ = some (.int .i64 (mx a1 b1)) := E1.cell 1
      have q2 : wr.cell? ⟨w.heap.size + 1, 2, none⟩ = some (.int .i64 (mx a2 b2)) := E1.cell 2
      have p0 : wr.cell? ⟨w.heap.size, 0, none⟩ = some (.int .i64 0) := hf.cell 0
      have p1 : wr.cell? ⟨w.heap.size, 1, none⟩ = some (.int .i64 0) := hf.cell 1
      have p2 : wr.cell? ⟨w.heap.size, 2, none⟩ = some (.int .i64 0) := hf.cell 2
      have f0 := hf.free 0
      have f1 := hf.free 1
      have f2 := hf.free 2
      have FF := Lib.hid hf
      have BB := Lib.hid hb
      clear E1 hbk hf hb
      go_wp2_with (fail)
      have G := ((FF.out.put 0 (.int .i64 (mx a0 b0))).put 1 (.int .i64 (mx a1 b1))).put 2 (.int .i64 (mx a2 b2))
      have z0 := G.cell 0
      have z1 := G.cell 1
      have z2 := G.cell 2
      refine bodyPost_ret (v := .agg #[.int .i64 (mx a0 b0), .int .i64 (mx a1 b1), .int .i64 (mx a2 b2)]) (by simp [results, Try.results35, go_sem, z0, z1, z2]) rfl ⟨rfl, ?_⟩
      exact ((BB.out.setCell (p := ⟨w.heap.size, 0, none⟩) (Nat.le_refl _) _).setCell (p := ⟨w.heap.size, 1, none⟩) (Nat.le_refl _) _).setCell (p := ⟨w.heap.size, 2, none⟩) (Nat.le_refl _) _
end Go.Proofs.Ytiomdclelbjmmaa
