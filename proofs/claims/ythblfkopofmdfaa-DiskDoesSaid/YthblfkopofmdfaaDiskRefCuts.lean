/-
  The document's disk: Cut as a whole.
-/
import Derived.Test.YthblfkopofmdfaaDiskRefCut
set_option linter.unusedVariables false
set_option linter.unusedSimpArgs false
namespace Go.Proofs.Ythblfkopofmdfaa
open Go.RowKit

set_option maxRecDepth 100000 in
theorem rcut_arg (B b : Nat) (n left : Int) (d : Dk) (w : World) (h : RkAt w B b d) (hn : n < 0 ∨ 64 ≤ n ∨ left < 0 ∨ ((d.b n.toNat).length : Int) < left) :
    Calls Try.prog 13 #[.pointer (some ⟨b, 0, none⟩), .int .i64 n, .int .i64 left] w (RtPost B b d (.int .i64 1) w) := by
  have HD := Lib.hid h
  by_cases ho : n < 0 ∨ 64 ≤ n
  · have HN := Lib.hid ho
    clear hn h ho
    go_enter Try.func13, Try.ntmps13
    go_wp2_with (fail)
    refine (there_out n HN.out _).mono ?_
    rintro e w' ⟨rfl, rfl⟩
    go_wp2_with (fail)
    go_ret
    exact ⟨rfl, Kp.refl _ _, HD.out⟩
  obtain ⟨i, rfl⟩ : ∃ i : Nat, n = (i : Int) := ⟨n.toNat, by omega⟩
  have hi : i < 64 := by omega
  rw [Int.toNat_natCast] at hn
  obtain ⟨cs, hk, hc⟩ := h.row
  obtain ⟨v, hv1, hv2⟩ := hc.files i hi
  obtain ⟨A, c, rfl, _⟩ := hv2.row
  have p0 : w.cell? ⟨b, i, none⟩ = some (.slice A (d.b i).length c) := (hk.cell _).trans hv1
  clear hk hc hv1 hv2 h ho
  by_cases hl0 : left < 0
  · have l0 : decide (left < 0) = true := by simp; omega
    clear hn
    go_enter Try.func13, Try.ntmps13
    go_wp2_with (fail)
    refine (there_in i hi _).mono ?_
    rintro e w1 ⟨rfl, rfl⟩
    go_wp2_with (fail)
    go_ret
    exact ⟨rfl, Kp.refl _ _, HD.out⟩
  · have l0 : decide (left < 0) = false := by simp; omega
    have l1 : decide (((d.b i).length : Int) < left) = true := by simp; omega
    have hi2 : (i : Int) < 64 := by omega
    clear hn
    go_enter Try.func13, Try.ntmps13
    go_wp2_with (fail)
    refine (there_in i hi _).mono ?_
    rintro e w1 ⟨rfl, rfl⟩
    go_wp2_with (fail)
    go_ret
    exact ⟨rfl, Kp.refl _ _, HD.out⟩

set_option maxRecDepth 100000 in
theorem rcut_down (B b i k : Nat) (hi : i < 64) (d : Dk) (hd : d.ok) (w : World) (h : RkAt w B b d) (h8 : d.step.2 = 8) (hkl : k ≤ (d.b i).length) :
    Calls Try.prog 13 #[.pointer (some ⟨b, 0, none⟩), .int .i64 i, .int .i64 k] w (RtPost B b d.step.1 (.int .i64 8) w) := by
  have hs := rstep_any B b d hd w h
  rw [h8] at hs
  have HS := Lib.hid hs
  obtain ⟨cs, hk, hc⟩ := h.row
  obtain ⟨v, hv1, hv2⟩ := hc.files i hi
  obtain ⟨A, c, rfl, _⟩ := hv2.row
  have p0 : w.cell? ⟨b, i, none⟩ = some (.slice A (d.b i).length c) := (hk.cell _).trans hv1
  have l0 : decide ((k : Int) < 0) = false := by simp
  have l1 : decide (((d.b i).length : Int) < (k : Int)) = false := by simp; omega
  have hi2 : (i : Int) < 64 := by omega
  clear hk hc hv1 hv2 h hs h8 hd
  go_enter Try.func13, Try.ntmps13
  go_wp2_with (fail)
  refine (there_in i hi _).mono ?_
  rintro e w ⟨rfl, rfl⟩
  go_wp2_with (fail)
  refine HS.out.mono ?_
  rintro e w1 ⟨rfl, k1, h1⟩
  have K1 := Lib.hid k1
  have H1 := Lib.hid h1
  clear k1 h1 HS p0
  go_wp2_with (fail)
  go_ret
  exact ⟨rfl, K1.out, H1.out⟩

theorem rcut_any (B b : Nat) (n left : Int) (d : Dk) (hd : d.ok) (w : World) (h : RkAt w B b d) :
    Calls Try.prog 13 #[.pointer (some ⟨b, 0, none⟩), .int .i64 n, .int .i64 left] w (RtPost B b (d.cut n left).1 (.int .i64 (d.cut n left).2) w) := by
  unfold Dk.cut
  by_cases hn : n < 0 ∨ 64 ≤ n ∨ left < 0 ∨ ((d.b n.toNat).length : Int) < left
  · rw [if_pos hn]
    exact rcut_arg B b n left d w h hn
  · rw [if_neg hn]
    obtain ⟨i, rfl⟩ : ∃ i : Nat, n = (i : Int) := ⟨n.toNat, by omega⟩
    obtain ⟨k, rfl⟩ : ∃ k : Nat, left = (k : Int) := ⟨left.toNat, by omega⟩
    have hi : i < 64 := by omega
    rw [Int.toNat_natCast, Int.toNat_natCast]
    rw [Int.toNat_natCast] at hn
    have hkl : k ≤ (d.b i).length := by omega
    rcases d.step_code with h0 | h8
    · rw [if_pos h0, ← d.step_b.1, ← d.step_b.2.1]
      exact rcut_main B b i k hi d hd w h h0 hkl
    · rw [if_neg (by rw [h8]; decide)]
      exact rcut_down B b i k hi d hd w h h8 hkl
end Go.Proofs.Ythblfkopofmdfaa
