/-
  Cut, Files.
-/
import Derived.Test.YthblfkopofmdfaaDiskAppend
import Derived.BigRegion
set_option linter.unusedVariables false
set_option linter.unusedSimpArgs false
namespace Go.Proofs.Ythblfkopofmdfaa
open Go.RowKit

def Dk.cut (d : Dk) (n left : Int) : Dk × Int :=
  if n < 0 ∨ 64 ≤ n ∨ left < 0 ∨ ((d.b n.toNat).length : Int) < left then (d, 1) else if d.step.2 = 0 then ({ d.step.1 with b := upd d.b n.toNat ((d.b n.toNat).take left.toNat), s := upd d.s n.toNat (min (d.s n.toNat) left.toNat) }, 0) else (d.step.1, 8)

theorem rd_take {w : World} {A : Option Addr} {l : List Int} (h : Rd w A (bys l)) (k : Nat) : Rd w A (bys (l.take k)) := by
  intro j u hj
  refine h j u ?_
  unfold bys at *
  rw [List.map_take] at hj
  rw [List.getElem?_take] at hj
  split at hj
  · exact hj
  · cases hj

theorem cut_fin {B b i : Nat} {d : Dk} {cs : Array Value} {v : Value} {l : List Int} {w w1 : World} (hB : B ≤ b) (hi : i < 64) (k1 : Kp (· = b) w w1) (hk : Bk w1 b 61 cs) (hc : Cs w1 B b d cs)
    (hf : Fl w1 B b v l) {x : Int} {n : Nat} (hx : x = n) : StPost B b { d with b := upd d.b i l, s := upd d.s i n } (.int .i64 0) w (.returned (.int .i64 0)) ((w1.setCell ⟨b, i * 2, none⟩ v).setCell ⟨b, i * 2 + 1, none⟩ (.int .i64 x)).drew := by
  subst hx
  have k2 : Kp (· = b) w1 ((w1.setCell ⟨b, i * 2, none⟩ v).setCell ⟨b, i * 2 + 1, none⟩ (.int .i64 n)).drew := (((Kp.refl (· = b) w1).set1 _ _).set1 _ _).drew
  refine .of hB (k1.tr k2) (((hk.put _ _).put _ _).drew) ?_
  exact Cs.putS (Cs.putB (hc.keep k2) hi (hf.keep k2)) hi n

set_option maxRecDepth 100000 in
set_option maxHeartbeats 2000000 in
theorem cut_any (B b : Nat) (n left : Int) (d : Dk) (hd : d.ok) (w : World) (h : DkAt w B b d) :
    Calls Try.prog 31 #[.pointer (some ⟨b, 0, none⟩), .int .i64 n, .int .i64 left] w (StPost B b (d.cut n left).1 (.int .i64 (d.cut n left).2) w) := by
  have HD := Lib.hid h
  have HO := Lib.hid hd
  have hge := h.ge
  unfold Dk.cut
  by_cases hn : n < 0 ∨ 64 ≤ n
  · rw [if_pos (by omega)]
    have HN := Lib.hid hn
    clear hn h hd
    go_enter Try.func31, Try.ntmps31
    go_wp2_with (fail)
    refine (of_out b n HN.out _).mono ?_
    rintro e w' ⟨rfl, rfl⟩
    go_wp2_with (fail)
    go_ret
    exact ⟨rfl, Kp.refl _ _, HD.out⟩
  obtain ⟨i, rfl⟩ : ∃ i : Nat, n = (i : Int) := ⟨n.toNat, by omega⟩
  have hi : i < 64 := by omega
  rw [Int.toNat_natCast]
  clear hn
  obtain ⟨cs, hk, hc⟩ := h.row
  obtain ⟨v, hv1, hv2⟩ := hc.files i hi
  obtain ⟨A, c, rfl, hr0, hr1, hr2, hr3⟩ := hv2.row
  have p0 : w.cell? ⟨b, i * 2, none⟩ = some (.slice A (d.b i).length c) := (hk.cell _).trans hv1
  clear hk hc hv1 hv2 hr0 hr1 hr2 hr3 h
  by_cases hl0 : left < 0
  · rw [if_pos (by omega)]
    have l0 : decide (left < 0) = true := by simp; omega
    go_enter Try.func31, Try.ntmps31
    go_wp2_with (fail)
    refine (of_in b i hi _).mono ?_
    rintro e w1 ⟨rfl, rfl⟩
    go_wp2_with (fail)
    go_ret
    exact ⟨rfl, Kp.refl _ _, HD.out⟩
  by_cases hl1 : ((d.b i).length : Int) < left
  · rw [if_pos (by omega)]
    have l0 : decide (left < 0) = false := by simp; omega
    have l1 : decide (((d.b i).length : Int) < left) = true := by simp; omega
    go_enter Try.func31, Try.ntmps31
    go_wp2_with (fail)
    refine (of_in b i hi _).mono ?_
    rintro e w1 ⟨rfl, rfl⟩
    go_wp2_with (fail)
    go_ret
    exact ⟨rfl, Kp.refl _ _, HD.out⟩
  rw [if_neg (by omega)]
  obtain ⟨k, rfl⟩ : ∃ k : Nat, left = (k : Int) := ⟨left.toNat, by omega⟩
  have hkl : k ≤ (d.b i).length := by omega
  rw [Int.toNat_natCast]
  have l0 : decide ((k : Int) < 0) = false := by simp
  have l1 : decide (((d.b i).length : Int) < (k : Int)) = false := by simp; omega
  clear hl0 hl1
  have hs := step_any B b d HO.out w HD.out
  have hb := d.step_b
  have hc := d.step_code
  have ho := d.step_ok HO.out
  generalize d.step.1 = d' at *
  generalize d.step.2 = e' at *
  obtain ⟨hb1, hb2, hb3⟩ := hb
  have HS := Lib.hid hs
  have HO' := Lib.hid ho
  rw [← hb1, ← hb2]
  rw [← hb1] at p0 hkl l1
  clear hs hb1 hb2 hb3 ho hd
  rcases hc with rfl | rfl
  · rw [if_pos rfl]
    go_enter Try.func31, Try.ntmps31
    go_wp2_with (fail)
    refine (of_in b i hi _).mono ?_
    rintro e w0 ⟨rfl, rfl⟩
    go_wp2_with (fail)
    refine HS.out.mono ?_
    rintro e w1 ⟨rfl, k1, h1⟩
    obtain ⟨cs, hk, hc⟩ := h1.row
    obtain ⟨v, hv1, hv2⟩ := hc.files i hi
    obtain ⟨A1, c1, rfl, hr0, hr1, hr2, hr3⟩ := hv2.row
    have q0 : w1.cell? ⟨b, i * 2, none⟩ = some (.slice A1 (d'.b i).length c1) := (hk.cell _).trans hv1
    have q1 : w1.cell? ⟨b, i * 2 + 1, none⟩ = some (.int .i64 (d'.s i)) := (hk.cell _).trans (hc.sure i hi)
    have f0 := hk.free (i * 2)
    have f1 := hk.free (i * 2 + 1)
    have HK := Lib.hid hk
    have HC := Lib.hid hc
    have K1 := Lib.hid k1
    have HR1 := Lib.hid hr1
    have HR2 := Lib.hid hr2
    have HR3 := Lib.hid hr3
    clear hk hc k1 hv1 hv2 h1 HS hr1 hr2 hr3 p0
    have hkc : k ≤ c1 := by omega
    go_wp2_with (fail)
    rcases HR2.out with rfl | ⟨g, o, rfl, _⟩
    · obtain ⟨e1, rfl⟩ := HR3.out rfl
      obtain rfl : k = 0 := by omega
      have hsi := HO'.out.sure i hi
      go_region
      all_goals go_wp2_with (fail)
      all_goals go_ret
      all_goals exact cut_fin hge hi K1.out HK.out HC.out ⟨_, _, rfl, by simp, by intro j u hj; simp [bys] at hj, .inl rfl, fun _ => ⟨by simp, rfl⟩⟩ (by simp; try omega)
    · go_region
      all_goals go_wp2_with (fail)
      all_goals go_ret
      all_goals exact cut_fin hge hi K1.out HK.out HC.out ⟨_, _, by rw [List.length_take, Nat.min_eq_left hkl], by simp; omega, rd_take HR1.out k, HR2.out, fun e => by cases e⟩ (by first | omega | (split <;> omega))
  · rw [if_neg (by decide)]
    go_enter Try.func31, Try.ntmps31
    go_wp2_with (fail)
    refine (of_in b i hi _).mono ?_
    rintro e w0 ⟨rfl, rfl⟩
    go_wp2_with (fail)
    refine HS.out.mono ?_
    rintro e w1 ⟨rfl, k1, h1⟩
    have K1 := Lib.hid k1
    have H1 := Lib.hid h1
    clear k1 h1 HS
    go_wp2_with (fail)
    go_ret
    exact ⟨rfl, K1.out, H1.out⟩
end Go.Proofs.Ythblfkopofmdfaa
