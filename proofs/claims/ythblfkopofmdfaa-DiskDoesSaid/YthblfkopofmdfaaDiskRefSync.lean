/-
  The document's disk: Sync.
-/
import Derived.Test.YthblfkopofmdfaaDiskRefFiles
set_option linter.unusedVariables false
set_option linter.unusedSimpArgs false
namespace Go.Proofs.Ythblfkopofmdfaa
open Go.RowKit

theorem Rs.putB {w : World} {B b : Nat} {d : Dk} {cs : Array Value} (h : Rs w B b d cs) {i : Nat} (hi : i < 64) {v : Value} {l : List Int} (hv : Fl w B b v l) : Rs w B b { d with b := upd d.b i l } (cs.setIfInBounds i v) := by
  have hz := h.size
  refine ⟨by simp [hz], fun k hk => ?_, fun k hk => ?_, ?_, ?_, ?_⟩
  · obtain ⟨v', h1, h2⟩ := h.files k hk
    by_cases e : k = i
    · subst e
      exact ⟨v, by rw [set_at _ _ _ _ (by omega), if_pos rfl], by simpa [upd] using hv⟩
    · exact ⟨v', by rw [set_at _ _ _ _ (by omega), if_neg (by omega)]; exact h1, by simpa [upd, e] using h2⟩
  · rw [set_at _ _ _ _ (by omega), if_neg (by omega)]; exact h.sure k hk
  · rw [set_at _ _ _ _ (by omega), if_neg (by omega)]; exact h.room
  · rw [set_at _ _ _ _ (by omega), if_neg (by omega)]; exact h.fuse
  · rw [set_at _ _ _ _ (by omega), if_neg (by omega)]; exact h.down

theorem Rs.putS {w : World} {B b : Nat} {d : Dk} {cs : Array Value} (h : Rs w B b d cs) {i : Nat} (hi : i < 64) (n : Nat) : Rs w B b { d with s := upd d.s i n } (cs.setIfInBounds (64 + i) (.int .i64 n)) := by
  have hz := h.size
  refine ⟨by simp [hz], fun k hk => ?_, fun k hk => ?_, ?_, ?_, ?_⟩
  · obtain ⟨v', h1, h2⟩ := h.files k hk
    exact ⟨v', by rw [set_at _ _ _ _ (by omega), if_neg (by omega)]; exact h1, h2⟩
  · by_cases e : k = i
    · subst e
      rw [set_at _ _ _ _ (by omega), if_pos rfl]; simp [upd]
    · rw [set_at _ _ _ _ (by omega), if_neg (by omega)]; simpa [upd, e] using h.sure k hk
  · rw [set_at _ _ _ _ (by omega), if_neg (by omega)]; exact h.room
  · rw [set_at _ _ _ _ (by omega), if_neg (by omega)]; exact h.fuse
  · rw [set_at _ _ _ _ (by omega), if_neg (by omega)]; exact h.down

theorem rsync_any (B b : Nat) (n : Int) (d : Dk) (hd : d.ok) (w : World) (h : RkAt w B b d) : Calls Try.prog 12 #[.pointer (some ⟨b, 0, none⟩), .int .i64 n] w (RtPost B b (d.sync n).1 (.int .i64 (d.sync n).2) w) := by
  have HD := Lib.hid h
  have HO := Lib.hid hd
  have hge := h.ge
  clear h hd
  unfold Dk.sync
  by_cases hn : n < 0 ∨ 64 ≤ n
  · rw [if_pos hn]
    have HN := Lib.hid hn
    clear hn
    go_enter Try.func12, Try.ntmps12
    go_wp2_with (fail)
    refine (there_out n HN.out _).mono ?_
    rintro e w' ⟨rfl, rfl⟩
    go_wp2_with (fail)
    go_ret
    exact ⟨rfl, Kp.refl _ _, HD.out⟩
  · rw [if_neg hn]
    obtain ⟨i, rfl⟩ : ∃ i : Nat, n = (i : Int) := ⟨n.toNat, by omega⟩
    have hi : i < 64 := by omega
    rw [Int.toNat_natCast]
    clear hn
    have hs := rstep_any B b d HO.out w HD.out
    have hb := d.step_b
    have hc := d.step_code
    generalize d.step.1 = d' at *
    generalize d.step.2 = e' at *
    obtain ⟨hb1, hb2, hb3⟩ := hb
    have HS := Lib.hid hs
    rw [← hb1, ← hb2]
    clear hs hb1 hb2 hb3
    rcases hc with rfl | rfl
    · rw [if_pos rfl]
      go_enter Try.func12, Try.ntmps12
      go_wp2_with (fail)
      refine (there_in i hi _).mono ?_
      rintro e w' ⟨rfl, rfl⟩
      go_wp2_with (fail)
      refine HS.out.mono ?_
      rintro e w1 ⟨rfl, k1, h1⟩
      obtain ⟨cs, hk, hc⟩ := h1.row
      obtain ⟨v, hv1, hv2⟩ := hc.files i hi
      obtain ⟨A, c, rfl, _⟩ := hv2.row
      have q0 : w1.cell? ⟨b, i, none⟩ = some (.slice A (d'.b i).length c) := (hk.cell _).trans hv1
      have q1 : w1.cell? ⟨b, 64 + i, none⟩ = some (.int .i64 (d'.s i)) := (hk.cell _).trans (hc.sure i hi)
      have f1 := hk.free (64 + i)
      have HK := Lib.hid hk
      have HC := Lib.hid hc
      have K1 := Lib.hid k1
      clear hk hc k1 hv1 hv2 h1 HS
      go_wp2_with (fail)
      go_region
      all_goals go_wp2_with (fail)
      all_goals go_ret
      all_goals exact .of hge ((K1.out.set1 _ _).drew) ((HK.out.put _ _).drew) ((HC.out.keep (((Kp.refl (· = b) w1).set1 _ _).drew)).putS hi _)
    · rw [if_neg (by decide)]
      go_enter Try.func12, Try.ntmps12
      go_wp2_with (fail)
      refine (there_in i hi _).mono ?_
      rintro e w' ⟨rfl, rfl⟩
      go_wp2_with (fail)
      refine HS.out.mono ?_
      rintro e w1 ⟨rfl, k1, h1⟩
      have K1 := Lib.hid k1
      have H1 := Lib.hid h1
      clear k1 h1 HS
      go_wp2_with (fail)
      go_ret
      exact ⟨rfl, K1.out, H1.out⟩
end Go.Proofs.Ythblfkopofmdfaa
