/-
  DiskDoes: two disks side by side; for every input true.
-/
import Derived.Test.YthblfkopofmdfaaDiskRefKept
import Derived.Deep.DeepCutAuto
import Derived.Deep.CutBlock
set_option linter.unusedVariables false
set_option linter.unusedSimpArgs false
namespace Go.Proofs.Ythblfkopofmdfaa
open Go.RowKit

theorem rcrash_any (B b : Nat) (A : Option Addr) (c : Nat) (kept : List Int) (d : Dk) (hd : d.ok) (w : World) (h : RkAt w B b d) (hr : Rd w A (ints kept)) (hAb : ∀ g o, A = some ⟨g, o, none⟩ → ints kept ≠ [] → g ≠ b) (hn : kept.length ≤ 1048576) :
    Calls Try.prog 15 #[.pointer (some ⟨b, 0, none⟩), .slice A kept.length c] w (RtPost B b (d.crash kept) (.tuple #[]) w) := by
  by_cases hk : kept.length = 0
  · obtain rfl : kept = [] := List.eq_nil_of_length_eq_zero hk
    exact rcrash_nil B b A c d hd w h
  · exact rcrash_cons B b A c kept d hd w h hr hAb (by omega) hn

theorem rread_any (B b : Nat) (n : Int) (d : Dk) (hd : d.ok) (w : World) (h : RkAt w B b d) : Calls Try.prog 17 #[.pointer (some ⟨b, 0, none⟩), .int .i64 n] w (RdAny (d.rd n) (rc n) w) := by
  unfold Dk.rd rc
  by_cases hn : n < 0 ∨ 64 ≤ n
  · rw [if_pos hn, if_pos hn]
    have HN := Lib.hid hn
    clear hn h hd
    go_enter Try.func17, Try.ntmps17
    go_wp2_with (fail)
    refine (there_out n HN.out _).mono ?_
    rintro e w ⟨rfl, rfl⟩
    go_wp2_with (fail)
    go_ret2
    exact ⟨none, 0, rfl, by intro j u hj; simp [bys] at hj, fun g o e => (by cases e), Below.refl _ _⟩
  · rw [if_neg hn, if_neg hn]
    obtain ⟨i, rfl⟩ : ∃ i : Nat, n = (i : Int) := ⟨n.toNat, by omega⟩
    rw [Int.toNat_natCast]
    refine (rread_in B b i (by omega) d hd w h).mono ?_
    rintro e w' ⟨v, rfl, ho, hb⟩
    obtain ⟨A, c, rfl⟩ := own_shape ho
    exact ⟨A, c, rfl, own_rd ho, fun g o e => (own_ge ho g (by rw [e]; rfl)).1, hb⟩

def Dk.su (d : Dk) (n : Int) : Int := if n < 0 ∨ 64 ≤ n then 0 else d.s n.toNat

theorem sure_any (B b : Nat) (n : Int) (d : Dk) (w : World) (h : DkAt w B b d) : Calls Try.prog 19 #[.pointer (some ⟨b, 0, none⟩), .int .i64 n] w fun e w' => e = .returned (.int .i64 (d.su n)) ∧ w' = w := by
  unfold Dk.su
  by_cases hn : n < 0 ∨ 64 ≤ n
  · rw [if_pos hn]
    exact sure_out b n hn w
  · rw [if_neg hn]
    obtain ⟨i, rfl⟩ : ∃ i : Nat, n = (i : Int) := ⟨n.toNat, by omega⟩
    rw [Int.toNat_natCast]
    exact sure_in B b i (by omega) d w h

theorem rsure_any (B b : Nat) (n : Int) (d : Dk) (w : World) (h : RkAt w B b d) : Calls Try.prog 20 #[.pointer (some ⟨b, 0, none⟩), .int .i64 n] w fun e w' => e = .returned (.int .i64 (d.su n)) ∧ w' = w := by
  unfold Dk.su
  by_cases hn : n < 0 ∨ 64 ≤ n
  · rw [if_pos hn]
    exact rsure_out b n hn w
  · rw [if_neg hn]
    obtain ⟨i, rfl⟩ : ∃ i : Nat, n = (i : Int) := ⟨n.toNat, by omega⟩
    rw [Int.toNat_natCast]
    exact rsure_in B b i (by omega) d w h

/-- No cell of a disk is a byte. -/
theorem dk_nobyte {w : World} {B b : Nat} {d : Dk} (h : DkAt w B b d) (o : Nat) (x : Int) : w.cell? ⟨b, o, none⟩ ≠ some (.int .u8 x) := by
  obtain ⟨cs, hk, hc⟩ := h.row
  rw [hk.cell]
  intro e
  rcases Nat.lt_or_ge o 128 with ho | ho
  · obtain ⟨v, h1, h2⟩ := hc.files (o / 2) (by omega)
    have h3 := hc.sure (o / 2) (by omega)
    obtain ⟨A, c, rfl, _⟩ := h2.row
    rcases Nat.mod_two_eq_zero_or_one o with m | m
    · rw [show o / 2 * 2 = o by omega, e] at h1
      cases h1
    · rw [show o / 2 * 2 + 1 = o by omega, e] at h3
      cases h3
  · obtain ⟨z, h1, _⟩ := hc.fuse
    have h2 := hc.room
    have h3 := hc.down
    have h4 := hc.fused
    have hs := hc.size
    have hlt : o < cs.size := by
      rcases Nat.lt_or_ge o cs.size with h | h
      · exact h
      · rw [Array.getElem?_eq_none h] at e; cases e
    have hcase : o = 128 ∨ o = 129 ∨ o = 130 ∨ o = 131 := by omega
    rcases hcase with rfl | rfl | rfl | rfl
    · rw [e] at h2; cases h2
    · rw [e] at h1; cases h1
    · rw [e] at h3; cases h3
    · rw [e] at h4; cases h4

theorem rk_nobyte {w : World} {B b : Nat} {d : Dk} (h : RkAt w B b d) (o : Nat) (x : Int) : w.cell? ⟨b, o, none⟩ ≠ some (.int .u8 x) := by
  obtain ⟨cs, hk, hc⟩ := h.row
  rw [hk.cell]
  intro e
  rcases Nat.lt_or_ge o 64 with ho | ho
  · obtain ⟨v, h1, h2⟩ := hc.files o ho
    obtain ⟨A, c, rfl, _⟩ := h2.row
    rw [e] at h1
    cases h1
  rcases Nat.lt_or_ge o 128 with ho2 | ho2
  · have h3 := hc.sure (o - 64) (by omega)
    rw [show 64 + (o - 64) = o by omega, e] at h3
    cases h3
  · have h1 := hc.fuse
    have h2 := hc.room
    have h3 := hc.down
    have hs := hc.size
    have hlt : o < cs.size := by
      rcases Nat.lt_or_ge o cs.size with h | h
      · exact h
      · rw [Array.getElem?_eq_none h] at e; cases e
    have hcase : o = 128 ∨ o = 129 ∨ o = 130 := by omega
    rcases hcase with rfl | rfl | rfl
    · rw [e] at h2; cases h2
    · rw [e] at h1; cases h1
    · rw [e] at h3; cases h3

/-- A file's slice is kept by a step upon a block that holds no byte. -/
theorem Fl.other {w w' : World} {B r b : Nat} {v : Value} {l : List Int} (h : Fl w B r v l) (k : Kp (· = b) w w') (hb : ∀ o x, w.cell? ⟨b, o, none⟩ ≠ some (.int .u8 x)) : Fl w' B r v l := by
  obtain ⟨A, c, rfl, hc, hr, hA, h0⟩ := h.row
  refine ⟨A, c, rfl, hc, ?_, ?_, h0⟩
  · intro j u hj
    obtain ⟨g, o, rfl, hl, hcell⟩ := hr j u hj
    have hne : g ≠ b := by
      rintro rfl
      obtain ⟨x, _, hx⟩ := List.mem_map.mp (List.mem_of_getElem? hj)
      subst hx
      exact hb _ _ hcell
    exact ⟨g, o, rfl, Nat.lt_of_lt_of_le hl k.size, (k.cell (p := ⟨g, o + j, none⟩) hl hne).trans hcell⟩
  · rcases hA with rfl | ⟨g, o, rfl, h1, h2, h3⟩
    · exact .inl rfl
    · exact .inr ⟨g, o, rfl, h1, h2, Nat.lt_of_lt_of_le h3 k.size⟩

theorem RkAt.other {w w' : World} {B B' r b : Nat} {d d' : Dk} (h : RkAt w B r d) (hb : DkAt w B' b d') (hne : r ≠ b) (k : Kp (· = b) w w') : RkAt w' B r d := by
  obtain ⟨cs, hk, hc⟩ := h.row
  exact ⟨h.ge, cs, hk.kp k hne, hc.size, fun i hi => by obtain ⟨v, h1, h2⟩ := hc.files i hi; exact ⟨v, h1, h2.other k (dk_nobyte hb)⟩, hc.sure, hc.room, hc.fuse, hc.down⟩

theorem DkAt.other {w w' : World} {B B' r b : Nat} {d d' : Dk} (h : DkAt w B b d) (hb : RkAt w B' r d') (hne : b ≠ r) (k : Kp (· = r) w w') : DkAt w' B b d := by
  obtain ⟨cs, hk, hc⟩ := h.row
  exact ⟨h.ge, cs, hk.kp k hne, hc.size, fun i hi => by obtain ⟨v, h1, h2⟩ := hc.files i hi; exact ⟨v, h1, h2.other k (rk_nobyte hb)⟩, hc.sure, hc.room, hc.fuse, hc.down, hc.fused⟩
end Go.Proofs.Ythblfkopofmdfaa
