/-
  do: an act upon a disk; Same, Ints, large.
-/
import Derived.Test.YthblfkopofmdfaaDiskDo
set_option linter.unusedVariables false
set_option linter.unusedSimpArgs false
namespace Go.Proofs.Ythblfkopofmdfaa
open Go.RowKit

/-- An act's two slices, as they can be read beside a disk at block b. -/
structure AcIn (w : World) (b : Nat) (a : Ac) (AB : Option Addr) (AK : Option Addr) : Prop where
  rb : Rd w AB (bys a.b)
  zb : AB = none → a.b.length = 0
  fb : ∀ g o, AB = some ⟨g, o, none⟩ → bys a.b ≠ [] → g ≠ b
  lb : a.b.length ≤ 1048576
  rk : Rd w AK (ints a.k)
  fk : ∀ g o, AK = some ⟨g, o, none⟩ → ints a.k ≠ [] → g ≠ b
  lk : a.k.length ≤ 1048576
  n : a.n ≤ 9223372036854775807

theorem AcIn.kp {w w' : World} {b : Nat} {a : Ac} {AB AK : Option Addr} (h : AcIn w b a AB AK) (k : Kp (· = b) w w') : AcIn w' b a AB AK :=
  ⟨rd_kp h.rb k h.fb, h.zb, h.fb, h.lb, rd_kp h.rk k h.fk, h.fk, h.lk, h.n⟩

theorem st_box {B b : Nat} {d : Dk} {v : Value} {w W w' : World} {e : Ending} (hb : Kp (· = b) w W) (h : StPost B b d v W e w') : StPost B b d v w e w' := ⟨h.1, hb.tr h.2.1, h.2.2⟩

set_option maxRecDepth 100000 in
set_option maxHeartbeats 2000000 in
theorem do_any (B b : Nat) (d : Dk) (hd : d.ok) (w : World) (h : DkAt w B b d) (a : Ac) (AB AK : Option Addr) (cB cK : Nat) (ha : AcIn w b a AB AK) :
    Calls Try.prog 10 #[.pointer (some ⟨b, 0, none⟩), .agg #[.int .i64 a.d, .int .i64 a.f, .int .i64 a.n, .slice AB a.b.length cB, .slice AK a.k.length cK]] w (StPost B b (d.act a).1 (.int .i64 (d.act a).2) w) := by
  have K1 : Hid (Kp (· = b) w (w.alloc (.cells #[.int .i64 a.d, .int .i64 a.f, .int .i64 a.n, .slice AB a.b.length cB, .slice AK a.k.length cK] 35))) := (Kp.refl _ w).alloc _
  have HA := Lib.hid (ha.kp K1.out)
  have HB : Hid (DkAt (w.alloc (.cells #[.int .i64 a.d, .int .i64 a.f, .int .i64 a.n, .slice AB a.b.length cB, .slice AK a.k.length cK] 35)) B b d) := h.box ((Below.refl _ _).alloc (Nat.le_refl _) _)
  have HO := Lib.hid hd
  clear ha h hd
  obtain ⟨ad, af, an, ab, ak⟩ := a
  unfold Dk.act
  dsimp only at *
  by_cases h0 : ad = 0
  · subst h0
    rw [if_pos rfl]
    have HC := Lib.hid (append_any B b af AB cB ab d HO.out _ HB.out HA.out.rb HA.out.zb HA.out.fb HA.out.lb)
    go_enter Try.func10, Try.ntmps10
    go_wp2_with (fail)
    refine HC.out.mono ?_
    rintro e w1 ⟨rfl, k1, h1⟩
    have K2 := Lib.hid (K1.out.tr k1)
    have H1 := Lib.hid h1
    clear k1 h1 HC
    go_wp2_with (fail)
    go_ret
    exact ⟨rfl, K2.out, H1.out⟩
  rw [if_neg h0]
  have g0 : (ad == 0) = false := by simpa using h0
  clear h0
  by_cases h1 : ad = 1
  · subst h1
    rw [if_pos rfl]
    have HC := Lib.hid (sync_any B b af d HO.out _ HB.out)
    go_enter Try.func10, Try.ntmps10
    go_wp2_with (fail)
    refine HC.out.mono ?_
    rintro e w1 ⟨rfl, k1, h1⟩
    have K2 := Lib.hid (K1.out.tr k1)
    have H1 := Lib.hid h1
    clear k1 h1 HC
    go_wp2_with (fail)
    go_ret
    exact ⟨rfl, K2.out, H1.out⟩
  rw [if_neg h1]
  have g1 : (ad == 1) = false := by simpa using h1
  clear h1
  by_cases h2 : ad = 2
  · subst h2
    rw [if_pos rfl]
    have HC := Lib.hid (cut_any B b af an d HO.out _ HB.out)
    go_enter Try.func10, Try.ntmps10
    go_wp2_with (fail)
    refine HC.out.mono ?_
    rintro e w1 ⟨rfl, k1, h1⟩
    have K2 := Lib.hid (K1.out.tr k1)
    have H1 := Lib.hid h1
    clear k1 h1 HC
    go_wp2_with (fail)
    go_ret
    exact ⟨rfl, K2.out, H1.out⟩
  rw [if_neg h2]
  have g2 : (ad == 2) = false := by simpa using h2
  clear h2
  by_cases h3 : ad = 3
  · subst h3
    rw [if_pos rfl]
    have HC := Lib.hid (fuse_any B b an d _ HB.out)
    go_enter Try.func10, Try.ntmps10
    go_wp2_with (fail)
    refine HC.out.mono ?_
    rintro e w1 ⟨rfl, k1, h1⟩
    have K2 := Lib.hid (K1.out.tr k1)
    have H1 := Lib.hid h1
    clear k1 h1 HC
    go_wp2_with (fail)
    go_ret
    exact ⟨rfl, K2.out, H1.out⟩
  rw [if_neg h3]
  have g3 : (ad == 3) = false := by simpa using h3
  clear h3
  by_cases h4 : ad = 4
  · subst h4
    rw [if_pos rfl]
    have HC := Lib.hid (crash_any B b AK cK ak d HO.out _ HB.out HA.out.rk HA.out.fk HA.out.lk)
    go_enter Try.func10, Try.ntmps10
    go_wp2_with (fail)
    refine HC.out.mono ?_
    rintro e w1 ⟨rfl, k1, h1⟩
    have K2 := Lib.hid (K1.out.tr k1)
    have H1 := Lib.hid h1
    clear k1 h1 HC
    go_wp2_with (fail)
    go_ret
    exact ⟨rfl, K2.out, H1.out⟩
  rw [if_neg h4]
  have g4 : (ad == 4) = false := by simpa using h4
  clear h4
  go_enter Try.func10, Try.ntmps10
  go_wp2_with (fail)
  go_ret
  exact ⟨rfl, K1.out, HB.out⟩

theorem rd_at {w : World} {A : Option Addr} {xs : List Value} {k : Nat} {u : Value} (h : Rd w A xs) (hk : xs[k]? = some u) : ∃ b o, A = some ⟨b, o, none⟩ ∧ b < w.heap.size ∧ w.cell? ⟨b, o + k, none⟩ = some u := h k u hk

set_option maxRecDepth 100000 in
set_option maxHeartbeats 2000000 in
/-- Ints, of the same numbers: true. -/
theorem ints_any (A A' : Option Addr) (c c' : Nat) (l : List Int) (w : World) (h : Rd w A (ints l)) (h' : Rd w A' (ints l)) (hn : l.length ≤ 1048576) :
    Calls Try.prog 24 #[.slice A l.length c, .slice A' l.length c'] w fun e w' => e = .returned (.bool true) ∧ Below w.heap.size w w' := by
  have HR := Lib.hid h
  have HR' := Lib.hid h'
  clear h h'
  go_enter Try.func24, Try.ntmps24
  go_wp2_with (fail)
  go_loopw [5] (fun i wr => ∃ k : Nat, k ≤ l.length ∧ i = .int .i64 k ∧ Below w.heap.size w wr) (fun i _ => l.length - (intOf i).toNat)
  case atStart => exact ⟨0, Nat.zero_le _, rfl, Below.refl _ _⟩
  case round =>
    obtain ⟨k, hk, rfl, hb⟩ := hrel
    by_cases hlt : k < l.length
    · have hu : (ints l)[k]? = some (.int .i64 l[k]) := by simp [ints, List.getElem?_eq_getElem hlt]
      obtain ⟨ab, ao, rfl, _, p0⟩ := rd_at (HR.out.below hb) hu
      obtain ⟨ab', ao', rfl, _, q0⟩ := rd_at (HR'.out.below hb) hu
      clear hu
      generalize l[k] = m at *
      go_wp2_with (fail)
      go_quiet (fail)
      go_wp2_with (fail)
      go_roundw
      case rel => exact ⟨k + 1, by omega, by go_num, below_drewN hb _⟩
      case measure => simp [intOf]; omega
    · go_wp2_with (fail)
      go_ret
      exact ⟨rfl, hb⟩

set_option maxRecDepth 100000 in
set_option maxHeartbeats 2000000 in
/-- Same, of the same bytes: true. -/
theorem same_any (A A' : Option Addr) (c c' : Nat) (l : List Int) (w : World) (h : Rd w A (bys l)) (h' : Rd w A' (bys l)) (hn : l.length ≤ 1048576) :
    Calls Try.prog 18 #[.slice A l.length c, .slice A' l.length c'] w fun e w' => e = .returned (.bool true) ∧ Below w.heap.size w w' := by
  have HR := Lib.hid h
  have HR' := Lib.hid h'
  clear h h'
  go_enter Try.func18, Try.ntmps18
  go_wp2_with (fail)
  go_loopw [5] (fun i wr => ∃ k : Nat, k ≤ l.length ∧ i = .int .i64 k ∧ Below w.heap.size w wr) (fun i _ => l.length - (intOf i).toNat)
  case atStart => exact ⟨0, Nat.zero_le _, rfl, Below.refl _ _⟩
  case round =>
    obtain ⟨k, hk, rfl, hb⟩ := hrel
    by_cases hlt : k < l.length
    · have hu : (bys l)[k]? = some (.int .u8 l[k]) := by simp [bys, List.getElem?_eq_getElem hlt]
      obtain ⟨ab, ao, rfl, _, p0⟩ := rd_at (HR.out.below hb) hu
      obtain ⟨ab', ao', rfl, _, q0⟩ := rd_at (HR'.out.below hb) hu
      clear hu
      generalize l[k] = m at *
      go_wp2_with (fail)
      go_quiet (fail)
      go_wp2_with (fail)
      go_roundw
      case rel => exact ⟨k + 1, by omega, by go_num, below_drewN hb _⟩
      case measure => simp [intOf]; omega
    · go_wp2_with (fail)
      go_ret
      exact ⟨rfl, hb⟩

/-- The act at place k of the argument. -/
def ActAt (w : World) (A : Option Addr) (k : Nat) (a : Ac) : Prop :=
  ∃ g o AB AK cB cK, A = some ⟨g, o, none⟩ ∧ g < w.heap.size ∧ w.cell? ⟨g, o + k * 5, none⟩ = some (.int .i64 a.d) ∧ w.cell? ⟨g, o + k * 5 + 1, none⟩ = some (.int .i64 a.f) ∧ w.cell? ⟨g, o + k * 5 + 2, none⟩ = some (.int .i64 a.n) ∧
    w.cell? ⟨g, o + k * 5 + 3, none⟩ = some (.slice AB a.b.length cB) ∧ w.cell? ⟨g, o + k * 5 + 4, none⟩ = some (.slice AK a.k.length cK) ∧ Rd w AB (bys a.b) ∧ (AB = none → a.b.length = 0) ∧ Rd w AK (ints a.k) ∧ a.n ≤ 9223372036854775807 ∧ a.b.length ≤ 9223372036854775807 ∧ a.k.length ≤ 9223372036854775807

def ActsAt (w : World) (A : Option Addr) (l : List Ac) : Prop := ∀ k (h : k < l.length), ActAt w A k l[k]

theorem ActAt.below {w w' : World} {A : Option Addr} {k : Nat} {a : Ac} (h : ActAt w A k a) (hb : Below w.heap.size w w') : ActAt w' A k a := by
  obtain ⟨g, o, AB, AK, cB, cK, rfl, hg, q0, q1, q2, q3, q4, r1, z1, r2, hn⟩ := h
  have hc : ∀ j x, w.cell? ⟨g, j, none⟩ = some x → w'.cell? ⟨g, j, none⟩ = some x := fun j x hx => (World.cell?_of_block (w := w) (a := ⟨g, j, none⟩) (hb.block g hg)).trans hx
  exact ⟨g, o, AB, AK, cB, cK, rfl, Nat.lt_of_lt_of_le hg hb.size, hc _ _ q0, hc _ _ q1, hc _ _ q2, hc _ _ q3, hc _ _ q4, r1.below hb, z1, r2.below hb, hn⟩

def fits (a : Ac) : Prop := a.b.length ≤ 500 ∧ a.k.length ≤ 60

set_option maxRecDepth 100000 in
set_option maxHeartbeats 2000000 in
theorem large_any (A : Option Addr) (c : Nat) (l : List Ac) (w : World) (h : ActsAt w A l) (hl : l.length ≤ 9223372036854775807) :
    Calls Try.prog 7 #[.slice A l.length c] w fun e w' => ∃ r : Bool, e = .returned (.bool r) ∧ (r = false → l.length ≤ 60 ∧ ∀ k (h : k < l.length), fits l[k]) ∧ Below w.heap.size w w' := by
  have HR := Lib.hid h
  clear h
  go_enter Try.func7, Try.ntmps7
  by_cases c0 : 60 < l.length
  · have t0 : decide ((60 : Int) < (l.length : Int)) = true := by simp; omega
    go_wp2_with (fail)
    go_ret
    exact ⟨true, rfl, (fun h => by cases h), Below.refl _ _⟩
  have t0 : decide ((60 : Int) < (l.length : Int)) = false := by simp; omega
  go_wp2_with (fail)
  go_loopw [10] (fun i wr => ∃ k : Nat, k ≤ l.length ∧ i = .int .i64 k ∧ Below w.heap.size w wr ∧ ∀ j (h : j < l.length), j < k → fits l[j]) (fun i _ => l.length - (intOf i).toNat)
  case atStart => exact ⟨0, Nat.zero_le _, rfl, Below.refl _ _, fun j _ h => absurd h (by omega)⟩
  case round =>
    obtain ⟨k, hk, rfl, hb, hft⟩ := hrel
    have HF := Lib.hid hft
    clear hft
    by_cases hlt : k < l.length
    · obtain ⟨g, o, AB, AK, cB, cK, rfl, hg, q0, q1, q2, q3, q4, r1, z1, r2, hn1, hn2, hn3⟩ := (HR.out k hlt).below hb
      clear r1 z1 r2
      have HK : Hid (∀ (j : Nat) (h : j < l.length), j < k + 1 → fits l[k] → fits l[j]) := by
        intro j h hj hf
        by_cases e : j = k
        · subst e; exact hf
        · exact HF.out j h (by omega)
      generalize hA : l[k] = a at *
      clear hA
      by_cases c1 : 500 < a.b.length
      · have t1 : decide ((500 : Int) < (a.b.length : Int)) = true := by simp; omega
        go_wp2_with (fail)
        go_ret
        exact ⟨true, rfl, (fun h => by cases h), hb.alloc hb.size _⟩
      have t1 : decide ((500 : Int) < (a.b.length : Int)) = false := by simp; omega
      by_cases c2 : 60 < a.k.length
      · have t2 : decide ((60 : Int) < (a.k.length : Int)) = true := by simp; omega
        go_wp2_with (fail)
        go_ret
        exact ⟨true, rfl, (fun h => by cases h), hb.alloc hb.size _⟩
      have t2 : decide ((60 : Int) < (a.k.length : Int)) = false := by simp; omega
      have hfa : Hid (fits a) := ⟨by omega, by omega⟩
      have hsz := hb.size
      go_wp2_with (fail)
      go_roundw
      case rel => exact ⟨k + 1, by omega, by go_num, hb.alloc hsz _, fun j h hj => HK.out j h hj hfa.out⟩
      case measure => simp [intOf]; omega
    · go_wp2_with (fail)
      go_ret
      exact ⟨false, rfl, fun _ => ⟨by omega, fun j h => HF.out j h (by omega)⟩, hb⟩
end Go.Proofs.Ythblfkopofmdfaa
