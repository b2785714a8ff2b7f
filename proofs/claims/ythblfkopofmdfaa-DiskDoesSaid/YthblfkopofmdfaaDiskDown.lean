/-
  DiskDown: for every input true; what was there stays.
-/
import Derived.Test.YthblfkopofmdfaaDiskAwake
set_option linter.unusedVariables false
set_option linter.unusedSimpArgs false
namespace Go.Proofs.Ythblfkopofmdfaa
open Go.RowKit

def Dk.rd (d : Dk) (n : Int) : List Int := if n < 0 ∨ 64 ≤ n then [] else d.b n.toNat
def rc (n : Int) : Int := if n < 0 ∨ 64 ≤ n then 1 else 0

/-- Read, of whatever number. -/
def RdAny (xs : List Int) (code : Int) (w : World) (e : Ending) (w' : World) : Prop :=
  ∃ A c, e = .returned (.tuple #[.slice A xs.length c, .int .i64 code]) ∧ Rd w' A (bys xs) ∧ (∀ g o, A = some ⟨g, o, none⟩ → w.heap.size ≤ g) ∧ Below w.heap.size w w'

theorem read_any (B b : Nat) (n : Int) (d : Dk) (hd : d.ok) (w : World) (h : DkAt w B b d) : Calls Try.prog 16 #[.pointer (some ⟨b, 0, none⟩), .int .i64 n] w (RdAny (d.rd n) (rc n) w) := by
  unfold Dk.rd rc
  by_cases hn : n < 0 ∨ 64 ≤ n
  · rw [if_pos hn, if_pos hn]
    refine (read_out b n hn w).mono ?_
    rintro e w' ⟨rfl, rfl⟩
    exact ⟨none, 0, rfl, by intro j u hj; simp [bys] at hj, fun g o e => (by cases e), Below.refl _ _⟩
  · rw [if_neg hn, if_neg hn]
    obtain ⟨i, rfl⟩ : ∃ i : Nat, n = (i : Int) := ⟨n.toNat, by omega⟩
    rw [Int.toNat_natCast]
    refine (read_in B b i (by omega) d hd w h).mono ?_
    rintro e w' ⟨v, rfl, ho, hb⟩
    obtain ⟨A, c, rfl⟩ := own_shape ho
    exact ⟨A, c, rfl, own_rd ho, fun g o e => (own_ge ho g (by rw [e]; rfl)).1, hb⟩

theorem Dk.step_down {d : Dk} (h : d.down = true) : d.step = (d, 8) := by
  unfold Dk.step
  rw [if_pos h]

theorem down_sync (d : Dk) : ((d.fuse 0).sync 0).2 = 8 ∧ ((d.fuse 0).sync 0).1.down = true := by
  have hs : (d.fuse 0).step.2 = 8 ∧ (d.fuse 0).step.1.down = true := by
    unfold Dk.step
    by_cases h : (d.fuse 0).down = true
    · rw [if_pos h]
      exact ⟨rfl, h⟩
    · rw [if_neg h]
      exact ⟨rfl, rfl⟩
  unfold Dk.sync
  rw [if_neg (by omega), if_neg (by rw [hs.1]; decide)]
  exact ⟨rfl, hs.2⟩

/-- Without power an act leaves all as it was. -/
structure Still (d d' : Dk) : Prop where
  b : d'.b = d.b
  s : d'.s = d.s
  room : d'.room = d.room
  down : d'.down = true

theorem act_still {d d' : Dk} (h : Still d d') (a : Ac) (h4 : a.d ≠ 4) : Still d (d'.act a).1 ∧ (0 ≤ a.d → a.d ≤ 2 → (d'.act a).2 = 8 ∨ (d'.act a).2 = 1) := by
  have hs := Dk.step_down h.down
  unfold Dk.act
  by_cases h0 : a.d = 0
  · rw [if_pos h0]
    unfold Dk.append
    rw [hs]
    split
    · exact ⟨h, fun _ _ => .inr rfl⟩
    · rw [if_neg (show ¬ (8 : Int) = 0 by decide)]
      exact ⟨h, fun _ _ => .inl rfl⟩
  rw [if_neg h0]
  by_cases h1 : a.d = 1
  · rw [if_pos h1]
    unfold Dk.sync
    rw [hs]
    split
    · exact ⟨h, fun _ _ => .inr rfl⟩
    · rw [if_neg (show ¬ (8 : Int) = 0 by decide)]
      exact ⟨h, fun _ _ => .inl rfl⟩
  rw [if_neg h1]
  by_cases h2 : a.d = 2
  · rw [if_pos h2]
    unfold Dk.cut
    rw [hs]
    split
    · exact ⟨h, fun _ _ => .inr rfl⟩
    · rw [if_neg (show ¬ (8 : Int) = 0 by decide)]
      exact ⟨h, fun _ _ => .inl rfl⟩
  rw [if_neg h2]
  by_cases h3 : a.d = 3
  · rw [if_pos h3]
    exact ⟨⟨h.b, h.s, h.room, h.down⟩, fun _ _ => by omega⟩
  rw [if_neg h3, if_neg h4]
  exact ⟨h, fun _ _ => by omega⟩

theorem Still.left {d d' : Dk} (h : Still d d') : d'.left = d.left := by unfold Dk.left; rw [h.b, h.room]
theorem Still.rd {d d' : Dk} (h : Still d d') (n : Int) : d'.rd n = d.rd n := by unfold Dk.rd; rw [h.b]

theorem rd_ne {w : World} {A : Option Addr} {xs : List Value} {b : Nat} (h : Rd w A xs) (hb : w.heap.size ≤ b) : ∀ g o, A = some ⟨g, o, none⟩ → xs ≠ [] → g ≠ b := by
  intro g o e hne
  cases xs with
  | nil => exact absurd rfl hne
  | cons x xs =>
    obtain ⟨g', o', e', hl, _⟩ := h 0 x rfl
    rw [e'] at e
    injection e with e
    injection e with e1
    omega

/-- What an act of the argument shows beside a disk that came later. -/
theorem act_in {w wr : World} {A : Option Addr} {k b : Nat} {a : Ac} (h : ActAt w A k a) (hb : w.heap.size ≤ b) (hw : Below w.heap.size w wr) (hf : fits a) :
    ∃ g o AB AK cB cK, A = some ⟨g, o, none⟩ ∧ wr.cell? ⟨g, o + k * 5, none⟩ = some (.int .i64 a.d) ∧ wr.cell? ⟨g, o + k * 5 + 1, none⟩ = some (.int .i64 a.f) ∧ wr.cell? ⟨g, o + k * 5 + 2, none⟩ = some (.int .i64 a.n) ∧
    wr.cell? ⟨g, o + k * 5 + 3, none⟩ = some (.slice AB a.b.length cB) ∧ wr.cell? ⟨g, o + k * 5 + 4, none⟩ = some (.slice AK a.k.length cK) ∧ AcIn wr b a AB AK := by
  obtain ⟨g, o, AB, AK, cB, cK, rfl, hg, q0, q1, q2, q3, q4, r1, z1, r2, hn, hl1, hl2⟩ := h
  have hc : ∀ j x, w.cell? ⟨g, j, none⟩ = some x → wr.cell? ⟨g, j, none⟩ = some x := fun j x hx => (World.cell?_of_block (w := w) (a := ⟨g, j, none⟩) (hw.block g hg)).trans hx
  exact ⟨g, o, AB, AK, cB, cK, rfl, hc _ _ q0, hc _ _ q1, hc _ _ q2, hc _ _ q3, hc _ _ q4, ⟨r1.below hw, z1, rd_ne r1 hb, by have := hf.1; omega, r2.below hw, rd_ne r2 hb, by have := hf.2; omega, hn⟩⟩

theorem ActsAt.below {w w' : World} {A : Option Addr} {l : List Ac} (h : ActsAt w A l) (hb : Below w.heap.size w w') : ActsAt w' A l := fun k hk => (h k hk).below hb

set_option maxRecDepth 100000 in
set_option maxHeartbeats 4000000 in
theorem down_law (A A' : Option Addr) (c c' : Nat) (l m : List Ac) (w : World) (h : ActsAt w A l) (h' : ActsAt w A' m) (hl : l.length ≤ 9223372036854775807) (hm : m.length ≤ 9223372036854775807) :
    Calls Try.prog 5 #[.slice A l.length c, .slice A' m.length c'] w fun e w' => e = .returned (.bool true) ∧ Below w.heap.size w w' := by
  have HA := Lib.hid h
  have HA' := Lib.hid h'
  clear h h'
  go_enter Try.func5, Try.ntmps5
  go_wp2_with (fail)
  refine (awake_any _).mono ?_
  rintro e w1 ⟨rfl, hb1⟩
  have B1 := Lib.hid hb1
  clear hb1
  go_wp2_with (fail)
  refine (large_any A c l _ (HA.out.below B1.out) hl).mono ?_
  rintro e w2 ⟨r, rfl, hr, hb2⟩
  have B2 := Lib.hid (B1.out.trans (hb2.mono B1.out.size))
  clear hb2
  cases r with
  | true =>
    go_wp2_with (fail)
    go_ret
    exact ⟨rfl, B2.out⟩
  | false =>
  have HF := Lib.hid (hr rfl)
  clear hr
  go_wp2_with (fail)
  refine (large_any A' c' m _ (HA'.out.below B2.out) hm).mono ?_
  rintro e w3 ⟨r, rfl, hr, hb3⟩
  have B3 := Lib.hid (B2.out.trans (hb3.mono B2.out.size))
  clear hb3
  cases r with
  | true =>
    go_wp2_with (fail)
    go_ret
    exact ⟨rfl, B3.out⟩
  | false =>
  have HF' := Lib.hid (hr rfl)
  clear hr
  go_wp2_with (fail)
  refine (new_in 5000 (by decide) (by decide) _).mono ?_
  rintro e w4 ⟨rfl, hw⟩
  have M4 : Hid (DkAt w4 w3.heap.size w3.heap.size (Dk.new 5000)) := by rw [hw]; exact dk_new 5000 w3
  have B4 : Hid (Below w3.heap.size w3 w4) := by rw [hw]; exact (Below.refl _ _).alloc (Nat.le_refl _) _
  have HSz := Lib.hid B3.out.size
  clear hw
  go_wp2_with (fail)
  go_loopw [35] (fun i wr => ∃ (k : Nat) (d : Dk), k ≤ l.length ∧ i = .int .i64 k ∧ DkAt wr w3.heap.size w3.heap.size d ∧ d.ok ∧ Below w3.heap.size w3 wr) (fun i _ => l.length - (intOf i).toNat)
  case atStart => exact ⟨0, _, Nat.zero_le _, rfl, M4.out, Dk.new_ok (by decide) (by decide), B4.out⟩
  case round =>
    obtain ⟨k, d, hk, rfl, hdk, hok, hb⟩ := hrel
    have M5 := Lib.hid hdk
    have O5 := Lib.hid hok
    have B5 := Lib.hid hb
    clear hdk hok hb M4 B4
    by_cases hlt : k < l.length
    · have hft := HF.out.2 k hlt
      obtain ⟨g, o, AB, AK, cB, cK, rfl, q0, q1, q2, q3, q4, hin⟩ := act_in (HA.out k hlt) (b := w3.heap.size) B3.out.size (B3.out.trans (B5.out.mono B3.out.size)) hft
      have HI := Lib.hid hin
      have HN := Lib.hid (HA.out k hlt)
      clear hin hft
      generalize l[k] = a at *
      go_wp2_with (fail)
      have KA : Hid (Kp (· = w3.heap.size) wr (wr.alloc (.cells #[.int .i64 a.d, .int .i64 a.f, .int .i64 a.n, .slice AB a.b.length cB, .slice AK a.k.length cK] 35))) := (Kp.refl _ wr).alloc _
      have MA := Lib.hid (M5.out.box ((Below.refl wr.heap.size wr).alloc (Nat.le_refl _) (.cells #[.int .i64 a.d, .int .i64 a.f, .int .i64 a.n, .slice AB a.b.length cB, .slice AK a.k.length cK] 35)))
      have HI2 := Lib.hid (HI.out.kp KA.out)
      refine (do_any _ _ d O5.out _ MA.out a AB AK cB cK HI2.out).mono ?_
      rintro e w6 ⟨rfl, k6, h6⟩
      have M6 := Lib.hid h6
      have B6 := Lib.hid (B5.out.trans ((KA.out.tr k6).below (fun k hk e => by omega) B5.out.size))
      have O6 := Lib.hid (d.act_ok O5.out a HI.out.n)
      clear k6 h6 KA MA HI2 HI M5 B5 q0 q1 q2 q3 q4
      go_wp2_with (fail)
      go_roundw
      case rel => exact ⟨k + 1, _, by omega, by go_num, M6.out, O6.out, B6.out⟩
      case measure => simp [intOf]; omega
    · obtain rfl : k = l.length := by omega
      have L5 := M5.out.lt
      go_wp2_with (fail)
      refine (fuse_any _ _ 0 d _ M5.out).mono ?_
      rintro e w6 ⟨rfl, k6, h6⟩
      have M6 := Lib.hid h6
      have K6 := Lib.hid k6
      have O6 := Lib.hid (d.fuse_ok O5.out (n := 0) (by decide))
      clear k6 h6 M5 O5
      go_wp2_with (fail)
      refine (sync_any _ _ 0 _ O6.out _ M6.out).mono ?_
      rintro e w7 ⟨he, k7, h7⟩
      obtain ⟨e8, edn⟩ := down_sync d
      obtain rfl : e = .returned (.int .i64 8) := he.trans (by rw [e8])
      have M7 := Lib.hid h7
      have O7 := Lib.hid ((d.fuse 0).sync_ok O6.out 0)
      have B7 := Lib.hid (B5.out.trans ((K6.out.tr k7).below (fun k hk e => by omega) B5.out.size))
      clear k7 h7 M6 O6 K6 he e8 B5 HF HA
      generalize ((d.fuse 0).sync 0).1 = d2 at *
      go_wp2_with (fail)
      refine (left_any _ _ d2 O7.out _ M7.out).mono ?_
      rintro e w7 ⟨rfl, rfl⟩
      go_wp2_with (fail)
      refine (files_any _ _ d2 O7.out _ M7.out).mono ?_
      rintro e w8 ⟨v, rfl, ho, hb⟩
      obtain ⟨AF, cF, rfl⟩ := own_shape ho
      have R8 := Lib.hid (own_rd ho)
      have L7 := M7.out.lt
      have G8 : Hid (∀ g o, AF = some ⟨g, o, none⟩ → ints (filesK d2.b 64) ≠ [] → g ≠ w3.heap.size) := by
        intro g o e _
        have := (own_ge ho g (by rw [e]; rfl)).1
        omega
      have M8 := Lib.hid (M7.out.box hb)
      have B8 := Lib.hid (B7.out.trans (hb.mono B7.out.size))
      clear hb ho B7 M7
      go_wp2_with (fail)
      refine (down_any _ _ d2 _ M8.out).mono ?_
      rintro e w8 ⟨he, rfl⟩
      obtain rfl : e = .returned (.bool true) := he.trans (by rw [edn])
      clear he
      have S8 : Hid (Still d2 d2) := ⟨rfl, rfl, rfl, edn⟩
      clear edn
      go_wp2_with (fail)
      go_loopw [60] (fun i wr => ∃ (k : Nat) (d : Dk), k ≤ m.length ∧ i = .int .i64 k ∧ DkAt wr w3.heap.size w3.heap.size d ∧ d.ok ∧ Still d2 d ∧ Below w3.heap.size w3 wr ∧ Rd wr AF (ints (filesK d2.b 64))) (fun i _ => m.length - (intOf i).toNat)
      case atStart => exact ⟨0, _, Nat.zero_le _, rfl, M8.out, O7.out, S8.out, B8.out, R8.out⟩
      case round =>
        obtain ⟨k, d3, hk, rfl, hdk, hok, hst, hb, hr⟩ := hrel
        have M9 := Lib.hid hdk
        have O9 := Lib.hid hok
        have S9 := Lib.hid hst
        have B9 := Lib.hid hb
        have R9 := Lib.hid hr
        clear hdk hok hst hb hr M8 B8 R8 S8 O7
        by_cases hlt : k < m.length
        · have hft := HF'.out.2 k hlt
          obtain ⟨g, o, AB, AK, cB, cK, rfl, q0, q1, q2, q3, q4, hin⟩ := act_in (HA'.out k hlt) (b := w3.heap.size) B3.out.size (B3.out.trans (B9.out.mono B3.out.size)) hft
          have HI := Lib.hid hin
          clear hin hft
          generalize m[k] = a at *
          have KA : Hid (Kp (· = w3.heap.size) wr (wr.alloc (.cells #[.int .i64 a.d, .int .i64 a.f, .int .i64 a.n, .slice AB a.b.length cB, .slice AK a.k.length cK] 35))) := (Kp.refl _ wr).alloc _
          have MA := Lib.hid (M9.out.box ((Below.refl wr.heap.size wr).alloc (Nat.le_refl _) (.cells #[.int .i64 a.d, .int .i64 a.f, .int .i64 a.n, .slice AB a.b.length cB, .slice AK a.k.length cK] 35)))
          have DA := Lib.hid (Bk.new wr 35 #[.int .i64 a.d, .int .i64 a.f, .int .i64 a.n, .slice AB a.b.length cB, .slice AK a.k.length cK])
          have RA := Lib.hid (rd_kp R9.out KA.out G8.out)
          have HI2 := Lib.hid (HI.out.kp KA.out)
          have L9 := M9.out.lt
          by_cases h4 : a.d = 4
          · have t4 : (a.d == 4) = true := by simpa using h4
            clear h4
            go_wp2_with (fail)
            go_roundw
            case rel => exact ⟨k + 1, d3, by omega, by go_num, MA.out, O9.out, S9.out, B9.out.trans (KA.out.below (fun k hk e => by omega) B9.out.size), RA.out⟩
            case measure => simp [intOf]; omega
          · have t4 : (a.d == 4) = false := by simpa using h4
            go_wp2_with (fail)
            have BA := Lib.hid (B9.out.trans (KA.out.below (fun k hk e => by omega) B9.out.size))
            generalize hWA : wr.alloc (.cells #[.int .i64 a.d, .int .i64 a.f, .int .i64 a.n, .slice AB a.b.length cB, .slice AK a.k.length cK] 35) = WA at *
            clear hWA KA M9 B9 R9 HI q0 q1 q2 q3 q4
            generalize hcc : wr.heap.size = cc at *
            clear hcc
            have hne : cc ≠ w3.heap.size := Nat.ne_of_gt L9
            refine (read_any _ _ a.f d3 O9.out _ MA.out).mono ?_
            rintro e w10 ⟨A10, c10, rfl, hr, hg, hb⟩
            have R10 := Lib.hid hr
            have LA := MA.out.lt
            have G10 : Hid (∀ g o, A10 = some ⟨g, o, none⟩ → bys (d3.rd a.f) ≠ [] → g ≠ w3.heap.size) := fun g o e _ => Nat.ne_of_gt (Nat.lt_of_lt_of_le LA (hg g o e))
            have M10 := Lib.hid (MA.out.box hb)
            have B10 := Lib.hid (BA.out.trans (hb.mono BA.out.size))
            have D10 := Lib.hid (DA.out.below hb DA.out.lt)
            have RA10 := Lib.hid (RA.out.below hb)
            have HI10 := Lib.hid (HI2.out.kp (kp_below hb))
            clear hr hg hb MA BA DA RA HI2
            have p0 : w10.cell? ⟨cc, 0, none⟩ = some (.int .i64 a.d) := D10.out.cell 0
            have p1 : w10.cell? ⟨cc, 1, none⟩ = some (.int .i64 a.f) := D10.out.cell 1
            have p2 : w10.cell? ⟨cc, 2, none⟩ = some (.int .i64 a.n) := D10.out.cell 2
            have p3 : w10.cell? ⟨cc, 3, none⟩ = some (.slice AB a.b.length cB) := D10.out.cell 3
            have p4 : w10.cell? ⟨cc, 4, none⟩ = some (.slice AK a.k.length cK) := D10.out.cell 4
            have HL : Hid ((d3.rd a.f).length ≤ 1048576) := by
              unfold Hid Dk.rd
              split
              · simp
              · exact O9.out.len (by omega)
            have HFL : Hid ((filesK d2.b 64).length ≤ 1048576) := Nat.le_trans (filesK_len d2.b 64) (by decide)
            go_wp2_with (fail)
            refine (do_any _ _ d3 O9.out _ M10.out a AB AK cB cK HI10.out).mono ?_
            rintro e w11 ⟨rfl, k11, h11⟩
            have M11 := Lib.hid h11
            have B11 := Lib.hid (B10.out.trans (k11.below (fun k hk e => by omega) B10.out.size))
            have O11 := Lib.hid (d3.act_ok O9.out a HI10.out.n)
            have RA11 := Lib.hid (rd_kp RA10.out k11 G8.out)
            have R11 := Lib.hid (rd_kp R10.out k11 G10.out)
            have D11 := Lib.hid (D10.out.kp k11 hne)
            obtain ⟨hst, hcode⟩ := act_still S9.out a h4
            have S11 := Lib.hid hst
            have erd : (d3.act a).1.rd a.f = d3.rd a.f := by rw [hst.rd, S9.out.rd]
            clear k11 h11 M10 B10 RA10 R10 D10 HI10 p0 p1 p2 p3 p4 h4 hst
            generalize (d3.act a).1 = d4 at *
            generalize (d3.act a).2 = e4 at *
            have p1 : w11.cell? ⟨cc, 1, none⟩ = some (.int .i64 a.f) := D11.out.cell 1
            go_wp2_with (fail)
            refine (read_any _ _ a.f d4 O11.out _ M11.out).mono ?_
            rintro e w12 ⟨A12, c12, he, hr, hg, hb⟩
            rw [erd] at he hr
            subst he
            have R12 := Lib.hid hr
            have M12 := Lib.hid (M11.out.box hb)
            have B12 := Lib.hid (B11.out.trans (hb.mono B11.out.size))
            have RA12 := Lib.hid (RA11.out.below hb)
            have R11 := Lib.hid (R11.out.below hb)
            have D12 := D11.out.below hb D11.out.lt
            have p0 : w12.cell? ⟨cc, 0, none⟩ = some (.int .i64 a.d) := D12.cell 0
            clear hr hg hb M11 B11 RA11 D11 D12 erd p1
            have hcase : decide (0 ≤ a.d) = false ∨ (decide (0 ≤ a.d) = true ∧ decide (a.d ≤ 2) = false) ∨ (decide (0 ≤ a.d) = true ∧ decide (a.d ≤ 2) = true ∧ (e4 = 8 ∨ e4 = 1)) := by
              by_cases x0 : 0 ≤ a.d
              · by_cases x1 : a.d ≤ 2
                · exact .inr (.inr ⟨by simpa using x0, by simpa using x1, hcode x0 x1⟩)
                · exact .inr (.inl ⟨by simpa using x0, by simpa using x1⟩)
              · exact .inl (by simpa using x0)
            clear hcode
            rcases hcase with x0 | ⟨x0, x1⟩ | ⟨x0, x1, rfl | rfl⟩
            · go_wp2_with (fail)
              refine (same_any A10 A12 c10 c12 (d3.rd a.f) _ R11.out R12.out HL.out).mono ?_
              rintro e w13 ⟨rfl, hb⟩
              have M13 := Lib.hid (M12.out.box hb)
              have B13 := Lib.hid (B12.out.trans (hb.mono B12.out.size))
              have RA13 := Lib.hid (RA12.out.below hb)
              clear hb M12 B12 RA12 R11 R12
              go_wp2_with (fail)
              refine (down_any _ _ d4 _ M13.out).mono ?_
              rintro e w13 ⟨he, rfl⟩
              obtain rfl : e = .returned (.bool true) := he.trans (by rw [S11.out.down])
              clear he
              go_wp2_with (fail)
              refine (left_any _ _ d4 O11.out _ M13.out).mono ?_
              rintro e w13 ⟨he, rfl⟩
              obtain rfl : e = .returned (.int .i64 d2.left) := he.trans (by rw [S11.out.left])
              clear he
              go_wp2_with (fail)
              refine (files_any _ _ d4 O11.out _ M13.out).mono ?_
              rintro e w14 ⟨v, rfl, ho, hb⟩
              rw [S11.out.b] at ho
              obtain ⟨A14, c14, rfl⟩ := own_shape ho
              have R14 := Lib.hid (own_rd ho)
              have M14 := Lib.hid (M13.out.box hb)
              have B14 := Lib.hid (B13.out.trans (hb.mono B13.out.size))
              have RA14 := Lib.hid (RA13.out.below hb)
              clear hb ho M13 B13 RA13
              go_wp2_with (fail)
              refine (ints_any A14 AF c14 cF (filesK d2.b 64) _ R14.out RA14.out HFL.out).mono ?_
              rintro e w15 ⟨rfl, hb⟩
              have M15 := Lib.hid (M14.out.box hb)
              have B15 := Lib.hid (B14.out.trans (hb.mono B14.out.size))
              have RA15 := Lib.hid (RA14.out.below hb)
              clear hb M14 B14 RA14 R14
              go_wp2_with (fail)
              go_roundw
              case rel => exact ⟨k + 1, d4, by omega, by go_num, M15.out, O11.out, S11.out, B15.out, RA15.out⟩
              case measure => simp [intOf]; omega
            · go_wp2_with (fail)
              refine (same_any A10 A12 c10 c12 (d3.rd a.f) _ R11.out R12.out HL.out).mono ?_
              rintro e w13 ⟨rfl, hb⟩
              have M13 := Lib.hid (M12.out.box hb)
              have B13 := Lib.hid (B12.out.trans (hb.mono B12.out.size))
              have RA13 := Lib.hid (RA12.out.below hb)
              clear hb M12 B12 RA12 R11 R12
              go_wp2_with (fail)
              refine (down_any _ _ d4 _ M13.out).mono ?_
              rintro e w13 ⟨he, rfl⟩
              obtain rfl : e = .returned (.bool true) := he.trans (by rw [S11.out.down])
              clear he
              go_wp2_with (fail)
              refine (left_any _ _ d4 O11.out _ M13.out).mono ?_
              rintro e w13 ⟨he, rfl⟩
              obtain rfl : e = .returned (.int .i64 d2.left) := he.trans (by rw [S11.out.left])
              clear he
              go_wp2_with (fail)
              refine (files_any _ _ d4 O11.out _ M13.out).mono ?_
              rintro e w14 ⟨v, rfl, ho, hb⟩
              rw [S11.out.b] at ho
              obtain ⟨A14, c14, rfl⟩ := own_shape ho
              have R14 := Lib.hid (own_rd ho)
              have M14 := Lib.hid (M13.out.box hb)
              have B14 := Lib.hid (B13.out.trans (hb.mono B13.out.size))
              have RA14 := Lib.hid (RA13.out.below hb)
              clear hb ho M13 B13 RA13
              go_wp2_with (fail)
              refine (ints_any A14 AF c14 cF (filesK d2.b 64) _ R14.out RA14.out HFL.out).mono ?_
              rintro e w15 ⟨rfl, hb⟩
              have M15 := Lib.hid (M14.out.box hb)
              have B15 := Lib.hid (B14.out.trans (hb.mono B14.out.size))
              have RA15 := Lib.hid (RA14.out.below hb)
              clear hb M14 B14 RA14 R14
              go_wp2_with (fail)
              go_roundw
              case rel => exact ⟨k + 1, d4, by omega, by go_num, M15.out, O11.out, S11.out, B15.out, RA15.out⟩
              case measure => simp [intOf]; omega
            · go_wp2_with (fail)
              refine (same_any A10 A12 c10 c12 (d3.rd a.f) _ R11.out R12.out HL.out).mono ?_
              rintro e w13 ⟨rfl, hb⟩
              have M13 := Lib.hid (M12.out.box hb)
              have B13 := Lib.hid (B12.out.trans (hb.mono B12.out.size))
              have RA13 := Lib.hid (RA12.out.below hb)
              clear hb M12 B12 RA12 R11 R12
              go_wp2_with (fail)
              refine (down_any _ _ d4 _ M13.out).mono ?_
              rintro e w13 ⟨he, rfl⟩
              obtain rfl : e = .returned (.bool true) := he.trans (by rw [S11.out.down])
              clear he
              go_wp2_with (fail)
              refine (left_any _ _ d4 O11.out _ M13.out).mono ?_
              rintro e w13 ⟨he, rfl⟩
              obtain rfl : e = .returned (.int .i64 d2.left) := he.trans (by rw [S11.out.left])
              clear he
              go_wp2_with (fail)
              refine (files_any _ _ d4 O11.out _ M13.out).mono ?_
              rintro e w14 ⟨v, rfl, ho, hb⟩
              rw [S11.out.b] at ho
              obtain ⟨A14, c14, rfl⟩ := own_shape ho
              have R14 := Lib.hid (own_rd ho)
              have M14 := Lib.hid (M13.out.box hb)
              have B14 := Lib.hid (B13.out.trans (hb.mono B13.out.size))
              have RA14 := Lib.hid (RA13.out.below hb)
              clear hb ho M13 B13 RA13
              go_wp2_with (fail)
              refine (ints_any A14 AF c14 cF (filesK d2.b 64) _ R14.out RA14.out HFL.out).mono ?_
              rintro e w15 ⟨rfl, hb⟩
              have M15 := Lib.hid (M14.out.box hb)
              have B15 := Lib.hid (B14.out.trans (hb.mono B14.out.size))
              have RA15 := Lib.hid (RA14.out.below hb)
              clear hb M14 B14 RA14 R14
              go_wp2_with (fail)
              go_roundw
              case rel => exact ⟨k + 1, d4, by omega, by go_num, M15.out, O11.out, S11.out, B15.out, RA15.out⟩
              case measure => simp [intOf]; omega
            · go_wp2_with (fail)
              refine (same_any A10 A12 c10 c12 (d3.rd a.f) _ R11.out R12.out HL.out).mono ?_
              rintro e w13 ⟨rfl, hb⟩
              have M13 := Lib.hid (M12.out.box hb)
              have B13 := Lib.hid (B12.out.trans (hb.mono B12.out.size))
              have RA13 := Lib.hid (RA12.out.below hb)
              clear hb M12 B12 RA12 R11 R12
              go_wp2_with (fail)
              refine (down_any _ _ d4 _ M13.out).mono ?_
              rintro e w13 ⟨he, rfl⟩
              obtain rfl : e = .returned (.bool true) := he.trans (by rw [S11.out.down])
              clear he
              go_wp2_with (fail)
              refine (left_any _ _ d4 O11.out _ M13.out).mono ?_
              rintro e w13 ⟨he, rfl⟩
              obtain rfl : e = .returned (.int .i64 d2.left) := he.trans (by rw [S11.out.left])
              clear he
              go_wp2_with (fail)
              refine (files_any _ _ d4 O11.out _ M13.out).mono ?_
              rintro e w14 ⟨v, rfl, ho, hb⟩
              rw [S11.out.b] at ho
              obtain ⟨A14, c14, rfl⟩ := own_shape ho
              have R14 := Lib.hid (own_rd ho)
              have M14 := Lib.hid (M13.out.box hb)
              have B14 := Lib.hid (B13.out.trans (hb.mono B13.out.size))
              have RA14 := Lib.hid (RA13.out.below hb)
              clear hb ho M13 B13 RA13
              go_wp2_with (fail)
              refine (ints_any A14 AF c14 cF (filesK d2.b 64) _ R14.out RA14.out HFL.out).mono ?_
              rintro e w15 ⟨rfl, hb⟩
              have M15 := Lib.hid (M14.out.box hb)
              have B15 := Lib.hid (B14.out.trans (hb.mono B14.out.size))
              have RA15 := Lib.hid (RA14.out.below hb)
              clear hb M14 B14 RA14 R14
              go_wp2_with (fail)
              go_roundw
              case rel => exact ⟨k + 1, d4, by omega, by go_num, M15.out, O11.out, S11.out, B15.out, RA15.out⟩
              case measure => simp [intOf]; omega
        · go_wp2_with (fail)
          go_ret
          exact ⟨rfl, B3.out.trans (B9.out.mono B3.out.size)⟩
end Go.Proofs.Ythblfkopofmdfaa
