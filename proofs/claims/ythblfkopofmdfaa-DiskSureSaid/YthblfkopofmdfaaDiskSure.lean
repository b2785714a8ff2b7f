/-
  DiskSure: for every input true; what was there stays.
-/
import Derived.Test.YthblfkopofmdfaaDiskDown
set_option linter.unusedVariables false
set_option linter.unusedSimpArgs false
namespace Go.Proofs.Ythblfkopofmdfaa
open Go.RowKit

def nils (n : Nat) : Array Value := Array.replicate n (.slice none 0 0)
def zeros (n : Nat) : Array Value := Array.replicate n (.int .i64 0)

theorem crash_at (d : Dk) (hd : d.ok) (kept : List Int) (k : Nat) (hk : k < 64) : ∃ n, d.s k ≤ n ∧ n ≤ (d.b k).length ∧ (d.crash kept).b k = (d.b k).take n ∧ (d.crash kept).s k = n := by
  have h1 := hd.sure k hk
  have h2 := more_le kept k ((d.b k).length - d.s k)
  refine ⟨d.s k + more kept k ((d.b k).length - d.s k), by omega, by omega, ?_, ?_⟩
  · show (if k < 64 then _ else _) = _
    rw [if_pos hk]
  · show (if k < 64 then _ else _) = _
    rw [if_pos hk]

/-- What the law has noted of the first k files: their bytes, and how many are sure. -/
structure Sv (N : Nat) (d : Dk) (k : Nat) (w : World) : Prop where
  lt : N + 2 ≤ w.heap.size
  a : ∃ As : Array Value, Bk w N 47 As ∧ As.size = 64 ∧ ∀ i, i < k → ∃ A c, As[i]? = some (.slice A (d.b i).length c) ∧ (d.b i).length ≤ c ∧ (A = none ∧ c = 0 ∨ ∃ g, A = some ⟨g, 0, none⟩ ∧ N + 2 ≤ g) ∧ Rd w A (bys (d.b i))
  z : ∃ Zs : Array Value, Bk w (N + 1) 48 Zs ∧ Zs.size = 64 ∧ ∀ i, i < k → Zs[i]? = some (.int .i64 (d.s i))

theorem Sv.kp {S : Nat → Prop} {N : Nat} {d : Dk} {k : Nat} {w w' : World} (h : Sv N d k w) (hk : Kp S w w') (hS : ∀ i, N ≤ i → i < w.heap.size → ¬ S i) : Sv N d k w' := by
  obtain ⟨As, a1, a2, a3⟩ := h.a
  obtain ⟨Zs, z1, z2, z3⟩ := h.z
  have hl := h.lt
  refine ⟨Nat.le_trans hl hk.size, ⟨As, a1.kp hk (hS _ (Nat.le_refl _) (by omega)), a2, fun i hi => ?_⟩, ⟨Zs, z1.kp hk (hS _ (by omega) (by omega)), z2, z3⟩⟩
  obtain ⟨A, c, q1, q2, q3, q4⟩ := a3 i hi
  refine ⟨A, c, q1, q2, q3, ?_⟩
  intro j u hj
  obtain ⟨b, o, rfl, hlt, hc⟩ := q4 j u hj
  have hb : N ≤ b := by
    rcases q3 with ⟨q3, _⟩ | ⟨g, q3, hg⟩
    · cases q3
    · injection q3 with q3; injection q3 with e1; omega
  exact ⟨b, o, rfl, Nat.lt_of_lt_of_le hlt hk.size, (hk.cell (p := ⟨b, o + j, none⟩) hlt (hS b hb hlt)).trans hc⟩

theorem Sv.cells {N : Nat} {d : Dk} {k : Nat} {w : World} (h : Sv N d k w) {i : Nat} (hi : i < 64) : (∃ x, w.cell? ⟨N, i, none⟩ = some x) ∧ w.frozen? ⟨N, i, none⟩ = false ∧ (∃ x, w.cell? ⟨N + 1, i, none⟩ = some x) ∧ w.frozen? ⟨N + 1, i, none⟩ = false := by
  obtain ⟨As, a1, a2, _⟩ := h.a
  obtain ⟨Zs, z1, z2, _⟩ := h.z
  exact ⟨⟨_, (a1.cell i).trans (Array.getElem?_eq_getElem (by omega))⟩, a1.free i, ⟨_, (z1.cell i).trans (Array.getElem?_eq_getElem (by omega))⟩, z1.free i⟩

theorem Sv.step {N : Nat} {d : Dk} {k : Nat} {w : World} (h : Sv N d k w) (hk : k < 64) {A : Option Addr} {c : Nat} (hc : (d.b k).length ≤ c) (hA : A = none ∧ c = 0 ∨ ∃ g, A = some ⟨g, 0, none⟩ ∧ N + 2 ≤ g) (hr : Rd w A (bys (d.b k))) :
    Sv N d (k + 1) ((w.setCell ⟨N, k, none⟩ (.slice A (d.b k).length c)).setCell ⟨N + 1, k, none⟩ (.int .i64 (d.s k))) := by
  obtain ⟨As, a1, a2, a3⟩ := h.a
  obtain ⟨Zs, z1, z2, z3⟩ := h.z
  have hl := h.lt
  have hkp : Kp (fun i => i = N ∨ i = N + 1) w ((w.setCell ⟨N, k, none⟩ (.slice A (d.b k).length c)).setCell ⟨N + 1, k, none⟩ (.int .i64 (d.s k))) := ((Kp.refl _ w).setCell (.inl (.inl rfl)) _).setCell (.inl (.inr rfl)) _
  have rdk : ∀ (A : Option Addr) (c : Nat) (l : List Int), (A = none ∧ c = 0 ∨ ∃ g, A = some ⟨g, 0, none⟩ ∧ N + 2 ≤ g) → Rd w A (bys l) → Rd ((w.setCell ⟨N, k, none⟩ (.slice A (d.b k).length c)).setCell ⟨N + 1, k, none⟩ (.int .i64 (d.s k))) A (bys l) → True := fun _ _ _ _ _ _ => trivial
  have rdk2 : ∀ (A' : Option Addr) (c' : Nat) (l : List Int), (A' = none ∧ c' = 0 ∨ ∃ g, A' = some ⟨g, 0, none⟩ ∧ N + 2 ≤ g) → Rd w A' (bys l) → Rd ((w.setCell ⟨N, k, none⟩ (.slice A (d.b k).length c)).setCell ⟨N + 1, k, none⟩ (.int .i64 (d.s k))) A' (bys l) := by
    intro A' c' l q3 q4 j u hj
    obtain ⟨b, o, rfl, hlt, hc'⟩ := q4 j u hj
    have hb : N + 2 ≤ b := by
      rcases q3 with ⟨q3, _⟩ | ⟨g, q3, hg⟩
      · cases q3
      · injection q3 with q3; injection q3 with e1; omega
    exact ⟨b, o, rfl, Nat.lt_of_lt_of_le hlt hkp.size, (hkp.cell (p := ⟨b, o + j, none⟩) hlt (by simp only; omega)).trans hc'⟩
  refine ⟨Nat.le_trans hl hkp.size, ⟨_, (a1.put k _).far (p := ⟨N + 1, k, none⟩) (by simp) _, by simp [a2], fun i hi => ?_⟩, ⟨_, (z1.far (p := ⟨N, k, none⟩) (by simp) _).put k _, by simp [z2], fun i hi => ?_⟩⟩
  · rw [set_at _ _ _ _ (by omega)]
    by_cases e : i = k
    · subst e
      exact ⟨A, c, by rw [if_pos rfl], hc, hA, rdk2 A c _ hA hr⟩
    · obtain ⟨A', c', q1, q2, q3, q4⟩ := a3 i (by omega)
      exact ⟨A', c', by rw [if_neg e]; exact q1, q2, q3, rdk2 A' c' _ q3 q4⟩
  · rw [set_at _ _ _ _ (by omega)]
    by_cases e : i = k
    · subst e; rw [if_pos rfl]
    · rw [if_neg e]; exact z3 i (by omega)

theorem Sv.start (d : Dk) (w : World) : Sv w.heap.size d 0 ((w.alloc (.cells (nils 64) 47)).alloc (.cells (zeros 64) 48)) := by
  refine ⟨by simp, ⟨nils 64, (Bk.new w _ _).alloc _, by simp [nils], fun i hi => absurd hi (by omega)⟩, ⟨zeros 64, ?_, by simp [zeros], fun i hi => absurd hi (by omega)⟩⟩
  have h := Bk.new (w.alloc (.cells (nils 64) 47)) 48 (zeros 64)
  rwa [World.size_alloc] at h

set_option maxRecDepth 100000 in
set_option maxHeartbeats 4000000 in
theorem sure_law (A A' : Option Addr) (c c' : Nat) (l : List Ac) (kept : List Int) (w : World) (h : ActsAt w A l) (h' : Rd w A' (ints kept)) (hl : l.length ≤ 9223372036854775807) (hm : kept.length ≤ 9223372036854775807) :
    Calls Try.prog 4 #[.slice A l.length c, .slice A' kept.length c'] w fun e w' => e = .returned (.bool true) ∧ Below w.heap.size w w' := by
  have HA := Lib.hid h
  have HA' := Lib.hid h'
  clear h h'
  go_enter Try.func4, Try.ntmps4
  go_wp2_with (fail)
  refine (awake_any _).mono ?_
  rintro e w1 ⟨rfl, hb1⟩
  have B1 := Lib.hid hb1
  clear hb1
  go_wp2_with (fail)
  refine (large_any A c l _ (HA.out.below B1.out) hl).mono ?_
  rintro e w3 ⟨r, rfl, hr, hb2⟩
  have B3 := Lib.hid (B1.out.trans (hb2.mono B1.out.size))
  clear hb2
  cases r with
  | true =>
    go_wp2_with (fail)
    go_ret
    exact ⟨rfl, B3.out⟩
  | false =>
  have HF := Lib.hid (hr rfl)
  clear hr
  by_cases hk60 : 60 < kept.length
  · have tk : decide ((60 : Int) < (kept.length : Int)) = true := by simp; omega
    go_wp2_with (fail)
    go_ret
    exact ⟨rfl, B3.out⟩
  have tk : decide ((60 : Int) < (kept.length : Int)) = false := by simp; omega
  have hk61 : kept.length ≤ 60 := by omega
  clear hk60
  go_wp2_with (fail)
  refine (new_in 5000 (by decide) (by decide) _).mono ?_
  rintro e w4 ⟨rfl, hw⟩
  have M4 : Hid (DkAt w4 w3.heap.size w3.heap.size (Dk.new 5000)) := by rw [hw]; exact dk_new 5000 w3
  have B4 : Hid (Below w3.heap.size w3 w4) := by rw [hw]; exact (Below.refl _ _).alloc (Nat.le_refl _) _
  have HSz := Lib.hid B3.out.size
  clear hw
  go_wp2_with (fail)
  go_loopw [32] (fun i wr => ∃ (k : Nat) (d : Dk), k ≤ l.length ∧ i = .int .i64 k ∧ DkAt wr w3.heap.size w3.heap.size d ∧ d.ok ∧ Below w3.heap.size w3 wr) (fun i _ => l.length - (intOf i).toNat)
  case atStart => exact ⟨0, _, Nat.zero_le _, rfl, M4.out, Dk.new_ok (by decide) (by decide), B4.out⟩
  case round =>
    obtain ⟨k, d, hk, rfl, hdk, hok, hb⟩ := hrel
    have M5 := Lib.hid hdk
    have O5 := Lib.hid hok
    have B5 := Lib.hid hb
    clear hdk hok hb M4 B4
    by_cases hlt : k < l.length
    · have hft := HF.out.2 k hlt
      obtain ⟨g, o, AB, AK, cB, cK, rfl, q0, q1, q2, q3, q4, hin⟩ := act_in (HA.out k hlt) (b := w3.heap.size) B3.out.size (B3.out.trans (B5.out.mono B3.out.size)) hft
      have HI := Lib.hid hin
      have HN := Lib.hid (HA.out k hlt)
      clear hin hft
      generalize l[k] = a at *
      go_wp2_with (fail)
      have KA : Hid (Kp (· = w3.heap.size) wr (wr.alloc (.cells #[.int .i64 a.d, .int .i64 a.f, .int .i64 a.n, .slice AB a.b.length cB, .slice AK a.k.length cK] 35))) := (Kp.refl _ wr).alloc _
      have MA := Lib.hid (M5.out.box ((Below.refl wr.heap.size wr).alloc (Nat.le_refl _) (.cells #[.int .i64 a.d, .int .i64 a.f, .int .i64 a.n, .slice AB a.b.length cB, .slice AK a.k.length cK] 35)))
      have HI2 := Lib.hid (HI.out.kp KA.out)
      refine (do_any _ _ d O5.out _ MA.out a AB AK cB cK HI2.out).mono ?_
      rintro e w6 ⟨rfl, k6, h6⟩
      have M6 := Lib.hid h6
      have B6 := Lib.hid (B5.out.trans ((KA.out.tr k6).below (fun k hk e => by omega) B5.out.size))
      have O6 := Lib.hid (d.act_ok O5.out a HI.out.n)
      clear k6 h6 KA MA HI2 HI M5 B5 q0 q1 q2 q3 q4
      go_wp2_with (fail)
      go_roundw
      case rel => exact ⟨k + 1, _, by omega, by go_num, M6.out, O6.out, B6.out⟩
      case measure => simp [intOf]; omega
    · obtain rfl : k = l.length := by omega
      have hz1 : ∀ w, (zeroValue 47).run Try.prog w = .ok (.agg (nils 64)) w := by intro w; kernel_rfl
      have hz2 : ∀ w, (zeroValue 48).run Try.prog w = .ok (.agg (zeros 64)) w := by intro w; kernel_rfl
      have L5 := M5.out.lt
      go_wp2_with (fail)
      obtain ⟨w5, rfl⟩ : ∃ w5, w5 = wr := ⟨wr, rfl⟩
      have S0 := Lib.hid (Sv.start d w5)
      have BB := Lib.hid (((Below.refl w5.heap.size w5).alloc (Nat.le_refl _) (.cells (nils 64) 47)).alloc (by simp) (.cells (zeros 64) 48))
      clear hz1 hz2
      go_loopw [40] (fun i wr => ∃ k : Nat, k ≤ 64 ∧ i = .int .i64 k ∧ Below w5.heap.size w5 wr ∧ Sv w5.heap.size d k wr) (fun i _ => 64 - (intOf i).toNat)
      case atStart => exact ⟨0, Nat.zero_le _, rfl, BB.out, S0.out⟩
      case round =>
        obtain ⟨k, hk, rfl, hb, hsv⟩ := hrel
        have BB1 := Lib.hid hb
        have S1 := Lib.hid hsv
        clear hb hsv BB S0
        by_cases hlt : k < 64
        · have hsz := S1.out.lt
          go_wp2_with (fail)
          refine (read_in _ _ k hlt d O5.out _ (M5.out.box BB1.out)).mono ?_
          rintro e w7 ⟨v, rfl, ho, hb⟩
          have S7 := Lib.hid (S1.out.kp (Kp.of_below hb) (fun i _ h1 h2 => by omega))
          have B7 := Lib.hid (BB1.out.trans (hb.mono BB1.out.size))
          obtain ⟨AR, cR, rfl, hcR, hAR⟩ : ∃ A c, v = .slice A (d.b k).length c ∧ (d.b k).length ≤ c ∧ (A = none ∧ c = 0 ∨ ∃ g, A = some ⟨g, 0, none⟩ ∧ w5.heap.size + 2 ≤ g) := by
            rcases own_form ho with ⟨rfl, h0, _⟩ | ⟨g, cap, rfl, hg, _, h3, _⟩
            · exact ⟨none, 0, by rw [h0], by omega, .inl ⟨rfl, rfl⟩⟩
            · exact ⟨_, cap, rfl, h3, .inr ⟨g, rfl, by omega⟩⟩
          have R7 := Lib.hid (own_rd ho)
          have HAR := Lib.hid hAR
          obtain ⟨⟨x9, q9⟩, f9, ⟨x10, q10⟩, f10⟩ := S7.out.cells hlt
          have D7 := Lib.hid (M5.out.box (w' := w7.setCell ⟨w5.heap.size, k, none⟩ (.slice AR (d.b k).length cR)) (B7.out.setCell (Nat.le_refl _) _))
          clear ho hb S1 BB1 hAR
          go_wp2_with (fail)
          refine (sure_in _ _ k hlt d _ D7.out).mono ?_
          rintro e w8 ⟨rfl, rfl⟩
          go_wp2_with (fail)
          go_roundw
          case rel => exact ⟨k + 1, by omega, by go_num, (B7.out.setCell (Nat.le_refl _) _).setCell (by simp) _, S7.out.step hlt hcR HAR.out R7.out⟩
          case measure => simp [intOf]; omega
        · obtain rfl : k = 64 := by omega
          have BW := B3.out.trans ((B5.out.trans (BB1.out.mono B5.out.size)).mono B3.out.size)
          have HC := Lib.hid (crash_any _ _ A' c' kept d O5.out _ (M5.out.box BB1.out) (HA'.out.below BW) (rd_ne HA'.out B3.out.size) (by omega))
          go_wp2_with (fail)
          refine HC.out.mono ?_
          rintro e w8 ⟨rfl, k8, h8⟩
          have D8 := Lib.hid h8
          have S8 := Lib.hid (S1.out.kp k8 (fun i h1 _ e => by omega))
          have O8 := Lib.hid (d.crash_ok O5.out kept)
          have B8 := Lib.hid (BW.trans (k8.below (fun i hi e => by have := B3.out.size; omega) BW.size))
          have HD := Lib.hid (crash_at d O5.out kept)
          have HDn : Hid ((d.crash kept).down = false) := rfl
          have HL5 := Lib.hid O5.out
          clear k8 h8 HC BW BB1 S1 M5 O5
          generalize d.crash kept = dc at *
          go_wp2_with (fail)
          go_loopw [60] (fun i wr => ∃ k : Nat, k ≤ 64 ∧ i = .int .i64 k ∧ Below w8.heap.size w8 wr) (fun i _ => 64 - (intOf i).toNat)
          case atStart => exact ⟨0, Nat.zero_le _, rfl, Below.refl _ _⟩
          case round =>
            obtain ⟨k, hk, rfl, hb⟩ := hrel
            have BB2 := Lib.hid hb
            clear hb
            by_cases hlt : k < 64
            · obtain ⟨n, n1, n2, n3, n4⟩ := HD.out k hlt
              have hlen := HL5.out.len hlt
              go_wp2_with (fail)
              refine (read_in _ _ k hlt dc O8.out _ (D8.out.box BB2.out)).mono ?_
              rintro e w9 ⟨v, rfl, ho, hb⟩
              obtain ⟨AR, cR, rfl⟩ := own_shape ho
              have BB3 := Lib.hid (BB2.out.trans (hb.mono BB2.out.size))
              have R9 := Lib.hid (own_rd ho)
              have S9 := Lib.hid (S8.out.kp (Kp.of_below BB3.out) (fun i _ h1 h2 => by omega))
              have D9 := Lib.hid (D8.out.box BB3.out)
              clear ho hb BB2
              obtain ⟨As, a1, a2, a3⟩ := S9.out.a
              obtain ⟨Zs, z1, z2, z3⟩ := S9.out.z
              obtain ⟨A1, c1, r1, r2, r3, r4⟩ := a3 k hlt
              have p9 : w9.cell? ⟨w5.heap.size, k, none⟩ = some (.slice A1 (d.b k).length c1) := (a1.cell k).trans r1
              have p10 : w9.cell? ⟨w5.heap.size + 1, k, none⟩ = some (.int .i64 (d.s k)) := (z1.cell k).trans (z3 k hlt)
              have hll : (dc.b k).length = n := by rw [n3, List.length_take]; omega
              have HN4 : Hid (dc.s k = (dc.b k).length) := by unfold Hid; rw [n4, hll]
              have RT : Hid (Rd w9 A1 (bys (dc.b k))) := by unfold Hid; rw [n3]; exact rd_take r4 n
              have HLl : Hid ((dc.b k).length ≤ 1048576) := by unfold Hid; omega
              have hs9 : d.s k ≤ (dc.b k).length := by omega
              have t3 : decide (((d.b k).length : Int) < ((dc.b k).length : Int)) = false := by simp; omega
              have hcl : (dc.b k).length ≤ c1 := by omega
              have hll2 : (dc.b k).length ≤ (d.b k).length := by omega
              clear a1 a2 a3 z1 z2 z3 r1 r4 n3 n4 n1 n2 hll S9
              generalize dc.b k = lb at *
              rcases r3 with ⟨rfl, rfl⟩ | ⟨g, rfl, hg⟩
              · obtain rfl : lb = [] := List.eq_nil_of_length_eq_zero (by omega)
                generalize (d.b k).length = len at *
                obtain rfl : len = 0 := by omega
                have hs0 : d.s k = 0 := by simpa using hs9
                go_wp2_with (fail)
                refine (same_any AR none cR 0 _ _ R9.out RT.out HLl.out).mono ?_
                rintro e w10 ⟨rfl, hb⟩
                have BB4 := Lib.hid (BB3.out.trans (hb.mono BB3.out.size))
                have D10 := Lib.hid (D9.out.box hb)
                clear hb BB3 D9 R9 RT
                go_wp2_with (fail)
                refine (sure_in _ _ k hlt dc _ D10.out).mono ?_
                rintro e w10 ⟨he, rfl⟩
                obtain rfl : e = .returned (.int .i64 0) := he.trans (by rw [HN4.out]; rfl)
                clear he
                go_wp2_with (fail)
                go_roundw
                case rel => exact ⟨k + 1, by omega, by go_num, BB4.out⟩
                case measure => simp [intOf]; omega
              · go_wp2_with (fail)
                refine (same_any AR (some ⟨g, 0, none⟩) cR c1 _ _ R9.out RT.out HLl.out).mono ?_
                rintro e w10 ⟨rfl, hb⟩
                have BB4 := Lib.hid (BB3.out.trans (hb.mono BB3.out.size))
                have D10 := Lib.hid (D9.out.box hb)
                clear hb BB3 D9 R9 RT
                go_wp2_with (fail)
                refine (sure_in _ _ k hlt dc _ D10.out).mono ?_
                rintro e w10 ⟨he, rfl⟩
                obtain rfl : e = .returned (.int .i64 lb.length) := he.trans (by rw [HN4.out])
                clear he
                go_wp2_with (fail)
                go_roundw
                case rel => exact ⟨k + 1, by omega, by go_num, BB4.out⟩
                case measure => simp [intOf]; omega
            · obtain rfl : k = 64 := by omega
              go_wp2_with (fail)
              refine (down_any _ _ dc _ (D8.out.box BB2.out)).mono ?_
              rintro e w9 ⟨he, rfl⟩
              obtain rfl : e = .returned (.bool false) := he.trans (by rw [HDn.out])
              clear he
              go_wp2_with (fail)
              go_ret
              exact ⟨rfl, B8.out.trans (BB2.out.mono B8.out.size)⟩
end Go.Proofs.Ythblfkopofmdfaa
