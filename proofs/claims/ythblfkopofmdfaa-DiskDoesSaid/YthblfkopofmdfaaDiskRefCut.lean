/-
  The document's disk: Append as a whole; Cut.
-/
import Derived.Test.YthblfkopofmdfaaDiskRefApp
set_option linter.unusedVariables false
set_option linter.unusedSimpArgs false
namespace Go.Proofs.Ythblfkopofmdfaa
open Go.RowKit

theorem rappend_any (B b : Nat) (n : Int) (A : Option Addr) (c : Nat) (xs : List Int) (d : Dk) (hd : d.ok) (w : World) (h : RkAt w B b d) (hr : Rd w A (bys xs)) (hA : A = none → xs.length = 0) (hAb : ∀ g o, A = some ⟨g, o, none⟩ → bys xs ≠ [] → g ≠ b) (hx : xs.length ≤ 1048576) :
    Calls Try.prog 11 #[.pointer (some ⟨b, 0, none⟩), .int .i64 n, .slice A xs.length c] w (RtPost B b (d.append n xs).1 (.int .i64 (d.append n xs).2) w) := by
  unfold Dk.append
  by_cases hn : n < 0 ∨ 64 ≤ n
  · rw [if_pos hn]
    exact rappend_out B b n hn _ d w h
  · rw [if_neg hn]
    obtain ⟨i, rfl⟩ : ∃ i : Nat, n = (i : Int) := ⟨n.toNat, by omega⟩
    have hi : i < 64 := by omega
    rw [Int.toNat_natCast]
    have hleft : d.step.1.left = d.left := by unfold Dk.left; rw [d.step_b.1, d.step_b.2.2]
    rcases d.step_code with h0 | h8
    · rw [if_pos h0]
      by_cases ht : (xs.length : Int) ≤ d.left
      · rw [if_pos ht, ← d.step_b.1]
        exact rappend_main B b i hi A c xs d hd w h h0 (by rw [hleft]; exact ht) hr hA hAb hx
      · rw [if_neg ht]
        exact rappend_full B b i hi A xs.length c d hd w h h0 (by rw [hleft]; omega)
    · rw [if_neg (by rw [h8]; decide)]
      exact rappend_down B b i hi _ d hd w h h8

theorem own_take {w : World} {B e k : Nat} {A : Option Addr} {c : Nat} {l : List Int} (hk : k ≤ l.length) (h : w.ownsRow B e 1 (.slice A (0 + k) c) (0 + k) ([] ++ bys (l.take k))) : w.ownsRow B e 1 (.slice A k c) (l.take k).length (bys (l.take k)) := by
  rw [List.length_take, Nat.min_eq_left hk]
  rw [List.nil_append] at h
  rw [Nat.zero_add] at h
  exact h

/-- The world behind Cut's first store. -/
theorem rcut_mid {B b i : Nat} {d : Dk} {cs : Array Value} {v : Value} {l : List Int} {w w1 w2 : World} (hB : B ≤ b) (hi : i < 64) (k1 : Kp (· = b) w w1) (hk : Bk w1 b 50 cs) (hc : Rs w1 B b d cs) (hb2 : Below w1.heap.size w1 w2)
    (ho : w2.ownsRow w1.heap.size 5 1 v l.length (bys l)) : Kp (· = b) w (w2.setCell ⟨b, i, none⟩ v) ∧ Bk (w2.setCell ⟨b, i, none⟩ v) b 50 (cs.setIfInBounds i v) ∧ Rs (w2.setCell ⟨b, i, none⟩ v) B b { d with b := upd d.b i l } (cs.setIfInBounds i v) := by
  have h1 := hk.lt
  refine ⟨(k1.tr (kp_below hb2)).set1 _ _, (hk.below hb2 h1).put _ _, ?_⟩
  refine Rs.putB ((hc.keep (kp_below hb2)).keep ((Kp.refl (· = b) w2).set1 _ _)) hi ?_
  exact ((own_fl (n := 0) ho h1).lower (by omega)).keep ((Kp.refl (· = b) w2).set1 _ _)

theorem upd_same {α : Type} (f : Nat → α) (i : Nat) : upd f i (f i) = f := by
  funext k
  unfold upd
  split
  · next e => rw [e]
  · rfl

set_option maxRecDepth 100000 in
set_option maxHeartbeats 4000000 in
theorem rcut_main (B b i k : Nat) (hi : i < 64) (d : Dk) (hd : d.ok) (w : World) (h : RkAt w B b d) (h0 : d.step.2 = 0) (hkl : k ≤ (d.b i).length) :
    Calls Try.prog 13 #[.pointer (some ⟨b, 0, none⟩), .int .i64 i, .int .i64 k] w (RtPost B b { d.step.1 with b := upd d.step.1.b i ((d.step.1.b i).take k), s := upd d.step.1.s i (min (d.step.1.s i) k) } (.int .i64 0) w) := by
  have hs := rstep_any B b d hd w h
  have ho := d.step_ok hd
  have hge := h.ge
  obtain ⟨cs, hk, hc⟩ := h.row
  obtain ⟨v, hv1, hv2⟩ := hc.files i hi
  obtain ⟨A, c, rfl, _⟩ := hv2.row
  have p0 : w.cell? ⟨b, i, none⟩ = some (.slice A (d.b i).length c) := (hk.cell _).trans hv1
  rw [h0] at hs
  have hb1 := d.step_b.1
  generalize d.step.1 = d' at *
  rw [← hb1] at p0 hkl
  have HS := Lib.hid hs
  have HO := Lib.hid ho
  have hlen := ho.len hi
  have l0 : decide ((k : Int) < 0) = false := by simp
  have l1 : decide (((d'.b i).length : Int) < (k : Int)) = false := by simp; omega
  obtain ⟨i0, hi0, hz0, hz1, hz2⟩ := info_parts Try.infoByte
  clear h hs h0 hd ho hk hc hv1 hv2 hb1
  have hi2 : (i : Int) < 64 := by omega
  go_enter Try.func13, Try.ntmps13
  go_wp2_with (fail)
  refine (there_in i hi _).mono ?_
  rintro e w ⟨rfl, rfl⟩
  go_wp2_with (fail)
  refine HS.out.mono ?_
  rintro e w1 ⟨rfl, k1, h1⟩
  obtain ⟨cs, hk, hc⟩ := h1.row
  obtain ⟨v, hv1, hv2⟩ := hc.files i hi
  obtain ⟨A1, c1, rfl, hr0, hr1, hr2, hr3⟩ := hv2.row
  have q0 : w1.cell? ⟨b, i, none⟩ = some (.slice A1 (d'.b i).length c1) := (hk.cell _).trans hv1
  have qs : cs[64 + i]? = some (.int .i64 (d'.s i)) := hc.sure i hi
  have f0 := hk.free i
  have hsz := hk.lt
  have HK := Lib.hid hk
  have HC := Lib.hid hc
  have K1 := Lib.hid k1
  have HQ := Lib.hid qs
  have HR1 : Hid (Rd w1 A1 (bys ((d'.b i).take k))) := rd_take hr1 k
  have HR3 := Lib.hid hr3
  have hkc : k ≤ c1 := by omega
  have hown : Hid ((w1.alloc (.cells #[] 5)).ownsRow w1.heap.size 5 1 (.slice (some ⟨w1.heap.size, 0, none⟩) 0 0) 0 []) := World.ownsRow_lit w1 #[] 0 (Nat.le_refl _) (by simp) rfl
  have HAl : Hid (Below w1.heap.size w1 (w1.alloc (.cells #[] 5))) := (Below.refl _ _).alloc (Nat.le_refl _) _
  have HLb : Hid ((bys ((d'.b i).take k)).length = k * 1) := by unfold Hid; rw [bys_length, List.length_take, Nat.mul_one, Nat.min_eq_left hkl]
  have HKL := Lib.hid hkl
  have q1 := bk_far HK.out q0
  clear hk hc hv1 hv2 hr1 hr2 hr3 k1 h1 HS qs p0
  cases A1 with
  | none =>
    obtain ⟨e1, rfl⟩ := HR3.out rfl
    obtain rfl : k = 0 := by omega
    have HR0 : Hid ((d'.b i).length = 0) := e1
    clear e1
    go_wp2_with (fail)
    go_region_law (refine step_app rfl (.tmp 30) (.tmp 38) 32 rfl w1.heap.size 5 i0 _ 1 1 Try.underlying32 hi0 hz0 hz1 hz2 rfl (by decide) (.slice (some ⟨w1.heap.size, 0, none⟩) 0 0) 0 [] (by simp [Act.eval, Act.put]) (by exact hown.out) none 0 0 (bys ((d'.b i).take 0)) (by simp [Act.eval, Act.put]) (fun _ => rfl) HLb.out (by exact HR1.out.below (below_like HAl.out rfl rfl rfl rfl)) (bys_one _) (by simp only [maxLen]; omega) (by omega) (by simp) ?_; intro A2 c2 w2 hown2 hgrow2; have HB2 := Lib.hid (app_new hgrow2 HAl.out (fun g hg => (own_ge hown.out g hg).1) rfl rfl rfl rfl); have HO2 := Lib.hid (own_take HKL.out hown2); obtain ⟨z0, z1⟩ := append_z HK.out HB2.out q0; clear hown2 hgrow2)
    all_goals
      obtain ⟨M1, M2, M3⟩ := rcut_mid hge hi K1.out HK.out HC.out HB2.out HO2.out
      generalize w2.setCell ⟨b, i, none⟩ (.slice A2 0 c2) = W at *
      have hgs : (cs.setIfInBounds i (Value.slice A2 0 c2)).size = 131 := M3.size
      have q2 : W.cell? ⟨b, 64 + i, none⟩ = some (.int .i64 (d'.s i)) := (M2.cell _).trans (M3.sure i hi)
      have f2 := M2.free (64 + i)
      have N1 := Lib.hid M1
      have N2 := Lib.hid M2
      have N3 := Lib.hid M3
      clear M1 M2 M3 z0 z1 q0 q1 f0 hgs
      generalize hx : d'.s i = x at *
      have HX := Lib.hid hx
      clear hx
      by_cases hxs : 0 < x
      · have HM : Hid (min x 0 = 0) := by unfold Hid; omega
        have hxi : ((0 : Nat) : Int) < (x : Int) := by omega
        clear hxs
        go_wp2_with (fail)
        go_ret
        rw [HM.out]
        exact .of hge (N1.out.set1 _ _) (N2.out.put _ _) ((N3.out.keep ((Kp.refl (· = b) W).set1 _ _)).putS hi 0)
      · have HM : Hid (upd d'.s i 0 = d'.s) := by
          unfold Hid
          have e : 0 = d'.s i := by rw [HX.out]; omega
          rw [e, upd_same]
        have hxi : ¬ ((0 : Nat) : Int) < (x : Int) := by omega
        clear hxs
        go_wp2_with (fail)
        go_ret
        rw [HM.out]
        exact .of hge N1.out N2.out N3.out
  | some ad =>
    go_wp2_with (fail)
    go_region_law (refine step_app rfl (.tmp 30) (.tmp 38) 32 rfl w1.heap.size 5 i0 _ 1 1 Try.underlying32 hi0 hz0 hz1 hz2 rfl (by decide) (.slice (some ⟨w1.heap.size, 0, none⟩) 0 0) 0 [] (by simp [Act.eval, Act.put]) (by exact hown.out) (some ad) k c1 (bys ((d'.b i).take k)) (by simp [Act.eval, Act.put]) (fun e => by cases e) HLb.out (by exact HR1.out.below (below_like HAl.out rfl rfl rfl rfl)) (bys_one _) (by simp only [maxLen]; omega) (by omega) (by simp) ?_; intro A2 c2 w2 hown2 hgrow2; have HB2 := Lib.hid (app_new hgrow2 HAl.out (fun g hg => (own_ge hown.out g hg).1) rfl rfl rfl rfl); have HO2 := Lib.hid (own_take HKL.out hown2); obtain ⟨z0, z1⟩ := append_z HK.out HB2.out q0; clear hown2 hgrow2)
    all_goals
      obtain ⟨M1, M2, M3⟩ := rcut_mid hge hi K1.out HK.out HC.out HB2.out HO2.out
      generalize w2.setCell ⟨b, i, none⟩ (.slice A2 k c2) = W at *
      have hgs : (cs.setIfInBounds i (Value.slice A2 k c2)).size = 131 := M3.size
      have q2 : W.cell? ⟨b, 64 + i, none⟩ = some (.int .i64 (d'.s i)) := (M2.cell _).trans (M3.sure i hi)
      have f2 := M2.free (64 + i)
      have N1 := Lib.hid M1
      have N2 := Lib.hid M2
      have N3 := Lib.hid M3
      clear M1 M2 M3 z0 z1 q0 q1 f0 hgs
      generalize hx : d'.s i = x at *
      have HX := Lib.hid hx
      clear hx
      by_cases hxs : k < x
      · have HM : Hid (min x k = k) := by unfold Hid; omega
        have hxi : ((k : Nat) : Int) < (x : Int) := by omega
        clear hxs
        go_wp2_with (fail)
        go_ret
        rw [HM.out]
        exact .of hge (N1.out.set1 _ _) (N2.out.put _ _) ((N3.out.keep ((Kp.refl (· = b) W).set1 _ _)).putS hi k)
      · have HM : Hid (upd d'.s i (min x k) = d'.s) := by
          unfold Hid
          have e : min x k = d'.s i := by rw [HX.out]; omega
          rw [e, upd_same]
        have hxi : ¬ ((k : Nat) : Int) < (x : Int) := by omega
        clear hxs
        go_wp2_with (fail)
        go_ret
        rw [HM.out]
        exact .of hge N1.out N2.out N3.out
end Go.Proofs.Ythblfkopofmdfaa
