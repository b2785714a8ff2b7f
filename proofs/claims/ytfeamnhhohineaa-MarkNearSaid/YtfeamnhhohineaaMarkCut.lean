/-
  The walks through package mark: All, Drop, Cut.
-/
import Derived.Test.YtfeamnhhohineaaMarkAdd
set_option linter.unusedVariables false
set_option linter.unusedSimpArgs false
namespace Go.Proofs.Ytfeamnhhohineaa
open Go.RowKit

theorem MkAt.parts {w : World} {B b : Nat} {l : List Mk} {last : Int} (h : MkAt w B b l last) : ∃ A c, Bk w b 44 #[.slice A l.length c, .int .i64 last] ∧ w.ownsRow B 29 3 (.slice A l.length c) l.length (Mk.cells l) ∧ (A = none → l.length = 0) := by
  obtain ⟨v, h1, h2⟩ := h.row
  obtain ⟨A, c, rfl⟩ := own_shape h2
  refine ⟨A, c, h1, h2, fun hA => ?_⟩
  subst hA
  rcases own_form h2 with ⟨_, e, _⟩ | ⟨g, cap, hv, _⟩
  · exact e
  · cases hv

def AllPost (B : Nat) (l : List Mk) (w : World) (e : Ending) (w' : World) : Prop :=
  ∃ v, e = .returned v ∧ w'.ownsRow w.heap.size 29 3 v l.length (Mk.cells l) ∧ Below w.heap.size w w'

theorem all_any (B b : Nat) (l : List Mk) (last : Int) (w : World) (h : MkAt w B b l last) (hn : l.length ≤ 1000000) :
    Calls Try.prog 14 #[.pointer (some ⟨b, 0, none⟩)] w (AllPost B l w) := by
  obtain ⟨A, c, hbk, hown, h0⟩ := h.parts
  have eb : w.cell? ⟨b, 0, none⟩ = some (.slice A l.length c) := hbk.cell 0
  have HO := Lib.hid hown
  have H0 := Lib.hid h0
  clear hbk hown h0 h
  go_enter Try.func14, Try.ntmps14
  go_wp2_with (fail)
  refine (clone_any A c l _ (own_rd HO.out) H0.out hn).mono ?_
  rintro e w1 ⟨v, rfl, hown, hb⟩
  have HO1 := Lib.hid hown
  clear hown
  go_wp2_with (fail)
  go_ret
  exact ⟨v, rfl, HO1.out, hb⟩

/-- What Drop and Cut leave. -/
def CutPost (B b : Nat) (l : List Mk) (last r : Int) (w : World) (e : Ending) (w' : World) : Prop :=
  e = .returned (.int .i64 r) ∧ Kp (· = b) w w' ∧ MkAt w' B b l last ∧ w.heap.size ≤ w'.heap.size

theorem two_below {w w1 w2 : World} {b : Nat} (hb : Below w.heap.size w w1) (hb2 : Below w1.heap.size w1 w2) : Kp (· = b) w w2 :=
  ((Kp.of_below hb).trans (Kp.of_below hb2) (fun i hi (h : w1.heap.size ≤ i) => by have := hb.size; exact absurd hi (by omega))).mono (fun i hi (h : w.heap.size ≤ i) => absurd hi (by omega))

theorem cut_fin {w1 w2 : World} {B b : Nat} {l : List Mk} {last : Int} {v : Value} (hB : B ≤ b) (hlt : b < w1.heap.size) (hb2 : Below w1.heap.size w1 w2) {x : Value} (hk : Bk w1 b 44 #[x, .int .i64 last])
    (hown : w2.ownsRow w1.heap.size 29 3 v l.length (Mk.cells l)) : MkAt (w2.setCell ⟨b, 0, none⟩ v) B b l last :=
  ⟨hB, v, (hk.below hb2 hlt).put 0 _, own_lower (own_kp hown ((Kp.refl (· = b) w2).set1 0 _) (fun g hg e => by have := (own_ge hown g hg).1; omega)) (by omega)⟩

set_option maxRecDepth 100000 in
set_option maxHeartbeats 1000000 in
theorem drop_any (B b : Nat) (l : List Mk) (last q : Int) (r : Nat) (w : World) (h : MkAt w B b l last) (hu : Mk.Up l) (hn : l.length ≤ 1000000) (hP : Mk.Place l q (r + 1)) :
    Calls Try.prog 10 #[.pointer (some ⟨b, 0, none⟩), .int .i64 q] w (CutPost B b (l.drop r) last r w) := by
  have HM := Lib.hid h
  have HU := Lib.hid hu
  have HP := Lib.hid hP
  have hge := h.ge
  have hlt := h.lt
  have hrl := hP.1
  clear h hu hP
  go_enter Try.func10, Try.ntmps10
  go_wp2_with (fail)
  refine (place_any B b l last q _ HM.out HU.out (by omega)).mono ?_
  rintro e w1 ⟨r', rfl, hb, hP'⟩
  obtain rfl : r' = r + 1 := hP'.uniq HP.out
  clear hP'
  obtain ⟨A, c, hbk, hown, h0⟩ := (HM.out.box hb).parts
  have hlt1 : b < w1.heap.size := Nat.lt_of_lt_of_le hlt hb.size
  have eb : w1.cell? ⟨b, 0, none⟩ = some (.slice A l.length c) := hbk.cell 0
  have hmx : (if 0 > ((r : Int) + 1 - 1) then (0 : Int) else (r : Int) + 1 - 1) = (r : Int) := by split <;> omega
  rcases own_form hown with ⟨_, e, _⟩ | ⟨g, cap, hv, hg, hgl, hnc, hcm⟩
  · omega
  · injection hv with hA _ hc
    subst hA; subst hc
    have hc1 : ¬ c = r := by omega
    have hc2 : r ≤ l.length := by omega
    have hr0 : ¬ ((r : Int) < 0) := by omega
    have HO := Lib.hid hown
    have HB := Lib.hid hbk
    clear hown hbk h0
    go_wp2_with (fail)
    have hrd : Rd w1 (some ⟨g, r * 3, none⟩) (Mk.cells (l.drop r)) := by
      intro j u hu
      rw [← Mk.cells_drop, List.getElem?_drop] at hu
      refine ⟨g, r * 3, rfl, hgl, ?_⟩
      have hj : r * 3 + j < l.length * 3 := by
        have := (List.getElem?_eq_some_iff.1 hu).1
        rw [Mk.cells_length] at this
        exact this
      rw [HO.out.cellAt _ hj, hu]
    have hcl := clone_any (some ⟨g, r * 3, none⟩) (c - r) (l.drop r) w1 hrd (fun h => by cases h) (by simp; omega)
    rw [List.length_drop] at hcl
    refine hcl.mono ?_
    rintro e w2 ⟨v, rfl, hown2, hb2⟩
    rw [← List.length_drop] at hown2
    have HO2 := Lib.hid hown2
    have HK := HB.out.below hb2 hlt1
    have z0 : w2.cell? ⟨b, 0, none⟩ = some (.slice (some ⟨g, 0, none⟩) l.length c) := HK.cell 0
    have z1 := HK.free 0
    obtain ⟨A2, c2, rfl⟩ := own_shape HO2.out
    clear hown2 hcl HK
    go_wp2_with (fail)
    go_ret
    exact ⟨rfl, (two_below hb hb2).set1 0 _, (by have h := cut_fin hge hlt1 hb2 HB.out HO2.out; rw [List.length_drop] at h; exact h), by have h1 := hb.size; have h2 := hb2.size; simp; omega⟩

set_option maxRecDepth 100000 in
set_option maxHeartbeats 1000000 in
theorem cut_any (B b : Nat) (l : List Mk) (last q : Int) (r : Nat) (w : World) (h : MkAt w B b l last) (hu : Mk.Up l) (hn : l.length ≤ 1000000) (h0 : 0 < l.length) (hP : Mk.Place l q r) (q0 : 0 ≤ q) (q1 : q < last) :
    Calls Try.prog 9 #[.pointer (some ⟨b, 0, none⟩), .int .i64 q] w (CutPost B b (l.take r) q (l.length - r : Nat) w) := by
  have HM := Lib.hid h
  have HU := Lib.hid hu
  have HP := Lib.hid hP
  have hge := h.ge
  have hlt := h.lt
  have hrl := hP.1
  clear h hu hP
  go_enter Try.func9, Try.ntmps9
  go_wp2_with (fail)
  refine (place_any B b l last q _ HM.out HU.out (by omega)).mono ?_
  rintro e w1 ⟨r', rfl, hb, hP'⟩
  obtain rfl : r' = r := hP'.uniq HP.out
  clear hP'
  obtain ⟨A, c, hbk, hown, _⟩ := (HM.out.box hb).parts
  have hlt1 : b < w1.heap.size := Nat.lt_of_lt_of_le hlt hb.size
  have eb : w1.cell? ⟨b, 0, none⟩ = some (.slice A l.length c) := hbk.cell 0
  rcases own_form hown with ⟨_, e, _⟩ | ⟨g, cap, hv, hg, hgl, hnc, hcm⟩
  · omega
  · injection hv with hA _ hc
    subst hA; subst hc
    have hc2 : r' ≤ c := by omega
    have HO := Lib.hid hown
    have HB := Lib.hid hbk
    clear hown hbk
    go_wp2_with (fail)
    have hlen : (l.take r').length = r' := by simp; omega
    have hrd : Rd w1 (some ⟨g, 0, none⟩) (Mk.cells (l.take r')) := by
      intro j u hu
      rw [← Mk.cells_take] at hu
      have hj : j < r' * 3 := by
        have := (List.getElem?_eq_some_iff.1 hu).1
        rw [List.length_take] at this
        omega
      rw [List.getElem?_take, if_pos hj] at hu
      refine ⟨g, 0, rfl, hgl, ?_⟩
      rw [Nat.zero_add, HO.out.cellAt _ (by omega), hu]
    have hcl := clone_any (some ⟨g, 0, none⟩) c (l.take r') w1 hrd (fun h => by cases h) (by omega)
    rw [hlen] at hcl
    refine hcl.mono ?_
    rintro e w2 ⟨v, rfl, hown2, hb2⟩
    have HL := Lib.hid hlen
    have HO2 : Hid (w2.ownsRow w1.heap.size 29 3 v (l.take r').length (Mk.cells (l.take r'))) := by unfold Hid; rw [hlen]; exact hown2
    have HK := HB.out.below hb2 hlt1
    have z0 : w2.cell? ⟨b, 0, none⟩ = some (.slice (some ⟨g, 0, none⟩) l.length c) := HK.cell 0
    have z1 := HK.free 0
    have z2 : w2.cell? ⟨b, 1, none⟩ = some (.int .i64 last) := HK.cell 1
    have z3 := HK.free 1
    have HK2 := Lib.hid HK
    obtain ⟨A2, c2, rfl⟩ := own_shape HO2.out
    clear hown2 hcl HK hlen
    go_wp2_with (fail)
    go_ret
    have hk' : MkAt ((w2.setCell ⟨b, 0, none⟩ (.slice A2 (l.take r').length c2)).setCell ⟨b, 1, none⟩ (.int .i64 q)) B b (l.take r') q := by
      refine ⟨hge, _, (HK2.out.put 0 _).put 1 _, own_lower (own_kp HO2.out (((Kp.refl (· = b) w2).set1 0 _).set1 1 _) (fun g hg e => by have := (own_ge HO2.out g hg).1; omega)) (by omega)⟩
    rw [HL.out] at hk'
    exact ⟨by show Ending.returned (.int .i64 _) = Ending.returned (.int .i64 _); congr 2; omega, ((two_below hb hb2).set1 0 _).set1 1 _, hk', by have h1 := hb.size; have h2 := hb2.size; simp; omega⟩
end Go.Proofs.Ytfeamnhhohineaa
