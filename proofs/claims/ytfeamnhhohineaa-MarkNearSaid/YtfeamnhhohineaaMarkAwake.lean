/-
  awake: calls whose answers the document fixes: true.
-/
import Derived.Test.YtfeamnhhohineaaMarkFiles
set_option linter.unusedVariables false
set_option linter.unusedSimpArgs false
namespace Go.Proofs.Ytfeamnhhohineaa
open Go.RowKit

theorem Rd.kp {S : Nat → Prop} {w w' : World} {A : Option Addr} {xs : List Value} (h : Rd w A xs) (k : Kp S w w') (hA : ∀ b o, A = some ⟨b, o, none⟩ → ¬ S b) : Rd w' A xs := by
  intro j u hj
  obtain ⟨b, o, rfl, hl, hc⟩ := h j u hj
  exact ⟨b, o, rfl, Nat.lt_of_lt_of_le hl k.size, (k.cell (p := ⟨b, o + j, none⟩) hl (hA b o rfl)).trans hc⟩

theorem rd_new {w : World} {b : Nat} {t : TypeId} {cs : Array Value} (h : Bk w b t cs) : Rd w (some ⟨b, 0, none⟩) cs.toList := by
  intro j u hj
  refine ⟨b, 0, rfl, h.lt, ?_⟩
  rw [Nat.zero_add, h.cell]
  simpa using hj

instance (m : Mk) : Decidable (okMk m) := by unfold okMk; infer_instance

theorem up_of {l : List Mk} (h : l.Pairwise (fun a b => a.s < b.s)) : Mk.Up l := fun i j hj hi => List.pairwise_iff_getElem.mp h i j _ hj hi

theorem place_dec {l : List Mk} {q : Int} {r : Nat} (h : r ≤ l.length ∧ (∀ i, i < l.length → (i < r → (l[i]?.map Mk.s).getD 0 ≤ q) ∧ (r ≤ i → q < (l[i]?.map Mk.s).getD 0))) : Mk.Place l q r := by
  refine ⟨h.1, fun i hi hr => ?_, fun i hi hr => ?_⟩
  · have := (h.2 i hi).1 hr
    rwa [List.getElem?_eq_getElem hi] at this
  · have := (h.2 i hi).2 hr
    rwa [List.getElem?_eq_getElem hi] at this

def l1 : List Mk := [⟨1, 4, 0⟩]
def l2 : List Mk := [⟨1, 4, 0⟩, ⟨3, 4, 17⟩]
def l3 : List Mk := [⟨1, 4, 0⟩, ⟨3, 4, 17⟩, ⟨4, 5, 0⟩]
def l4 : List Mk := [⟨3, 4, 17⟩]

theorem find_yes {l : List Mk} {q : Int} {r : Nat} {m : Mk} {w w' : World} {e : Ending} (h : FindPost l q w e w') (hP : Mk.Place l q (r + 1)) (hm : l[r]? = some m) : e = .returned (.tuple #[mv m, .bool true]) ∧ Below w.heap.size w w' := by
  obtain ⟨hb, ⟨h0, _⟩ | ⟨k, hk, h1, rfl⟩⟩ := h
  · have := h0.uniq hP; omega
  · have hh := h1.uniq hP
    obtain rfl : k = r := by omega
    rw [List.getElem?_eq_getElem hk] at hm
    injection hm with hm
    exact ⟨by rw [hm], hb⟩

theorem find_no {l : List Mk} {q : Int} {w w' : World} {e : Ending} (h : FindPost l q w e w') (hP : Mk.Place l q 0) : e = .returned (.tuple #[mv ⟨0, 0, 0⟩, .bool false]) ∧ Below w.heap.size w w' := by
  obtain ⟨hb, ⟨_, rfl⟩ | ⟨k, hk, h1, rfl⟩⟩ := h
  · exact ⟨rfl, hb⟩
  · have := h1.uniq hP; omega

theorem mk_at_new (w : World) : MkAt (w.alloc (.cells #[.slice none 0 0, .int .i64 0] 44)) w.heap.size w.heap.size [] 0 :=
  ⟨Nat.le_refl _, _, Bk.new w _ _, World.ownsRow_nil _ _ _ _⟩

theorem sml {l : List Mk} {last : Int} (h : l.all (fun m => decide (0 ≤ m.s) && decide (m.s ≤ last)) = true) : ∀ m ∈ l, 0 ≤ m.s ∧ m.s ≤ last := by
  intro m hm
  have := List.all_eq_true.mp h m hm
  simpa using this

theorem far1 : ¬ Near ([] : List Mk) ⟨1, 4, 0⟩ := fun ⟨h, _⟩ => absurd h (by decide)
theorem near2 : Near l1 ⟨2, 4, 9⟩ := ⟨by decide, by decide, by decide⟩
theorem far3 : ¬ Near l1 ⟨3, 4, 17⟩ := fun ⟨_, _, h⟩ => absurd (show (3 : Int) - 1 < 2 from h) (by decide)
theorem far4 : ¬ Near l2 ⟨4, 5, 0⟩ := fun ⟨_, h, _⟩ => absurd (show (4 : Int) = 5 from h) (by decide)
theorem near5 : Near l2 ⟨4, 4, 30⟩ := ⟨by decide, by decide, by decide⟩
theorem up2 : Mk.Up l2 := up_of (by decide)
theorem up3 : Mk.Up l3 := up_of (by decide)

set_option maxRecDepth 100000 in
set_option maxHeartbeats 4000000 in
theorem awake_any (w : World) : Calls Try.prog 4 #[] w fun e w' => e = .returned (.bool true) ∧ Below w.heap.size w w' := by
  have HZ : Hid (∃ B, B = w.heap.size) := ⟨_, rfl⟩
  go_enter Try.func4, Try.ntmps4
  go_wp2_with (fail)
  refine (mark_new _).mono ?_
  rintro e w0 ⟨rfl, hw0⟩
  have M0 : Hid (MkAt w0 w.heap.size w.heap.size [] 0) := by rw [hw0]; exact mk_at_new w
  have B0 : Hid (Below w.heap.size w w0) := by rw [hw0]; exact (Below.refl _ _).alloc (Nat.le_refl _) _
  clear hw0
  go_wp2_with (fail)
  refine (add_new _ _ [] 0 1 4 0 _ M0.out (by decide) (by decide) (by decide) far1 (sml (by decide))).mono ?_
  rintro e w1 ⟨rfl, hb, hm, _⟩
  have M1 : Hid (MkAt w1 w.heap.size w.heap.size l1 1) := hm
  have B1 := Lib.hid (B0.out.trans hb)
  clear hb hm B0 M0
  go_wp2_with (fail)
  refine (add_skip _ _ l1 1 2 4 9 _ M1.out (by decide) (by decide) (by decide) near2 (sml (by decide))).mono ?_
  rintro e w2 ⟨rfl, hb, hm, _⟩
  have M2 := Lib.hid hm
  have B2 := Lib.hid (B1.out.trans (hb.below (fun k hk e => by omega) (Nat.le_of_lt M1.out.lt)))
  clear hb hm B1 M1
  go_wp2_with (fail)
  refine (add_new _ _ l1 2 3 4 17 _ M2.out (by decide) (by decide) (by decide) far3 (sml (by decide))).mono ?_
  rintro e w3 ⟨rfl, hb, hm, _⟩
  have M3 : Hid (MkAt w3 w.heap.size w.heap.size l2 3) := hm
  have B3 := Lib.hid (B2.out.trans hb)
  clear hb hm B2 M2
  go_wp2_with (fail)
  refine (add_new _ _ l2 3 4 5 0 _ M3.out (by decide) (by decide) (by decide) far4 (sml (by decide))).mono ?_
  rintro e w4 ⟨rfl, hb, hm, _⟩
  have M4 : Hid (MkAt w4 w.heap.size w.heap.size l3 4) := hm
  have B4 := Lib.hid (B3.out.trans hb)
  clear hb hm B3 M3
  go_wp2_with (fail)
  refine (add_gap _ _ l3 4 4 5 0 _ M4.out (by decide) (by decide)).mono ?_
  rintro e w5 ⟨rfl, hb, hm, _⟩
  have M5 := Lib.hid hm
  have B5 := Lib.hid (B4.out.trans hb)
  clear hb hm B4 M4
  go_wp2_with (fail)
  refine (add_arg _ _ l3 4 5 64 0 _ M5.out (by decide)).mono ?_
  rintro e w6 ⟨rfl, hb, hm, _⟩
  have M6 := Lib.hid hm
  have B6 := Lib.hid (B5.out.trans hb)
  clear hb hm B5 M5
  go_wp2_with (fail)
  refine (find_any _ _ l3 4 2 _ M6.out up3 (by decide)).mono ?_
  intro e w7 hfd
  obtain ⟨he, hb⟩ := find_yes (r := 0) (m := ⟨1, 4, 0⟩) hfd (place_dec (by decide)) rfl
  obtain rfl : e = .returned (.tuple #[.agg #[.int .i64 1, .int .i64 4, .int .i64 0], .bool true]) := he
  have M7 := Lib.hid (M6.out.box hb)
  have B7 := Lib.hid (B6.out.trans (hb.mono (Nat.le_of_lt M6.out.lt)))
  clear hb hfd B6 M6
  go_wp2_with (fail)
  have M8 := Lib.hid (M7.out.box ((Below.refl _ _).alloc (Nat.le_refl _) (.cells #[.int .i64 1, .int .i64 4, .int .i64 0] 29)))
  have B8 := Lib.hid (B7.out.alloc (Nat.le_trans (Nat.le_of_lt M7.out.lt) (Nat.le_refl _)) (.cells #[.int .i64 1, .int .i64 4, .int .i64 0] 29))
  have D8 := Lib.hid (Bk.new w7 29 #[.int .i64 1, .int .i64 4, .int .i64 0])
  have L7 := M7.out.lt
  generalize hW8 : w7.alloc (.cells #[.int .i64 1, .int .i64 4, .int .i64 0] 29) = w8 at *
  clear hW8 B7 M7
  generalize hc8 : w7.heap.size = c8 at *
  clear hc8
  refine (find_any _ _ l3 4 0 _ M8.out up3 (by decide)).mono ?_
  intro e w9 hfd
  obtain ⟨he, hb⟩ := find_no hfd (place_dec (by decide))
  obtain rfl : e = .returned (.tuple #[.agg #[.int .i64 0, .int .i64 0, .int .i64 0], .bool false]) := he
  have M9 := Lib.hid (M8.out.box hb)
  have B9 := Lib.hid (B8.out.trans (hb.mono (Nat.le_of_lt M8.out.lt)))
  have D9 := Lib.hid (D8.out.below hb D8.out.lt)
  clear hb hfd B8 M8 D8
  go_wp2_with (fail)
  have M10 := Lib.hid (M9.out.box ((Below.refl _ _).alloc (Nat.le_refl _) (.cells #[.int .i64 0, .int .i64 0, .int .i64 0] 29)))
  have B10 := Lib.hid (B9.out.alloc (Nat.le_of_lt M9.out.lt) (.cells #[.int .i64 0, .int .i64 0, .int .i64 0] 29))
  have D10 := Lib.hid (D9.out.alloc (.cells #[.int .i64 0, .int .i64 0, .int .i64 0] 29))
  generalize hW10 : w9.alloc (.cells #[.int .i64 0, .int .i64 0, .int .i64 0] 29) = w10 at *
  clear hW10 B9 M9 D9
  generalize hc10 : w9.heap.size = c10 at *
  clear hc10
  refine (files_445 _ _ l3 4 _ M10.out (by decide) rfl).mono ?_
  rintro e w11 ⟨A, c, rfl, hr, hb, hA⟩
  have R11 := Lib.hid hr
  have M11 := Lib.hid (M10.out.box hb)
  have B11 := Lib.hid (B10.out.trans (hb.mono (Nat.le_of_lt M10.out.lt)))
  have D11 := Lib.hid (D10.out.below hb D10.out.lt)
  have L10 := Lib.hid M10.out.lt
  have HA : Hid (∀ b o, A = some ⟨b, o, none⟩ → w.heap.size < b) := fun b o e => Nat.lt_of_lt_of_le L10.out (hA b o e)
  clear hb hr hA B10 M10 D10
  go_wp2_with (fail)
  refine (cut_any _ _ l3 4 3 2 _ M11.out up3 (by decide) (by decide) (place_dec (by decide)) (by decide) (by decide)).mono ?_
  rintro e w12 ⟨rfl, hb, hm, _⟩
  have M12 : Hid (MkAt w12 w.heap.size w.heap.size l2 3) := hm
  have K12 := Lib.hid hb
  clear hb hm M11
  go_wp2_with (fail)
  refine (add_skip _ _ l2 3 4 4 30 _ M12.out (by decide) (by decide) (by decide) near5 (sml (by decide))).mono ?_
  rintro e w13 ⟨rfl, hb, hm, _⟩
  have M13 := Lib.hid hm
  have K13 := Lib.hid (K12.out.tr hb)
  clear hb hm K12 M12
  go_wp2_with (fail)
  refine (drop_any _ _ l2 4 3 1 _ M13.out up2 (by decide) (place_dec (by decide))).mono ?_
  rintro e w14 ⟨rfl, hb, hm, _⟩
  have M14 : Hid (MkAt w14 w.heap.size w.heap.size l4 4) := hm
  have K14 := Lib.hid (K13.out.tr hb)
  clear hb hm K13 M13
  have hc8 : c8 ≠ w.heap.size := by omega
  have D14 : Hid (Bk w14 c8 29 #[.int .i64 1, .int .i64 4, .int .i64 0]) := D11.out.kp K14.out hc8
  have R14 : Hid (Rd w14 A (ints [4, 5])) := R11.out.kp K14.out (fun b o e => Nat.ne_of_gt (HA.out b o e))
  have B14 := Lib.hid (B11.out.trans (K14.out.below (fun k hk e => by omega) B11.out.size))
  have q0 : w14.cell? ⟨c8, 0, none⟩ = some (.int .i64 1) := D14.out.cell 0
  have q1 : w14.cell? ⟨c8, 1, none⟩ = some (.int .i64 4) := D14.out.cell 1
  have q2 : w14.cell? ⟨c8, 2, none⟩ = some (.int .i64 0) := D14.out.cell 2
  have L14 := M14.out.lt
  clear D11 R11 B11 K14 D14 HA
  go_wp2_with (fail)
  refine (ints_any A (some ⟨w14.heap.size, 0, none⟩) c 2 [4, 5] _ (R14.out.below ((Below.refl _ _).alloc (Nat.le_refl _) _)) (rd_new (Bk.new w14 3 #[.int .i64 4, .int .i64 5])) (by decide)).mono ?_
  rintro e w15 ⟨rfl, hb⟩
  have A15 := ((Below.refl w14.heap.size w14).alloc (Nat.le_refl _) (.cells #[.int .i64 4, .int .i64 5] 3)).trans (hb.mono (by simp))
  have M15 := Lib.hid (M14.out.box A15)
  have B15 := Lib.hid (B14.out.trans (A15.mono (Nat.le_of_lt L14)))
  clear hb A15 B14 M14 R14 q0 q1 q2
  go_wp2_with (fail)
  refine (all_any _ _ l4 4 _ M15.out (by decide)).mono ?_
  rintro e w16 ⟨v, rfl, hown, hb⟩
  obtain ⟨Av, cv, rfl⟩ := own_shape hown
  have O16 := Lib.hid hown
  have B16 := Lib.hid (B15.out.trans (hb.mono (Nat.le_of_lt M15.out.lt)))
  have hsz := hb.size
  have L15 := M15.out.lt
  clear hb hown B15 M15
  go_wp2_with (fail)
  refine (own_any Av cv l4 _ (own_rd O16.out) (by decide)).mono ?_
  rintro e w17 ⟨v, rfl, hown, hb⟩
  obtain ⟨Aw, cw, rfl⟩ := own_shape hown
  have O17 := Lib.hid hown
  have B17 := Lib.hid (B16.out.trans (hb.mono (by omega)))
  have hsz2 := hb.size
  clear hb hown B16 O16
  go_wp2_with (fail)
  refine (same_any Aw (some ⟨w17.heap.size, 0, none⟩) cw 1 l4 _ ((own_rd O17.out).below ((Below.refl _ _).alloc (Nat.le_refl _) _)) (rd_new (Bk.new w17 42 #[.int .i64 3, .int .i64 4, .int .i64 17])) (by decide)).mono ?_
  rintro e w18 ⟨rfl, hb⟩
  have B18 := Lib.hid ((B17.out.alloc (by omega) (.cells #[.int .i64 3, .int .i64 4, .int .i64 17] 42)).trans (hb.mono (by simp; omega)))
  clear hb O17 B17
  go_wp2_with (fail)
  go_ret
  exact ⟨rfl, B18.out⟩
end Go.Proofs.Ytfeamnhhohineaa
