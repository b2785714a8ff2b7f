/-
  Of the tables: are rows of transactions the same?
-/
import Derived.Test.YtiomdclelbjmmaaHoldSame
set_option linter.unusedVariables false
set_option linter.unusedSimpArgs false
namespace Go.Proofs.Ytiomdclelbjmmaa
open Go.RowKit

set_option maxRecDepth 100000 in
set_option maxHeartbeats 4000000 in
theorem txns_any {S S2 : Nat → Prop} {Q1 Q2 : List Tx} {A1 A2 : Option Addr} {c1 c2 : Nat} (w : World) (h1 : Ts S w (.slice A1 Q1.length c1) Q1) (h2 : Ts S2 w (.slice A2 Q2.length c2) Q2) (hw1 : ∀ t ∈ Q1, t.ws.length ≤ 1000000) (hw2 : ∀ t ∈ Q2, t.ws.length ≤ 1000000) (hl : Q1.length ≤ 1000000) :
    Calls Try.prog 15 #[.slice A1 Q1.length c1, .slice A2 Q2.length c2] w (fun e w' => ∃ r : Bool, e = .returned (.bool r) ∧ (Q1 = Q2 → r = true) ∧ Below w.heap.size w w') := by
  obtain ⟨A, c, L1, e1, _, _, rfl, s1, k1⟩ := h1.row
  obtain ⟨rfl, -, rfl⟩ : A1 = A ∧ True ∧ c1 = c := by injection e1 with a b d; exact ⟨a, trivial, d⟩
  obtain ⟨A, c, L2, e2, _, _, rfl, s2, k2⟩ := h2.row
  obtain ⟨rfl, -, rfl⟩ : A2 = A ∧ True ∧ c2 = c := by injection e2 with a b d; exact ⟨a, trivial, d⟩
  clear e1 e2 h1 h2
  rw [List.length_map, List.length_map] at *
  have R1 := Lib.hid s1.rd
  have R2 := Lib.hid s2.rd
  have K1 := Lib.hid k1
  have K2 := Lib.hid k2
  have W1 : Hid (∀ (k : Nat) (h : k < L1.length), L1[k].t.ws.length ≤ 1000000) := fun k h => hw1 _ (List.mem_map_of_mem (List.getElem_mem h))
  have W2 : Hid (∀ (k : Nat) (h : k < L2.length), L2[k].t.ws.length ≤ 1000000) := fun k h => hw2 _ (List.mem_map_of_mem (List.getElem_mem h))
  have HQ : Hid (L1.map Tv.t = L2.map Tv.t → ∀ (k : Nat) (h : k < L1.length) (h' : k < L2.length), L1[k].t = L2[k].t) := fun e k h h' => by
    have := congrArg (fun l => l[k]?) e
    simpa [h, h'] using this
  clear s1 s2 k1 k2 hw1 hw2
  by_cases e0 : L1.length = L2.length
  rotate_left
  · have H0 := Lib.hid e0
    go_enter Try.func15, Try.ntmps15
    go_wp2_with (fail)
    go_ret
    exact ⟨false, rfl, fun e => absurd (by simpa using congrArg List.length e) H0.out, Below.refl _ _⟩
  · have H0 := Lib.hid e0
    go_enter Try.func15, Try.ntmps15
    go_wp2_with (fail)
    clear e0
    go_loopw [5] (fun i wr => ∃ k : Nat, k ≤ L1.length ∧ i = .int .i64 k ∧ Below w.heap.size w wr) (fun i _ => L1.length - (intOf i).toNat)
    case atStart => exact ⟨0, Nat.zero_le _, rfl, Below.refl _ _⟩
    case round =>
      obtain ⟨k, hk, rfl, hb⟩ := hrel
      have HB := Lib.hid hb
      by_cases hlt : k < L1.length
      · have hlt2 : k < L2.length := by rw [← H0.out]; exact hlt
        obtain ⟨b1, o1, ha1, lb1, s0, s1, s2, s3, s4, s5⟩ := tx_cells (R1.out.below hb) hlt
        obtain ⟨b2, o2, ha2, lb2, t0, t1, t2, t3, t4, t5⟩ := tx_cells (R2.out.below hb) hlt2
        have KX := Lib.hid ((K1.out _ (List.getElem_mem hlt)).sh.rd.below hb)
        have KY := Lib.hid ((K2.out _ (List.getElem_mem hlt2)).sh.rd.below hb)
        have VX := Lib.hid (W1.out k hlt)
        have VY := Lib.hid (W2.out k hlt2)
        have HE : Hid (L1.map Tv.t = L2.map Tv.t → L1[k].t = L2[k].t) := fun e => HQ.out e k hlt hlt2
        generalize L1[k] = x at *
        generalize L2[k] = y at *
        subst ha1 ha2
        have HCell : Hid (∀ W7 : World, Below wr.heap.size wr W7 → W7.cell? ⟨b1, o1 + k * 6, none⟩ = some (.int .i64 x.t.o) ∧ W7.cell? ⟨b1, o1 + k * 6 + 1, none⟩ = some (.int .i64 x.t.s) ∧ W7.cell? ⟨b1, o1 + k * 6 + 2, none⟩ = some (.int .i64 x.t.d0) ∧ W7.cell? ⟨b1, o1 + k * 6 + 3, none⟩ = some (.int .i64 x.t.d1) ∧ W7.cell? ⟨b1, o1 + k * 6 + 4, none⟩ = some (.int .i64 x.t.d2) ∧ W7.cell? ⟨b1, o1 + k * 6 + 5, none⟩ = some (.slice x.A x.t.ws.length x.c) ∧ W7.cell? ⟨b2, o2 + k * 6, none⟩ = some (.int .i64 y.t.o) ∧ W7.cell? ⟨b2, o2 + k * 6 + 1, none⟩ = some (.int .i64 y.t.s) ∧ W7.cell? ⟨b2, o2 + k * 6 + 2, none⟩ = some (.int .i64 y.t.d0) ∧ W7.cell? ⟨b2, o2 + k * 6 + 3, none⟩ = some (.int .i64 y.t.d1) ∧ W7.cell? ⟨b2, o2 + k * 6 + 4, none⟩ = some (.int .i64 y.t.d2) ∧ W7.cell? ⟨b2, o2 + k * 6 + 5, none⟩ = some (.slice y.A y.t.ws.length y.c)) := fun W7 h => ⟨(h.cell (p := ⟨b1, _, none⟩) lb1).trans s0, (h.cell (p := ⟨b1, _, none⟩) lb1).trans s1, (h.cell (p := ⟨b1, _, none⟩) lb1).trans s2, (h.cell (p := ⟨b1, _, none⟩) lb1).trans s3, (h.cell (p := ⟨b1, _, none⟩) lb1).trans s4, (h.cell (p := ⟨b1, _, none⟩) lb1).trans s5, (h.cell (p := ⟨b2, _, none⟩) lb2).trans t0, (h.cell (p := ⟨b2, _, none⟩) lb2).trans t1, (h.cell (p := ⟨b2, _, none⟩) lb2).trans t2, (h.cell (p := ⟨b2, _, none⟩) lb2).trans t3, (h.cell (p := ⟨b2, _, none⟩) lb2).trans t4, (h.cell (p := ⟨b2, _, none⟩) lb2).trans t5⟩
        clear hb
        go_wp2_with (fail)
        go_region_held3 (fun W => W.cell? ⟨b1, o1 + k * 6, none⟩ = some (.int .i64 x.t.o) ∧ W.cell? ⟨b1, o1 + k * 6 + 1, none⟩ = some (.int .i64 x.t.s) ∧ W.cell? ⟨b1, o1 + k * 6 + 2, none⟩ = some (.int .i64 x.t.d0) ∧ W.cell? ⟨b1, o1 + k * 6 + 3, none⟩ = some (.int .i64 x.t.d1) ∧ W.cell? ⟨b1, o1 + k * 6 + 4, none⟩ = some (.int .i64 x.t.d2) ∧ W.cell? ⟨b1, o1 + k * 6 + 5, none⟩ = some (.slice x.A x.t.ws.length x.c) ∧ W.cell? ⟨b2, o2 + k * 6, none⟩ = some (.int .i64 y.t.o) ∧ W.cell? ⟨b2, o2 + k * 6 + 1, none⟩ = some (.int .i64 y.t.s) ∧ W.cell? ⟨b2, o2 + k * 6 + 2, none⟩ = some (.int .i64 y.t.d0) ∧ W.cell? ⟨b2, o2 + k * 6 + 3, none⟩ = some (.int .i64 y.t.d1) ∧ W.cell? ⟨b2, o2 + k * 6 + 4, none⟩ = some (.int .i64 y.t.d2) ∧ W.cell? ⟨b2, o2 + k * 6 + 5, none⟩ = some (.slice y.A y.t.ws.length y.c)) (first | exact ⟨s0, s1, s2, s3, s4, s5, t0, t1, t2, t3, t4, t5⟩)
          (first
            | (go_at_call 14; refine (same_any x y _ (by exact KX.out) (by exact KY.out) VX.out VY.out).mono ?_; rintro e w7 ⟨r, rfl, hr, hb7⟩; have HR := Lib.hid hr; have B7 := Lib.hid (below_un hb7); clear hr hb7; obtain ⟨s0, s1, s2, s3, s4, s5, t0, t1, t2, t3, t4, t5⟩ := HCell.out _ B7.out))
        all_goals go_wp2_with (fail)
        · go_ret
          exact ⟨false, rfl, (fun e => by have := HR.out (HE.out e); simp_all), HB.out.trans (B7.out.mono HB.out.size)⟩
        · exact ⟨⟨k + 1, by omega, by go_num, HB.out.trans (B7.out.mono HB.out.size)⟩, by simp [intOf]; omega⟩
      · have := H0.out
        clear hb
        go_wp2_with (fail)
        go_ret
        exact ⟨true, rfl, fun _ => rfl, HB.out⟩
end Go.Proofs.Ytiomdclelbjmmaa
