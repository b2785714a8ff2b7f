/-
  Peek of the document's hold.
-/
import Derived.Test.YtiomdclelbjmmaaHoldPeek
set_option linter.unusedVariables false
set_option linter.unusedSimpArgs false
namespace Go.Proofs.Ytiomdclelbjmmaa
open Go.RowKit

/-- No cell of a transaction is a text. -/
theorem rpk_wk {S : Nat → Prop} {w w' : World} {b : Nat} {tt : TypeId} {y0 y1 y2 y3 y4 : Int} {A : Option Addr} {n c : Nat} {x : Tv} (h : Wk S w x) (he : Bk w b tt #[.int .i64 y0, .int .i64 y1, .int .i64 y2, .int .i64 y3, .int .i64 y4, .slice A n c]) (k : Kp (· = b) w w') : Wk S w' x := by
  refine ⟨fun j u hj => ?_, h.nil⟩
  obtain ⟨g, o, hA, hl, hS, hc⟩ := h.sh j u hj
  refine ⟨g, o, hA, Nat.lt_of_lt_of_le hl k.size, hS, (k.cell (p := ⟨g, o + j, none⟩) hl ?_).trans hc⟩
  rintro rfl
  have hj3 : j / 3 < x.t.ws.length := by
    have := (List.getElem?_eq_some_iff.mp hj).1
    rw [wrs_length] at this
    omega
  obtain ⟨p0, p1, p2⟩ := wrs_at x.t.ws (j / 3) hj3
  have q : ∀ i v, (wrs x.t.ws)[i]? = some v → w.cell? ⟨g, o + i, none⟩ = some v := by
    intro i v hv
    obtain ⟨g', o', hA', _, _, hc'⟩ := h.sh i v hv
    rw [hA] at hA'
    injection hA' with hA'
    injection hA' with e1 e2
    subst e1 e2
    exact hc'
  have r0 := (he.cell _).symm.trans (q _ _ p0)
  generalize o + j / 3 * 3 = m at r0
  match m with
  | 0 => cases r0
  | 1 => cases r0
  | 2 => cases r0
  | 3 => cases r0
  | 4 => cases r0
  | 5 => cases r0
  | m + 6 => simp at r0

set_option maxRecDepth 100000 in
set_option maxHeartbeats 4000000 in
theorem rpeek_any {S : Nat → Prop} (b : Nat) (h : Hk) (w : World) (H : HAt 49 S w b h) (hS : ∀ k, S k → k < w.heap.size) (hw : ∀ i, i < 3 → ∀ t ∈ h.q i, t.ws.length ≤ 1000000) (hl : ∀ i, i < 3 → (h.q i).length ≤ 1000000) :
    Calls Try.prog 19 #[.pointer (some ⟨b, 0, none⟩)] w (PkPost S h w) := by
  obtain ⟨Af, cf, hq⟩ := H.ques
  have HH := Lib.hid H
  have HQ := Lib.hid hq
  have HW := Lib.hid hw
  have HLn := Lib.hid hl
  have HS := Lib.hid hS
  have hlt := H.lt
  have q3 := (hq 0 (by omega)).1
  have q4 := (hq 1 (by omega)).1
  have q5 := (hq 2 (by omega)).1
  simp only [Nat.reduceAdd, Nat.add_zero] at q3 q4 q5
  have hlt1 : b < w.heap.size + 1 := by omega
  have E0 := Lib.hid (Bk.new w 36 #[.int .i64 0, .int .i64 0, .int .i64 0, .int .i64 0, .int .i64 0, .slice none 0 0])
  have B0 := Lib.hid ((Below.refl w.heap.size w).alloc (Nat.le_refl _) (.cells #[.int .i64 0, .int .i64 0, .int .i64 0, .int .i64 0, .int .i64 0, .slice none 0 0] 36))
  clear H hq hw hS hl
  go_enter Try.func19, Try.ntmps19
  go_wp2_with (fail)
  clear q3 q4 q5 hlt1
  generalize w.alloc (.cells #[.int .i64 0, .int .i64 0, .int .i64 0, .int .i64 0, .int .i64 0, .slice none 0 0] 36) = W0 at *
  go_loopw [4] (fun i wr => ∃ k : Nat, k ≤ 3 ∧ i = .int .i64 k ∧ (∀ j, j < k → h.mayB j = false) ∧ Bk wr w.heap.size 36 #[.int .i64 0, .int .i64 0, .int .i64 0, .int .i64 0, .int .i64 0, .slice none 0 0] ∧ Below w.heap.size w wr) (fun i _ => 3 - (intOf i).toNat)
  case atStart => exact ⟨0, by omega, rfl, fun j h => absurd h (by omega), E0.out, B0.out⟩
  case round =>
    obtain ⟨k, hk, rfl, hno, he, hb⟩ := hrel
    have HN := Lib.hid hno
    have E1 := Lib.hid he
    have B1 := Lib.hid hb
    clear hno he hb
    by_cases hk3 : k < 3
    · have hbl := (HH.out.below B1.out).lt
      have hq3 : wr.cell? ⟨b, 3 + k, none⟩ = some (.slice (Af k) (h.q k).length (cf k)) := (B1.out.cell (p := ⟨b, 3 + k, none⟩) hlt).trans (HQ.out k hk3).1
      have hk4 : (k : Int) < 3 := by omega
      have hts := (HQ.out k hk3).2.below B1.out
      have hnl := HLn.out k hk3
      rcases hqk : h.q k with _ | ⟨t, rest⟩
      · have HM : Hid (∀ j, j < k + 1 → h.mayB j = false) := by
          intro j hj
          by_cases e : j = k
          · subst e; unfold Hk.mayB; rw [hqk]
          · exact HN.out j (by omega)
        rw [hqk] at hq3
        have HQK := Lib.hid hqk
        clear hqk hts
        simp only [List.length_nil] at hq3
        go_wp2_with (fail)
        go_quiet (fail)
        go_wp2_with (fail)
        go_roundw
        case rel => exact ⟨k + 1, by omega, by go_num, HM.out, E1.out, below_dq B1.out _⟩
        case measure => simp [intOf]; omega
      · rw [hqk] at hq3 hts
        obtain ⟨x, g, o, hx, hA, hg, q0, q1, q2, q3, q4, q5, hwk⟩ := ts_head hts
        have a0 : wr.cell? ⟨b, 0, none⟩ = some (.int .i64 (h.a 0)) := (HH.out.below B1.out).ap (i := 0) (by omega)
        have a1 : wr.cell? ⟨b, 1, none⟩ = some (.int .i64 (h.a 1)) := (HH.out.below B1.out).ap (i := 1) (by omega)
        have a2 : wr.cell? ⟨b, 2, none⟩ = some (.int .i64 (h.a 2)) := (HH.out.below B1.out).ap (i := 2) (by omega)
        have HWK := Lib.hid hwk
        have HX := Lib.hid hx
        have HWS := Lib.hid (HW.out k hk3 t (by rw [hqk]; simp))
        have HQK := Lib.hid hqk
        have HCell : Hid (∀ W, Below wr.heap.size wr W → W.cell? ⟨b, 0, none⟩ = some (.int .i64 (h.a 0)) ∧ W.cell? ⟨b, 1, none⟩ = some (.int .i64 (h.a 1)) ∧ W.cell? ⟨b, 2, none⟩ = some (.int .i64 (h.a 2)) ∧ W.cell? ⟨g, o + 2, none⟩ = some (.int .i64 t.d0) ∧ W.cell? ⟨g, o + 3, none⟩ = some (.int .i64 t.d1) ∧ W.cell? ⟨g, o + 4, none⟩ = some (.int .i64 t.d2)) := by
          intro W hW
          exact ⟨(hW.cell (p := ⟨b, 0, none⟩) hbl).trans a0, (hW.cell (p := ⟨b, 1, none⟩) hbl).trans a1, (hW.cell (p := ⟨b, 2, none⟩) hbl).trans a2, (hW.cell (p := ⟨g, o + 2, none⟩) hg).trans q2, (hW.cell (p := ⟨g, o + 3, none⟩) hg).trans q3, (hW.cell (p := ⟨g, o + 4, none⟩) hg).trans q4⟩
        have HMore : Hid (∀ W, Below wr.heap.size wr W → W.cell? ⟨g, o, none⟩ = some (.int .i64 t.o) ∧ W.cell? ⟨g, o + 1, none⟩ = some (.int .i64 t.s) ∧ W.cell? ⟨g, o + 5, none⟩ = some (.slice x.A t.ws.length x.c)) := by
          intro W hW
          exact ⟨(hW.cell (p := ⟨g, o, none⟩) hg).trans q0, (hW.cell (p := ⟨g, o + 1, none⟩) hg).trans q1, (hW.cell (p := ⟨g, o + 5, none⟩) hg).trans q5⟩
        have hpos : decide ((0 : Int) < ((rest.length + 1 : Nat) : Int)) = true := by simp only [decide_eq_true_eq]; omega
        have hpos2 : (0 : Int) < ((rest.length + 1 : Nat) : Int) := by omega
        have hposn : decide (0 < rest.length + 1) = true := by simp
        have hposm : 0 < rest.length + 1 := by omega
        rw [hqk] at hnl
        simp only [List.length_cons] at hq3 hnl
        clear hqk hts hwk hx
        rw [hA] at hq3
        clear hA
        have hdec : h.mayB k = decide (t.d0 ≤ h.a 0 ∧ t.d1 ≤ h.a 1 ∧ t.d2 ≤ h.a 2) := by unfold Hk.mayB; rw [HQK.out]
        have HSl : Hid (∀ W, Below wr.heap.size wr W → W.cell? ⟨b, 3 + k, none⟩ = some (.slice (some ⟨g, o, none⟩) (rest.length + 1) (cf k))) := fun W hW => (hW.cell (p := ⟨b, 3 + k, none⟩) hbl).trans hq3
        generalize rest.length + 1 = n at *
        by_cases hcov : t.d0 ≤ h.a 0 ∧ t.d1 ≤ h.a 1 ∧ t.d2 ≤ h.a 2
        · have HPk := Lib.hid (peek_at hk3 HN.out (hdec.trans (by simpa using hcov)))
          obtain ⟨v0, v1, v2⟩ := hcov
          have V0 := Lib.hid v0
          have V1 := Lib.hid v1
          have V2 := Lib.hid v2
          clear v0 v1 v2 hdec
          go_wp2_with (fail)
          go_region_held3 (fun W => W.cell? ⟨b, 3 + k, none⟩ = some (.slice (some ⟨g, o, none⟩) n (cf k)) ∧ W.cell? ⟨b, 0, none⟩ = some (.int .i64 (h.a 0)) ∧ W.cell? ⟨b, 1, none⟩ = some (.int .i64 (h.a 1)) ∧ W.cell? ⟨b, 2, none⟩ = some (.int .i64 (h.a 2)) ∧ W.cell? ⟨g, o + 2, none⟩ = some (.int .i64 t.d0) ∧ W.cell? ⟨g, o + 3, none⟩ = some (.int .i64 t.d1) ∧ W.cell? ⟨g, o + 4, none⟩ = some (.int .i64 t.d2)) (first | exact ⟨hq3, a0, a1, a2, q2, q3, q4⟩)
            (first
              | (go_at_call 34; refine (rcovers_yes _ _ _ _ _ _ V0.out V1.out V2.out _).mono ?_; rintro e w7 ⟨rfl, hb7⟩; have B7 := Lib.hid (below_un hb7); have hq3 := HSl.out _ B7.out; obtain ⟨a0, a1, a2, q2, q3, q4⟩ := HCell.out _ B7.out; obtain ⟨q0, q1, q5⟩ := HMore.out _ B7.out))
          have E7 := Lib.hid (E1.out.below B7.out E1.out.lt)
          have B8 := Lib.hid (B1.out.trans (B7.out.mono B1.out.size))
          have HW7 : Hid (Wk S w7 ⟨t, x.A, x.c⟩) := by have := HWK.out.below B7.out; rw [← HX.out]; exact this
          obtain ⟨⟨e0, e1, e2, e3, e4, e5⟩, g0, g1, g2, g3, g4, g5⟩ := bk6 E7.out
          go_wp2_with (fail)
          have hG := set6_bk E7.out (.int .i64 t.o) (.int .i64 t.s) (.int .i64 t.d0) (.int .i64 t.d1) (.int .i64 t.d2) (.slice x.A t.ws.length x.c)
          have hK : Kp (· = w.heap.size) w7 (set6 w7 w.heap.size (.int .i64 t.o) (.int .i64 t.s) (.int .i64 t.d0) (.int .i64 t.d1) (.int .i64 t.d2) (.slice x.A t.ws.length x.c)) := set6_kp (S := (· = w.heap.size)) (Kp.refl _ w7) (.inl rfl) _ _ _ _ _ _
          obtain ⟨⟨z0, z1, z2, z3, z4, z5⟩, _⟩ := bk6 hG
          unfold set6 at z0 z1 z2 z3 z4 z5
          refine bodyPost_ret (v := .tuple #[.agg #[.int .i64 t.o, .int .i64 t.s, .int .i64 t.d0, .int .i64 t.d1, .int .i64 t.d2, .slice x.A t.ws.length x.c], .bool true]) (by simp [results, Try.results19, go_sem, z0, z1, z2, z3, z4, z5]) rfl ?_
          exact ⟨B8.out.trans (hK.below (fun k hk e => by omega) B8.out.size), .inr ⟨k, t, rest, x.A, x.c, hk3, HPk.out, HQK.out, rfl, rpk_wk HW7.out E7.out hK⟩⟩
        · have HM : Hid (∀ j, j < k + 1 → h.mayB j = false) := by
            intro j hj
            by_cases e : j = k
            · subst e; rw [hdec]; simpa using hcov
            · exact HN.out j (by omega)
          have HC := Lib.hid hcov
          clear hcov hdec
          go_wp2_with (fail)
          go_region_held3 (fun W => W.cell? ⟨b, 3 + k, none⟩ = some (.slice (some ⟨g, o, none⟩) n (cf k)) ∧ W.cell? ⟨b, 0, none⟩ = some (.int .i64 (h.a 0)) ∧ W.cell? ⟨b, 1, none⟩ = some (.int .i64 (h.a 1)) ∧ W.cell? ⟨b, 2, none⟩ = some (.int .i64 (h.a 2)) ∧ W.cell? ⟨g, o + 2, none⟩ = some (.int .i64 t.d0) ∧ W.cell? ⟨g, o + 3, none⟩ = some (.int .i64 t.d1) ∧ W.cell? ⟨g, o + 4, none⟩ = some (.int .i64 t.d2)) (first | exact ⟨hq3, a0, a1, a2, q2, q3, q4⟩)
            (first
              | (go_at_call 34; refine (rcovers_no _ _ _ _ _ _ HC.out _).mono ?_; rintro e w7 ⟨rfl, hb7⟩; have B7 := Lib.hid (below_un hb7); have hq3 := HSl.out _ B7.out; obtain ⟨a0, a1, a2, q2, q3, q4⟩ := HCell.out _ B7.out; obtain ⟨q0, q1, q5⟩ := HMore.out _ B7.out))
          all_goals go_wp2_with (fail)
          all_goals go_roundw
          all_goals first
            | exact ⟨k + 1, by omega, by go_num, HM.out, E1.out.below B7.out E1.out.lt, B1.out.trans (B7.out.mono B1.out.size)⟩
            | (simp [intOf]; omega)
    · obtain rfl : k = 3 := by omega
      have HPn := Lib.hid (peek_none HN.out)
      obtain ⟨⟨e0, e1, e2, e3, e4, e5⟩, g0, g1, g2, g3, g4, g5⟩ := bk6 E1.out
      go_wp2_with (fail)
      have hG := set6_bk E1.out (.int .i64 0) (.int .i64 0) (.int .i64 0) (.int .i64 0) (.int .i64 0) (.slice none 0 0)
      have hB := set6_below B1.out (Nat.le_refl _) (.int .i64 0) (.int .i64 0) (.int .i64 0) (.int .i64 0) (.int .i64 0) (.slice none 0 0)
      obtain ⟨⟨z0, z1, z2, z3, z4, z5⟩, _⟩ := bk6 hG
      unfold set6 at z0 z1 z2 z3 z4 z5
      refine bodyPost_ret (v := .tuple #[.agg #[.int .i64 0, .int .i64 0, .int .i64 0, .int .i64 0, .int .i64 0, .slice none 0 0], .bool false]) (by simp [results, Try.results19, go_sem, z0, z1, z2, z3, z4, z5]) rfl ?_
      exact ⟨hB, .inl ⟨HPn.out, rfl⟩⟩
end Go.Proofs.Ytiomdclelbjmmaa
