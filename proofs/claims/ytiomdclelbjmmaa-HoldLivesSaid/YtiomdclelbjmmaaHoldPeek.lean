/-
  Applied, Peek of the hold.
-/
import Derived.Test.YtiomdclelbjmmaaHoldBasic
set_option linter.unusedVariables false
set_option linter.unusedSimpArgs false
namespace Go.Proofs.Ytiomdclelbjmmaa
open Go.RowKit

/-- May the first one of origin i be applied? -/
def Hk.may (h : Hk) (i : Nat) : Prop := ∃ t rest, h.q i = t :: rest ∧ t.d0 ≤ h.a 0 ∧ t.d1 ≤ h.a 1 ∧ t.d2 ≤ h.a 2

def Hk.mayB (h : Hk) (i : Nat) : Bool := match h.q i with
  | [] => false
  | t :: _ => decide (t.d0 ≤ h.a 0 ∧ t.d1 ≤ h.a 1 ∧ t.d2 ≤ h.a 2)

/-- Of which origin one may be applied. -/
def Hk.peek (h : Hk) : Option Nat := if h.mayB 0 then some 0 else if h.mayB 1 then some 1 else if h.mayB 2 then some 2 else none

theorem peek_at {h : Hk} {k : Nat} (hk : k < 3) (hb : ∀ j, j < k → h.mayB j = false) (hm : h.mayB k = true) : h.peek = some k := by
  unfold Hk.peek
  have hc : k = 0 ∨ k = 1 ∨ k = 2 := by omega
  rcases hc with rfl | rfl | rfl
  · rw [if_pos hm]
  · rw [hb 0 (by omega), hm]; rfl
  · rw [hb 0 (by omega), hb 1 (by omega), hm]; rfl

theorem peek_none {h : Hk} (hb : ∀ j, j < 3 → h.mayB j = false) : h.peek = none := by
  unfold Hk.peek
  rw [hb 0 (by omega), hb 1 (by omega), hb 2 (by omega)]
  rfl

section
variable {S : Nat → Prop} {w : World}
/-- The first transaction of a slice. -/
theorem ts_head {A : Option Addr} {n c : Nat} {t : Tx} {rest : List Tx} (h : Ts S w (.slice A n c) (t :: rest)) :
    ∃ (x : Tv) (g o : Nat), x.t = t ∧ A = some ⟨g, o, none⟩ ∧ g < w.heap.size ∧ w.cell? ⟨g, o, none⟩ = some (.int .i64 t.o) ∧ w.cell? ⟨g, o + 1, none⟩ = some (.int .i64 t.s) ∧ w.cell? ⟨g, o + 2, none⟩ = some (.int .i64 t.d0) ∧
      w.cell? ⟨g, o + 3, none⟩ = some (.int .i64 t.d1) ∧ w.cell? ⟨g, o + 4, none⟩ = some (.int .i64 t.d2) ∧ w.cell? ⟨g, o + 5, none⟩ = some (.slice x.A t.ws.length x.c) ∧ Wk S w x := by
  obtain ⟨A', c', L, h1, h2, h3, h4, h5, h6⟩ := h.row
  injection h1 with e1 e2 e3
  subst e1
  cases L with
  | nil => cases h4
  | cons x L =>
    simp only [List.map_cons, List.cons.injEq] at h4
    obtain ⟨rfl, _⟩ := h4
    obtain ⟨g, o, rfl, hg, q0, q1, q2, q3, q4, q5⟩ := tx_cells (k := 0) h5.rd (by simp)
    simp only [Nat.zero_mul, Nat.add_zero, List.getElem_cons_zero] at q0 q1 q2 q3 q4 q5
    exact ⟨x, g, o, rfl, rfl, hg, q0, q1, q2, q3, q4, q5, h6 x (by simp)⟩

/-- The slice behind its first transaction. -/
theorem ts_tail {A : Option Addr} {n c : Nat} {t : Tx} {rest : List Tx} {g o : Nat} (h : Ts S w (.slice A n c) (t :: rest)) (hA : A = some ⟨g, o, none⟩) :
    Ts S w (.slice (if c = 1 then some ⟨g, o, none⟩ else some ⟨g, o + 6, none⟩) rest.length (c - 1)) rest := by
  obtain ⟨A', c', L, h1, h2, h3, h4, h5, h6⟩ := h.row
  injection h1 with e1 e2 e3
  subst e1 e3
  cases L with
  | nil => cases h4
  | cons x L =>
    simp only [List.map_cons, List.cons.injEq] at h4
    obtain ⟨_, h4⟩ := h4
    simp only [List.length_cons] at h2
    refine ⟨_, c - 1, L, rfl, by omega, (fun e => by split at e <;> cases e), h4, ?_, fun y hy => h6 y (by simp [hy])⟩
    have hd := h5.drop hA 6
    have e : (txs (x :: L)).drop 6 = txs L := by simp [txs, Tv.cells]
    rw [e] at hd
    split
    · next hc =>
      have : rest = [] := List.eq_nil_of_length_eq_zero (by omega)
      subst this
      have : L = [] := by simpa using h4
      subst this
      intro j u hj
      simp [txs] at hj
    · exact hd

theorem HAt.que {t : TypeId} {b : Nat} {h : Hk} (H : HAt t S w b h) {i : Nat} (hi : i < 3) : ∃ A c, w.cell? ⟨b, 3 + i, none⟩ = some (.slice A (h.q i).length c) ∧ Ts S w (.slice A (h.q i).length c) (h.q i) := by
  obtain ⟨cs, hb, hc⟩ := H.row
  obtain ⟨v, h1, h2⟩ := hc.que i hi
  have h2' := h2
  obtain ⟨A, c, L, rfl, _⟩ := h2.row
  exact ⟨A, c, by rw [hb.cell]; exact h1, h2'⟩

theorem HAt.ques {t : TypeId} {b : Nat} {h : Hk} (H : HAt t S w b h) : ∃ (Af : Nat → Option Addr) (cf : Nat → Nat), ∀ i, i < 3 → w.cell? ⟨b, 3 + i, none⟩ = some (.slice (Af i) (h.q i).length (cf i)) ∧ Ts S w (.slice (Af i) (h.q i).length (cf i)) (h.q i) := by
  obtain ⟨A0, c0, a0, b0⟩ := H.que (i := 0) (by omega)
  obtain ⟨A1, c1, a1, b1⟩ := H.que (i := 1) (by omega)
  obtain ⟨A2, c2, a2, b2⟩ := H.que (i := 2) (by omega)
  refine ⟨fun i => if i = 0 then A0 else if i = 1 then A1 else A2, fun i => if i = 0 then c0 else if i = 1 then c1 else c2, fun i hi => ?_⟩
  have hc : i = 0 ∨ i = 1 ∨ i = 2 := by omega
  rcases hc with rfl | rfl | rfl
  · exact ⟨a0, b0⟩
  · exact ⟨a1, b1⟩
  · exact ⟨a2, b2⟩
end

theorem Try.qx0 (x0 x1 x2 : Value) (w : World) : (Instr.index 47 (.agg #[x0, x1, x2]) (.int .i64 0)).run Try.prog w = .ok x0 w := by kernel_rfl
theorem Try.qx1 (x0 x1 x2 : Value) (w : World) : (Instr.index 47 (.agg #[x0, x1, x2]) (.int .i64 1)).run Try.prog w = .ok x1 w := by kernel_rfl
theorem Try.qx2 (x0 x1 x2 : Value) (w : World) : (Instr.index 47 (.agg #[x0, x1, x2]) (.int .i64 2)).run Try.prog w = .ok x2 w := by kernel_rfl
theorem Try.qxk (f : Nat → Value) (k : Nat) (hk : k < 3) (w : World) : (Instr.index 47 (.agg #[f 0, f 1, f 2]) (.int .i64 k)).run Try.prog w = .ok (f k) w := by
  have hc : k = 0 ∨ k = 1 ∨ k = 2 := by omega
  rcases hc with rfl | rfl | rfl
  · exact Try.qx0 _ _ _ w
  · exact Try.qx1 _ _ _ w
  · exact Try.qx2 _ _ _ w

theorem below_un {B : Nat} {w w' : World} (h : Below B w.drew w') : Below B w w' := ⟨h.os, h.tape, h.output, h.size, h.block⟩

/-- What Peek tells. -/
def PkPost (S : Nat → Prop) (h : Hk) (w : World) (e : Ending) (w' : World) : Prop :=
  Below w.heap.size w w' ∧ ((h.peek = none ∧ e = .returned (.tuple #[.agg #[.int .i64 0, .int .i64 0, .int .i64 0, .int .i64 0, .int .i64 0, .slice none 0 0], .bool false])) ∨
    ∃ i t rest A c, i < 3 ∧ h.peek = some i ∧ h.q i = t :: rest ∧ e = .returned (.tuple #[.agg #[.int .i64 t.o, .int .i64 t.s, .int .i64 t.d0, .int .i64 t.d1, .int .i64 t.d2, .slice A t.ws.length c], .bool true]) ∧ Wk S w' ⟨t, A, c⟩)

theorem pk_fin {S : Nat → Prop} {h : Hk} {w w8 w9 : World} {k c8 : Nat} {t : Tx} {rest : List Tx} {A8 : Option Addr} {cs : Array Value} (hk3 : k < 3) (hp : h.peek = some k) (hq : h.q k = t :: rest) (hb : Below w.heap.size w w8)
    (ho : w8.ownsRow w.heap.size 65 3 (.slice A8 t.ws.length c8) t.ws.length (wrs t.ws)) (he : Bk w8 w.heap.size 36 cs) (hK : Kp (· = w.heap.size) w8 w9) (hS : ∀ k, S k → k < w.heap.size) :
    PkPost S h w (.returned (.tuple #[.agg #[.int .i64 t.o, .int .i64 t.s, .int .i64 t.d0, .int .i64 t.d1, .int .i64 t.d2, .slice A8 t.ws.length c8], .bool true])) w9 := by
  refine ⟨hb.trans (hK.below (fun k hk e => by omega) hb.size), .inr ⟨k, t, rest, A8, c8, hk3, hp, hq, rfl, ?_, ?_⟩⟩
  · exact Sh.own (own_kp ho hK (fun g' hg' e => own_ne_bk ho he (by decide) (by rw [hg', e]))) hS
  · intro e
    rcases own_form ho with ⟨_, h0, _⟩ | ⟨g', cap, hv, _⟩
    · exact h0
    · injection hv with hv
      have e' : A8 = none := e
      rw [e'] at hv
      cases hv

theorem applied_any {S : Nat → Prop} (b : Nat) (h : Hk) (w : World) (H : HAt 61 S w b h) : Calls Try.prog 20 #[.pointer (some ⟨b, 0, none⟩)] w (Says (.agg #[.int .i64 (h.a 0), .int .i64 (h.a 1), .int .i64 (h.a 2)]) w) := by
  have q0 := H.ap (i := 0) (by omega)
  have q1 := H.ap (i := 1) (by omega)
  have q2 := H.ap (i := 2) (by omega)
  have hlt := H.lt
  have E0 := Lib.hid (Bk.new w 23 #[.int .i64 0, .int .i64 0, .int .i64 0])
  have hlt1 : b < w.heap.size + 1 := by omega
  clear H
  go_enter Try.func20, Try.ntmps20
  go_wp2_with (fail)
  have G := ((E0.out.put 0 (.int .i64 (h.a 0))).put 1 (.int .i64 (h.a 1))).put 2 (.int .i64 (h.a 2))
  refine bodyPost_ret (v := .agg #[.int .i64 (h.a 0), .int .i64 (h.a 1), .int .i64 (h.a 2)]) (by simp [results, Try.results20, go_sem]) rfl ⟨rfl, ?_⟩
  exact (Below.refl _ _).alloc (Nat.le_refl _) _

set_option maxRecDepth 100000 in
set_option maxHeartbeats 4000000 in
theorem peek_any {S : Nat → Prop} (b : Nat) (h : Hk) (w : World) (H : HAt 61 S w b h) (hS : ∀ k, S k → k < w.heap.size) (hw : ∀ i, i < 3 → ∀ t ∈ h.q i, t.ws.length ≤ 1000000) (hl : ∀ i, i < 3 → (h.q i).length ≤ 1000000) :
    Calls Try.prog 18 #[.pointer (some ⟨b, 0, none⟩)] w (PkPost S h w) := by
  obtain ⟨Af, cf, hq⟩ := H.ques
  have HH := Lib.hid H
  have HQ := Lib.hid hq
  have HW := Lib.hid hw
  have HLn := Lib.hid hl
  have HS := Lib.hid hS
  have hlt := H.lt
  have q3 := (hq 0 (by omega)).1
  have q4 := (hq 1 (by omega)).1
  have q5 := (hq 2 (by omega)).1
  simp only [Nat.reduceAdd, Nat.add_zero] at q3 q4 q5
  have hlt1 : b < w.heap.size + 1 := by omega
  have E0 := Lib.hid (Bk.new w 36 #[.int .i64 0, .int .i64 0, .int .i64 0, .int .i64 0, .int .i64 0, .slice none 0 0])
  have B0 := Lib.hid ((Below.refl w.heap.size w).alloc (Nat.le_refl _) (.cells #[.int .i64 0, .int .i64 0, .int .i64 0, .int .i64 0, .int .i64 0, .slice none 0 0] 36))
  clear H hq hw hS hl
  go_enter Try.func18, Try.ntmps18
  go_wp2_with (fail)
  clear q3 q4 q5 hlt1
  generalize w.alloc (.cells #[.int .i64 0, .int .i64 0, .int .i64 0, .int .i64 0, .int .i64 0, .slice none 0 0] 36) = W0 at *
  go_loopw [10] (fun i wr => ∃ k : Nat, k ≤ 3 ∧ i = .int .i64 k ∧ (∀ j, j < k → h.mayB j = false) ∧ Bk wr w.heap.size 36 #[.int .i64 0, .int .i64 0, .int .i64 0, .int .i64 0, .int .i64 0, .slice none 0 0] ∧ Below w.heap.size w wr) (fun i _ => 3 - (intOf i).toNat)
  case atStart => exact ⟨0, by omega, rfl, fun j h => absurd h (by omega), E0.out, B0.out⟩
  case round =>
    obtain ⟨k, hk, rfl, hno, he, hb⟩ := hrel
    have HN := Lib.hid hno
    have E1 := Lib.hid he
    have B1 := Lib.hid hb
    clear hno he hb
    by_cases hk3 : k < 3
    · have hix := Try.qxk (fun i => .slice (Af i) (h.q i).length (cf i)) k hk3
      have hts := (HQ.out k hk3).2.below B1.out
      have hnl := HLn.out k hk3
      rcases hqk : h.q k with _ | ⟨t, rest⟩
      · have HM : Hid (∀ j, j < k + 1 → h.mayB j = false) := by
          intro j hj
          by_cases e : j = k
          · subst e; unfold Hk.mayB; rw [hqk]
          · exact HN.out j (by omega)
        rw [hqk] at hix
        have HQK := Lib.hid hqk
        clear hqk hts
        simp only [List.length_nil] at hix
        go_wp2_with (fail)
        go_quiet (fail)
        go_wp2_with (fail)
        go_roundw
        case rel => exact ⟨k + 1, by omega, by go_num, HM.out, E1.out, below_dq B1.out _⟩
        case measure => simp [intOf]; omega
      · rw [hqk] at hix hts
        obtain ⟨x, g, o, hx, hA, hg, q0, q1, q2, q3, q4, q5, hwk⟩ := ts_head hts
        have a0 : wr.cell? ⟨b, 0, none⟩ = some (.int .i64 (h.a 0)) := (HH.out.below B1.out).ap (i := 0) (by omega)
        have a1 : wr.cell? ⟨b, 1, none⟩ = some (.int .i64 (h.a 1)) := (HH.out.below B1.out).ap (i := 1) (by omega)
        have a2 : wr.cell? ⟨b, 2, none⟩ = some (.int .i64 (h.a 2)) := (HH.out.below B1.out).ap (i := 2) (by omega)
        have HWK := Lib.hid hwk
        have HX := Lib.hid hx
        have HWS := Lib.hid (HW.out k hk3 t (by rw [hqk]; simp))
        have HQK := Lib.hid hqk
        have HCell : Hid (∀ W, Below wr.heap.size wr W → W.cell? ⟨b, 0, none⟩ = some (.int .i64 (h.a 0)) ∧ W.cell? ⟨b, 1, none⟩ = some (.int .i64 (h.a 1)) ∧ W.cell? ⟨b, 2, none⟩ = some (.int .i64 (h.a 2)) ∧ W.cell? ⟨g, o + 2, none⟩ = some (.int .i64 t.d0) ∧ W.cell? ⟨g, o + 3, none⟩ = some (.int .i64 t.d1) ∧ W.cell? ⟨g, o + 4, none⟩ = some (.int .i64 t.d2)) := by
          intro W hW
          have hbl := (HH.out.below B1.out).lt
          exact ⟨(hW.cell (p := ⟨b, 0, none⟩) hbl).trans a0, (hW.cell (p := ⟨b, 1, none⟩) hbl).trans a1, (hW.cell (p := ⟨b, 2, none⟩) hbl).trans a2, (hW.cell (p := ⟨g, o + 2, none⟩) hg).trans q2, (hW.cell (p := ⟨g, o + 3, none⟩) hg).trans q3, (hW.cell (p := ⟨g, o + 4, none⟩) hg).trans q4⟩
        have HMore : Hid (∀ W, Below wr.heap.size wr W → W.cell? ⟨g, o, none⟩ = some (.int .i64 t.o) ∧ W.cell? ⟨g, o + 1, none⟩ = some (.int .i64 t.s) ∧ W.cell? ⟨g, o + 5, none⟩ = some (.slice x.A t.ws.length x.c)) := by
          intro W hW
          exact ⟨(hW.cell (p := ⟨g, o, none⟩) hg).trans q0, (hW.cell (p := ⟨g, o + 1, none⟩) hg).trans q1, (hW.cell (p := ⟨g, o + 5, none⟩) hg).trans q5⟩
        have hpos : decide ((0 : Int) < ((rest.length + 1 : Nat) : Int)) = true := by simp only [decide_eq_true_eq]; omega
        have hpos2 : (0 : Int) < ((rest.length + 1 : Nat) : Int) := by omega
        have hposn : decide (0 < rest.length + 1) = true := by simp
        have hposm : 0 < rest.length + 1 := by omega
        rw [hqk] at hnl
        simp only [List.length_cons] at hix hnl
        clear hqk hts hwk hx
        rw [hA] at hix
        clear hA
        have hdec : h.mayB k = decide (t.d0 ≤ h.a 0 ∧ t.d1 ≤ h.a 1 ∧ t.d2 ≤ h.a 2) := by unfold Hk.mayB; rw [HQK.out]
        generalize rest.length + 1 = n at *
        by_cases hcov : t.d0 ≤ h.a 0 ∧ t.d1 ≤ h.a 1 ∧ t.d2 ≤ h.a 2
        · have HPk := Lib.hid (peek_at hk3 HN.out (hdec.trans (by simpa using hcov)))
          obtain ⟨v0, v1, v2⟩ := hcov
          have V0 := Lib.hid v0
          have V1 := Lib.hid v1
          have V2 := Lib.hid v2
          clear v0 v1 v2 hdec
          go_wp2_with (fail)
          go_region_held3 (fun W => W.cell? ⟨b, 0, none⟩ = some (.int .i64 (h.a 0)) ∧ W.cell? ⟨b, 1, none⟩ = some (.int .i64 (h.a 1)) ∧ W.cell? ⟨b, 2, none⟩ = some (.int .i64 (h.a 2)) ∧ W.cell? ⟨g, o + 2, none⟩ = some (.int .i64 t.d0) ∧ W.cell? ⟨g, o + 3, none⟩ = some (.int .i64 t.d1) ∧ W.cell? ⟨g, o + 4, none⟩ = some (.int .i64 t.d2)) (first | exact ⟨a0, a1, a2, q2, q3, q4⟩)
            (first
              | (go_at_call 26; refine (covers_yes _ _ _ _ _ _ V0.out V1.out V2.out _).mono ?_; rintro e w7 ⟨rfl, hb7⟩; have B7 := Lib.hid (below_un hb7); obtain ⟨a0, a1, a2, q2, q3, q4⟩ := HCell.out _ B7.out; obtain ⟨q0, q1, q5⟩ := HMore.out _ B7.out))
          all_goals go_wp2_with (fail)
          have HRx : Hid (Rd w7 x.A (wrs t.ws)) := by have := HWK.out.sh.rd.below B7.out; rwa [HX.out] at this
          have HNx : Hid (x.A = none → t.ws.length = 0) := by have := HWK.out.nil; rwa [HX.out] at this
          have E7 := Lib.hid (E1.out.below B7.out E1.out.lt)
          have B8 := Lib.hid (B1.out.trans (B7.out.mono B1.out.size))
          refine (own_any ⟨t, x.A, x.c⟩ _ HRx.out HNx.out HWS.out).mono ?_
          rintro e w8 ⟨A8, c8, rfl, ho, hb8⟩
          have E8 := Lib.hid (E7.out.below hb8 E7.out.lt)
          have O8 := Lib.hid (own_lower ho B8.out.size)
          have B9 := Lib.hid (B8.out.trans (hb8.mono B8.out.size))
          obtain ⟨⟨e0, e1, e2, e3, e4, e5⟩, g0, g1, g2, g3, g4, g5⟩ := bk6 E8.out
          clear ho hb8 a0 a1 a2 q0 q1 q2 q3 q4 q5
          go_wp2_with (fail)
          have hG := set6_bk E8.out (.int .i64 t.o) (.int .i64 t.s) (.int .i64 t.d0) (.int .i64 t.d1) (.int .i64 t.d2) (.slice A8 t.ws.length c8)
          have hK : Kp (· = w.heap.size) w8 (set6 w8 w.heap.size (.int .i64 t.o) (.int .i64 t.s) (.int .i64 t.d0) (.int .i64 t.d1) (.int .i64 t.d2) (.slice A8 t.ws.length c8)) := set6_kp (S := (· = w.heap.size)) (Kp.refl _ w8) (.inl rfl) _ _ _ _ _ _
          obtain ⟨⟨z0, z1, z2, z3, z4, z5⟩, _⟩ := bk6 hG
          unfold set6 at z0 z1 z2 z3 z4 z5
          refine bodyPost_ret (v := .tuple #[.agg #[.int .i64 t.o, .int .i64 t.s, .int .i64 t.d0, .int .i64 t.d1, .int .i64 t.d2, .slice A8 t.ws.length c8], .bool true]) (by simp [results, Try.results18, go_sem, z0, z1, z2, z3, z4, z5]) rfl ?_
          exact pk_fin hk3 HPk.out HQK.out B9.out O8.out E8.out hK HS.out
        · have HM : Hid (∀ j, j < k + 1 → h.mayB j = false) := by
            intro j hj
            by_cases e : j = k
            · subst e; rw [hdec]; simpa using hcov
            · exact HN.out j (by omega)
          have HC := Lib.hid hcov
          clear hcov hdec
          go_wp2_with (fail)
          go_region_held3 (fun W => W.cell? ⟨b, 0, none⟩ = some (.int .i64 (h.a 0)) ∧ W.cell? ⟨b, 1, none⟩ = some (.int .i64 (h.a 1)) ∧ W.cell? ⟨b, 2, none⟩ = some (.int .i64 (h.a 2)) ∧ W.cell? ⟨g, o + 2, none⟩ = some (.int .i64 t.d0) ∧ W.cell? ⟨g, o + 3, none⟩ = some (.int .i64 t.d1) ∧ W.cell? ⟨g, o + 4, none⟩ = some (.int .i64 t.d2)) (first | exact ⟨a0, a1, a2, q2, q3, q4⟩)
            (first
              | (go_at_call 26; refine (covers_no _ _ _ _ _ _ HC.out _).mono ?_; rintro e w7 ⟨rfl, hb7⟩; have B7 := Lib.hid (below_un hb7); obtain ⟨a0, a1, a2, q2, q3, q4⟩ := HCell.out _ B7.out; obtain ⟨q0, q1, q5⟩ := HMore.out _ B7.out))
          all_goals go_wp2_with (fail)
          all_goals go_roundw
          all_goals first
            | exact ⟨k + 1, by omega, by go_num, HM.out, E1.out.below B7.out E1.out.lt, B1.out.trans (B7.out.mono B1.out.size)⟩
            | (simp [intOf]; omega)
    · obtain rfl : k = 3 := by omega
      have HPn := Lib.hid (peek_none HN.out)
      obtain ⟨⟨e0, e1, e2, e3, e4, e5⟩, g0, g1, g2, g3, g4, g5⟩ := bk6 E1.out
      go_wp2_with (fail)
      have hG := set6_bk E1.out (.int .i64 0) (.int .i64 0) (.int .i64 0) (.int .i64 0) (.int .i64 0) (.slice none 0 0)
      have hB := set6_below B1.out (Nat.le_refl _) (.int .i64 0) (.int .i64 0) (.int .i64 0) (.int .i64 0) (.int .i64 0) (.slice none 0 0)
      obtain ⟨⟨z0, z1, z2, z3, z4, z5⟩, _⟩ := bk6 hG
      unfold set6 at z0 z1 z2 z3 z4 z5
      refine bodyPost_ret (v := .tuple #[.agg #[.int .i64 0, .int .i64 0, .int .i64 0, .int .i64 0, .int .i64 0, .slice none 0 0], .bool false]) (by simp [results, Try.results18, go_sem, z0, z1, z2, z3, z4, z5]) rfl ?_
      exact ⟨hB, .inl ⟨HPn.out, rfl⟩⟩
end Go.Proofs.Ytiomdclelbjmmaa
