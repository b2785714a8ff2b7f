/-
  HoldDoes: for every input true; what was there stays.
-/
import Derived.Test.YtiomdclelbjmmaaHoldUni
import Derived.Deep.DeepCutAuto
import Derived.Deep.CutBlock
import Derived.Deep.RegionHeld3
set_option linter.unusedVariables false
set_option linter.unusedSimpArgs false
namespace Go.Proofs.Ytiomdclelbjmmaa
open Go.RowKit

theorem ActsAt.start {w W : World} {b r : Nat} {A : Option Addr} {l : List Act} (h : ActsAt (fun _ => False) w A l) (hb : Below w.heap.size w W) (lb : w.heap.size ≤ b) (lr : w.heap.size ≤ r) : ActsAt (Sb b r) W A l :=
  h.ext (Kp.of_below hb) (fun i hi e => by omega) (fun i hi => .inr (by rcases hi with rfl | rfl <;> omega))

theorem Run.ws {h h' : Hk} {l : List Tx} (r : Run h l h') (H : h.ok) : ∀ t ∈ l, t.ws.length ≤ 1000000 := by
  induction r with
  | nil => intro t ht; cases ht
  | snoc hr hi hp hq ih =>
    intro t ht
    rcases List.mem_append.mp ht with ht | ht
    · exact ih t ht
    · have ht := List.mem_singleton.mp ht
      subst ht
      exact (hr.ok H).ws _ hi _ (by rw [hq]; simp)

/-- Between two statements: both holds alike. -/
def MidH (w : World) (b r : Nat) (A : Option Addr) (l : List Act) (W : World) : Prop := ∃ h : Hk, h.ok ∧ Two w b r A l h h W

set_option maxRecDepth 100000 in
set_option maxHeartbeats 4000000 in
theorem does_law (c0 c1 c2 org : Int) (A : Option Addr) (c : Nat) (l : List Act) (w : World) (h : ActsAt (fun _ => False) w A l) (hl : l.length ≤ 9223372036854775807) :
    Calls Try.prog 3 #[.agg #[.int .i64 c0, .int .i64 c1, .int .i64 c2], .slice A l.length c, .int .i64 org] w fun e w' => e = .returned (.bool true) ∧ Below w.heap.size w w' := by
  have HA := Lib.hid h
  clear h
  have B0 := Lib.hid ((Below.refl w.heap.size w).alloc (Nat.le_refl _) (.cells #[.int .i64 c0, .int .i64 c1, .int .i64 c2] 23))
  have K0 := Lib.hid (Bk.new w 23 #[.int .i64 c0, .int .i64 c1, .int .i64 c2])
  go_enter Try.func3, Try.ntmps3
  go_wp2_with (fail)
  refine (awake_true _).mono ?_
  rintro e w1 ⟨rfl, hb1⟩
  have B1 := Lib.hid (B0.out.trans (hb1.mono B0.out.size))
  have K1 := Lib.hid (K0.out.below hb1 K0.out.lt)
  clear hb1 B0 K0
  go_wp2_with (fail)
  refine (large_any (S := fun _ => False) A c l _ (HA.out.below B1.out) hl).mono ?_
  rintro e w3 ⟨rl, rfl, hb2, hr⟩
  have B3 := Lib.hid (B1.out.trans (hb2.mono B1.out.size))
  have K3 := Lib.hid (K1.out.below hb2 K1.out.lt)
  clear hb2 B1 K1
  cases rl with
  | true =>
    go_wp2_with (fail)
    go_ret
    exact ⟨rfl, B3.out⟩
  | false =>
  have HF := Lib.hid (hr rfl)
  clear hr
  have p0 : w3.cell? ⟨w.heap.size, 0, none⟩ = some (.int .i64 c0) := K3.out.cell 0
  have p1 : w3.cell? ⟨w.heap.size, 1, none⟩ = some (.int .i64 c1) := K3.out.cell 1
  have p2 : w3.cell? ⟨w.heap.size, 2, none⟩ = some (.int .i64 c2) := K3.out.cell 2
  go_wp2_with (fail)
  clear p0 p1 p2
  by_cases hro : okn c0 ∧ okn c1 ∧ okn c2
  rotate_left
  · have HRO := Lib.hid hro
    clear hro
    refine (new_out c0 c1 c2 HRO.out _).mono ?_
    rintro e w4 ⟨rfl, hb4⟩
    have B4 := Lib.hid (B3.out.trans (hb4.mono B3.out.size))
    have K4 := Lib.hid (K3.out.below hb4 K3.out.lt)
    clear hb4 B3 K3
    have p0 : w4.cell? ⟨w.heap.size, 0, none⟩ = some (.int .i64 c0) := K4.out.cell 0
    have p1 : w4.cell? ⟨w.heap.size, 1, none⟩ = some (.int .i64 c1) := K4.out.cell 1
    have p2 : w4.cell? ⟨w.heap.size, 2, none⟩ = some (.int .i64 c2) := K4.out.cell 2
    go_wp2_with (fail)
    refine (rnew_out c0 c1 c2 HRO.out _).mono ?_
    rintro e w5 ⟨rfl, hb5⟩
    have B5 := Lib.hid (B4.out.trans (hb5.mono B4.out.size))
    clear hb5
    go_wp2_with (fail)
    go_ret
    exact ⟨rfl, B5.out⟩
  have HRO := Lib.hid hro
  clear hro
  refine (new_in c0 c1 c2 HRO.out.1 HRO.out.2.1 HRO.out.2.2 _).mono ?_
  rintro e w4 ⟨b, hgb, rfl, hk4, hb4⟩
  have B4 := Lib.hid (B3.out.trans (hb4.mono B3.out.size))
  have K4 := Lib.hid (K3.out.below hb4 K3.out.lt)
  have X4 := Lib.hid hk4
  have LB : w.heap.size ≤ b := Nat.le_trans B3.out.size hgb
  clear hb4 hk4 hgb B3 K3
  have p0 : w4.cell? ⟨w.heap.size, 0, none⟩ = some (.int .i64 c0) := K4.out.cell 0
  have p1 : w4.cell? ⟨w.heap.size, 1, none⟩ = some (.int .i64 c1) := K4.out.cell 1
  have p2 : w4.cell? ⟨w.heap.size, 2, none⟩ = some (.int .i64 c2) := K4.out.cell 2
  go_wp2_with (fail)
  refine (rnew_in c0 c1 c2 HRO.out.1 HRO.out.2.1 HRO.out.2.2 _).mono ?_
  rintro e w5 ⟨r, hgr, rfl, hk5, hb5⟩
  have B5 := Lib.hid (B4.out.trans (hb5.mono B4.out.size))
  have X5 := Lib.hid (X4.out.below hb5 X4.out.lt)
  have LBR : b < r := by have := X4.out.lt; omega
  have T5 : Hid (Two w b r A l (Hk.new c0 c1 c2) (Hk.new c0 c1 c2) w5) :=
    ⟨hat_new X5.out (.inl rfl), hat_new hk5 (.inr rfl), HA.out.start B5.out LB (by omega), B5.out, LB, by omega, by omega⟩
  have O5 : Hid (Hk.new c0 c1 c2).ok := Hk.ok.fresh _ _ _ HRO.out.1 HRO.out.2.1 HRO.out.2.2
  clear hb5 hk5 hgr p0 p1 p2 B4 K4 X4 X5 B5
  generalize Hk.new c0 c1 c2 = hk0 at *
  go_wp2_with (fail)
  go_loopw [49] (fun i wr => ∃ (k : Nat) (hk : Hk), k ≤ l.length ∧ i = .int .i64 k ∧ hk.ok ∧ Two w b r A l hk hk wr) (fun i _ => l.length - (intOf i).toNat)
  case atStart => exact ⟨0, _, Nat.zero_le _, rfl, O5.out, T5.out⟩
  case round =>
    obtain ⟨k, hk, hkl, rfl, hok, ht⟩ := hrel
    have O6 := Lib.hid hok
    have T6 := Lib.hid ht
    clear hok ht O5 T5
    by_cases hlt : k < l.length
    · obtain ⟨g, o, e, _, _, q0, q1, q2, q3, q4, q5, q6⟩ := T6.out.acts.at_ k hlt
      subst e
      have HW := Lib.hid (T6.out.acts.wk _ (List.getElem_mem hlt))
      have HN := Lib.hid (HF.out.2 k hlt)
      have TA := Lib.hid (T6.out.quiet ((Below.refl wr.heap.size wr).alloc (Nat.le_refl _) (.cells (actc l[k]) 38)))
      have WA := Lib.hid (HW.out.below ((Below.refl wr.heap.size wr).alloc (Nat.le_refl _) (.cells (actc l[k]) 38)))
      have DA := Lib.hid (Bk.new wr 38 (actc l[k]))
      have LX := T6.out.x.lt
      have LY := T6.out.y.lt
      have LW := T6.out.l.size
      generalize l[k] = a at *
      clear T6 HW
      have M0 : Hid (TwA w b r (some ⟨g, o, none⟩) l wr.heap.size a hk hk (wr.alloc (.cells #[.int .i64 a.d, .int .i64 a.x.t.o, .int .i64 a.x.t.s, .int .i64 a.x.t.d0, .int .i64 a.x.t.d1, .int .i64 a.x.t.d2, .slice a.x.A a.x.t.ws.length a.x.c] 38))) := ⟨TA.out, DA.out, WA.out, by omega, by omega⟩
      clear TA WA DA
      go_upto_block 2 with (fail)
      clear q0 q1 q2 q3 q4 q5 q6
      generalize wr.heap.size = cc at *
      generalize wr.alloc (.cells #[.int .i64 a.d, .int .i64 a.x.t.o, .int .i64 a.x.t.s, .int .i64 a.x.t.d0, .int .i64 a.x.t.d1, .int .i64 a.x.t.d2, .slice a.x.A a.x.t.ws.length a.x.c] 38) = W0 at *
      go_cut [13, 14, 15, 16, 54] (fun v13 v14 v15 v16 v54 wx => MidH w b r (some ⟨g, o, none⟩) l wx)
      case first =>
        by_cases d0 : a.d = 0
        · obtain ⟨p1, p2, p3, p4, p5, p6⟩ := M0.out.cells
          have OP := Lib.hid (O6.out.put a.x.t)
          have MQ := M0
          have HN2 : Hid (a.x.t.ws.length ≤ 1000000) := Nat.le_trans HN.out (by decide)
          clear M0
          go_wp2_with (fail)
          go_region_held3 (fun W => W.cell? ⟨cc, 1, none⟩ = some (.int .i64 a.x.t.o) ∧ W.cell? ⟨cc, 2, none⟩ = some (.int .i64 a.x.t.s) ∧ W.cell? ⟨cc, 3, none⟩ = some (.int .i64 a.x.t.d0) ∧ W.cell? ⟨cc, 4, none⟩ = some (.int .i64 a.x.t.d1) ∧ W.cell? ⟨cc, 5, none⟩ = some (.int .i64 a.x.t.d2) ∧ W.cell? ⟨cc, 6, none⟩ = some (.slice a.x.A a.x.t.ws.length a.x.c)) (first | exact ⟨p1, p2, p3, p4, p5, p6⟩)
            (first
              | (go_at_call 10; refine (put_any b hk a.x _ (by first | exact MQ.out.t.x | exact MQ.out.drew.t.x | exact MQ.out.drew.drew.t.x) (by first | exact MQ.out.t.lt | exact MQ.out.drew.t.lt | exact MQ.out.drew.drew.t.lt) O6.out (by first | exact MQ.out.wk | exact MQ.out.drew.wk | exact MQ.out.drew.drew.wk) HN2.out).mono ?_; rintro e w7 ⟨k7, rfl, hh7⟩; have MQ := Lib.hid ((by first | exact MQ.out | exact MQ.out.drew | exact MQ.out.drew.drew : TwA w b r (some ⟨g, o, none⟩) l cc a hk hk _).stepX k7 hh7); obtain ⟨p1, p2, p3, p4, p5, p6⟩ := MQ.out.cells; clear k7 hh7)
              | (go_at_call 11; refine (rput_any r hk a.x _ (by first | exact MQ.out.t.y | exact MQ.out.drew.t.y | exact MQ.out.drew.drew.t.y) (by first | exact MQ.out.t.lt | exact MQ.out.drew.t.lt | exact MQ.out.drew.drew.t.lt) O6.out (by first | exact MQ.out.wk | exact MQ.out.drew.wk | exact MQ.out.drew.drew.wk) HN2.out).mono ?_; rintro e w7 ⟨k7, rfl, hh7⟩; have MQ := Lib.hid ((by first | exact MQ.out | exact MQ.out.drew | exact MQ.out.drew.drew : TwA w b r (some ⟨g, o, none⟩) l cc a (hk.put a.x.t).1 hk _).stepY k7 hh7); obtain ⟨p1, p2, p3, p4, p5, p6⟩ := MQ.out.cells; clear k7 hh7))
          all_goals go_wp2_with (fail)
          all_goals go_meet
          all_goals first
            | exact ⟨_, OP.out, MQ.out.t⟩
            | exact ⟨_, OP.out, MQ.out.drew.t⟩
        by_cases d1 : a.d = 1
        · go_wp2_with (fail)
          refine (take_any b hk _ M0.out.t.x M0.out.t.lt O6.out).mono ?_
          rintro e w7 h7
          obtain ⟨k7, x, ex, rfl, wx, hh7⟩ := tk_one h7
          have M7 := Lib.hid (M0.out.t.stepX k7 hh7)
          have B7 := Lib.hid ((Below.refl w7.heap.size w7).alloc (Nat.le_refl _) (.cells #[.int .i64 x.t.o, .int .i64 x.t.s, .int .i64 x.t.d0, .int .i64 x.t.d1, .int .i64 x.t.d2, .slice x.A x.t.ws.length x.c] 36))
          have M8 := Lib.hid (M7.out.quiet B7.out)
          have X8 := Lib.hid (wx.below B7.out)
          have P8 := Lib.hid (Bk.new w7 36 (txc x))
          have EX := Lib.hid ex
          have LR7 := M7.out.y.lt
          clear h7 k7 ex wx hh7 M7 B7 M0
          go_wp2_with (fail)
          refine (rtake_any r hk _ M8.out.y M8.out.lt O6.out).mono ?_
          rintro e w9 h9
          obtain ⟨k9, y, ey, rfl, wy, hh9⟩ := tk_one h9
          have EY := Lib.hid ey
          have B9 := Lib.hid ((Below.refl w9.heap.size w9).alloc (Nat.le_refl _) (.cells #[.int .i64 y.t.o, .int .i64 y.t.s, .int .i64 y.t.d0, .int .i64 y.t.d1, .int .i64 y.t.d2, .slice y.A y.t.ws.length y.c] 36))
          have Q9 : Hid (TwB w b r (some ⟨g, o, none⟩) l w7.heap.size w9.heap.size x y hk.tkH (w9.alloc (.cells #[.int .i64 y.t.o, .int .i64 y.t.s, .int .i64 y.t.d0, .int .i64 y.t.d1, .int .i64 y.t.d2, .slice y.A y.t.ws.length y.c] 36))) :=
            ⟨(M8.out.stepY k9 hh9).quiet B9.out, (P8.out.kp k9 (by omega)).alloc _, Bk.new w9 _ _, (X8.out.kp k9 (fun _ e => .inr e)).below B9.out, wy.below B9.out⟩
          obtain ⟨p0, p1, p2, p3, p4, p5, q0, q1, q2, q3, q4, q5, r0, r1, r2⟩ := Q9.out.cells
          clear h9 k9 ey wy hh9 B9 M8 X8 P8
          have OK2 := Lib.hid O6.out.tkH
          have LT := Lib.hid O6.out.tkT
          go_wp2_with (fail)
          refine (same_any x y _ Q9.out.kx.sh.rd Q9.out.ky.sh.rd (by rw [EX.out]; exact LT.out) (by rw [EY.out]; exact LT.out)).mono ?_
          rintro e w10 ⟨r10, rfl, hr10, hb10⟩
          obtain rfl : r10 = true := hr10 (EX.out.trans EY.out.symm)
          have Q10 := Lib.hid (Q9.out.quiet hb10)
          clear hr10 hb10 Q9 p0 p1 p2 p3 p4 p5 q0 q1 q2 q3 q4 q5 r0 r1 r2
          go_wp2_with (fail)
          go_meet
          exact ⟨_, OK2.out, Q10.out.t⟩
        by_cases d2 : a.d = 2
        · go_wp2_with (fail)
          refine (all_any b hk _ M0.out.t.x M0.out.t.lt O6.out).mono ?_
          rintro e w7 ⟨k7, L1, h1, A1, c1', r1, n1, rfl, t1, hh7⟩
          have M7 := Lib.hid (M0.out.t.stepX k7 hh7)
          have T7 := Lib.hid t1
          have R1 := Lib.hid r1
          have N1 := Lib.hid n1
          clear k7 hh7 t1 r1 n1 M0
          go_wp2_with (fail)
          refine (rall_any r hk _ M7.out.y M7.out.lt O6.out).mono ?_
          rintro e w8 ⟨k8, L2, h2, A2, c2', r2, n2, rfl, t2, hh8⟩
          obtain ⟨rfl, rfl⟩ := R1.out.det N1.out r2 n2
          have M8 := Lib.hid (M7.out.stepY k8 hh8)
          have T8 := Lib.hid (T7.out.kp k8 (fun _ e => .inr e))
          have T9 := Lib.hid t2
          clear k8 hh8 t2 r2 n2 M7 T7
          go_wp2_with (fail)
          refine (txns_any _ T8.out T9.out (R1.out.ws O6.out) (R1.out.ws O6.out) (by have := R1.out.cnt; have := cnt_le O6.out; omega)).mono ?_
          rintro e w9 ⟨r9, rfl, hr9, hb9⟩
          obtain rfl : r9 = true := hr9 rfl
          have M9 := Lib.hid (M8.out.quiet hb9)
          clear hr9 hb9 M8 T8 T9
          go_wp2_with (fail)
          go_meet
          exact ⟨_, R1.out.ok O6.out, M9.out⟩
        · go_wp2_with (fail)
          go_meet
          exact ⟨_, O6.out, M0.out.t⟩
      case rest =>
        obtain ⟨hk2, ok2, t2⟩ := hcut
        have OK2 := Lib.hid ok2
        have M0' := Lib.hid t2
        clear ok2 t2 M0 O6 HN
        go_wp2_with (fail)
        refine (peek_any b hk2 _ M0'.out.x M0'.out.lt OK2.out.ws OK2.out.len).mono ?_
        rintro e w7 h7
        obtain ⟨hb7, x, ex, rfl, wx⟩ := pk_one h7
        have M7 := Lib.hid (M0'.out.quiet hb7)
        have B7 := Lib.hid ((Below.refl w7.heap.size w7).alloc (Nat.le_refl _) (.cells #[.int .i64 x.t.o, .int .i64 x.t.s, .int .i64 x.t.d0, .int .i64 x.t.d1, .int .i64 x.t.d2, .slice x.A x.t.ws.length x.c] 36))
        have M8 := Lib.hid (M7.out.quiet B7.out)
        have X8 := Lib.hid (wx.below B7.out)
        have P8 := Lib.hid (Bk.new w7 36 (txc x))
        have EX := Lib.hid ex
        clear h7 hb7 ex wx M7 B7 M0'
        go_wp2_with (fail)
        refine (rpeek_any r hk2 _ M8.out.y M8.out.lt OK2.out.ws OK2.out.len).mono ?_
        rintro e w9 h9
        obtain ⟨hb9, y, ey, rfl, wy⟩ := pk_one h9
        have B9 := Lib.hid ((Below.refl w9.heap.size w9).alloc (Nat.le_refl _) (.cells #[.int .i64 y.t.o, .int .i64 y.t.s, .int .i64 y.t.d0, .int .i64 y.t.d1, .int .i64 y.t.d2, .slice y.A y.t.ws.length y.c] 36))
        have Q9 : Hid (TwB w b r (some ⟨g, o, none⟩) l w7.heap.size w9.heap.size x y hk2 (w9.alloc (.cells #[.int .i64 y.t.o, .int .i64 y.t.s, .int .i64 y.t.d0, .int .i64 y.t.d1, .int .i64 y.t.d2, .slice y.A y.t.ws.length y.c] 36))) :=
          ⟨(M8.out.quiet hb9).quiet B9.out, (P8.out.below hb9 P8.out.lt).alloc _, Bk.new w9 _ _, (X8.out.below hb9).below B9.out, wy.below B9.out⟩
        have EXY : Hid (x.t = y.t) := EX.out.trans ey.symm
        have LXX : Hid (x.t.ws.length ≤ 1000000) := by rw [EX.out]; exact OK2.out.tkT
        have LYY : Hid (y.t.ws.length ≤ 1000000) := by rw [ey]; exact OK2.out.tkT
        clear h9 hb9 ey wy B9 M8 X8 P8 EX
        go_wp2_with (fail)
        generalize w7.heap.size = k1 at *
        generalize w9.heap.size = k2 at *
        generalize w9.alloc (.cells #[.int .i64 y.t.o, .int .i64 y.t.s, .int .i64 y.t.d0, .int .i64 y.t.d1, .int .i64 y.t.d2, .slice y.A y.t.ws.length y.c] 36) = W1 at *
        have MQ := Q9
        clear Q9
        obtain ⟨p0, p1, p2, p3, p4, p5, q0, q1, q2, q3, q4, q5, r0, r1, r2⟩ := MQ.out.cells
        have hnc := run_neq_clock
        go_region_held3 (fun W => W.cell? ⟨k1, 0, none⟩ = some (.int .i64 x.t.o) ∧ W.cell? ⟨k1, 1, none⟩ = some (.int .i64 x.t.s) ∧ W.cell? ⟨k1, 2, none⟩ = some (.int .i64 x.t.d0) ∧ W.cell? ⟨k1, 3, none⟩ = some (.int .i64 x.t.d1) ∧ W.cell? ⟨k1, 4, none⟩ = some (.int .i64 x.t.d2) ∧ W.cell? ⟨k1, 5, none⟩ = some (.slice x.A x.t.ws.length x.c) ∧ W.cell? ⟨k2, 0, none⟩ = some (.int .i64 y.t.o) ∧ W.cell? ⟨k2, 1, none⟩ = some (.int .i64 y.t.s) ∧ W.cell? ⟨k2, 2, none⟩ = some (.int .i64 y.t.d0) ∧ W.cell? ⟨k2, 3, none⟩ = some (.int .i64 y.t.d1) ∧ W.cell? ⟨k2, 4, none⟩ = some (.int .i64 y.t.d2) ∧ W.cell? ⟨k2, 5, none⟩ = some (.slice y.A y.t.ws.length y.c) ∧ W.cell? ⟨r, 0, none⟩ = some (.int .i64 (hk2.a 0)) ∧ W.cell? ⟨r, 1, none⟩ = some (.int .i64 (hk2.a 1)) ∧ W.cell? ⟨r, 2, none⟩ = some (.int .i64 (hk2.a 2))) (first | exact ⟨p0, p1, p2, p3, p4, p5, q0, q1, q2, q3, q4, q5, r0, r1, r2⟩)
            (first
              | (go_at_call 14; refine (same_any x y _ (by first | exact MQ.out.kx.sh.rd | exact MQ.out.drew.kx.sh.rd | exact MQ.out.drew.drew.kx.sh.rd) (by first | exact MQ.out.ky.sh.rd | exact MQ.out.drew.ky.sh.rd | exact MQ.out.drew.drew.ky.sh.rd) LXX.out LYY.out).mono ?_; rintro e w14 ⟨r14, rfl, hr14, hb⟩; obtain rfl : r14 = true := hr14 EXY.out; have MQ := Lib.hid ((by first | exact MQ.out | exact MQ.out.drew | exact MQ.out.drew.drew : TwB w b r (some ⟨g, o, none⟩) l k1 k2 x y hk2 _).quiet hb); obtain ⟨p0, p1, p2, p3, p4, p5, q0, q1, q2, q3, q4, q5, r0, r1, r2⟩ := MQ.out.cells; clear hb hr14)
              | (go_at_call 20; refine (applied_any b hk2 _ (by first | exact MQ.out.t.x | exact MQ.out.drew.t.x | exact MQ.out.drew.drew.t.x)).mono ?_; rintro e w14 ⟨rfl, hb⟩; have MQ := Lib.hid ((by first | exact MQ.out | exact MQ.out.drew | exact MQ.out.drew.drew : TwB w b r (some ⟨g, o, none⟩) l k1 k2 x y hk2 _).quiet hb); obtain ⟨p0, p1, p2, p3, p4, p5, q0, q1, q2, q3, q4, q5, r0, r1, r2⟩ := MQ.out.cells; clear hb)
              | (go_at_call 21; refine (nextU org (by first | exact MQ.out.t.x | exact MQ.out.drew.t.x | exact MQ.out.drew.drew.t.x) OK2.out).mono ?_; rintro e w14 ⟨rfl, hb⟩; have MQ := Lib.hid ((by first | exact MQ.out | exact MQ.out.drew | exact MQ.out.drew.drew : TwB w b r (some ⟨g, o, none⟩) l k1 k2 x y hk2 _).quiet hb); obtain ⟨p0, p1, p2, p3, p4, p5, q0, q1, q2, q3, q4, q5, r0, r1, r2⟩ := MQ.out.cells; clear hb)
              | (go_at_call 22; refine (rnextU org (by first | exact MQ.out.t.y | exact MQ.out.drew.t.y | exact MQ.out.drew.drew.t.y) OK2.out).mono ?_; rintro e w14 ⟨rfl, hb⟩; have MQ := Lib.hid ((by first | exact MQ.out | exact MQ.out.drew | exact MQ.out.drew.drew : TwB w b r (some ⟨g, o, none⟩) l k1 k2 x y hk2 _).quiet hb); obtain ⟨p0, p1, p2, p3, p4, p5, q0, q1, q2, q3, q4, q5, r0, r1, r2⟩ := MQ.out.cells; clear hb)
              | (go_at_call 23; refine (waitingU org (by first | exact MQ.out.t.x | exact MQ.out.drew.t.x | exact MQ.out.drew.drew.t.x)).mono ?_; rintro e w14 ⟨rfl, hb⟩; have MQ := Lib.hid ((by first | exact MQ.out | exact MQ.out.drew | exact MQ.out.drew.drew : TwB w b r (some ⟨g, o, none⟩) l k1 k2 x y hk2 _).quiet hb); obtain ⟨p0, p1, p2, p3, p4, p5, q0, q1, q2, q3, q4, q5, r0, r1, r2⟩ := MQ.out.cells; clear hb)
              | (go_at_call 24; refine (rwaitingU org (by first | exact MQ.out.t.y | exact MQ.out.drew.t.y | exact MQ.out.drew.drew.t.y)).mono ?_; rintro e w14 ⟨rfl, hb⟩; have MQ := Lib.hid ((by first | exact MQ.out | exact MQ.out.drew | exact MQ.out.drew.drew : TwB w b r (some ⟨g, o, none⟩) l k1 k2 x y hk2 _).quiet hb); obtain ⟨p0, p1, p2, p3, p4, p5, q0, q1, q2, q3, q4, q5, r0, r1, r2⟩ := MQ.out.cells; clear hb))

        all_goals go_wp2_with (fail)
        all_goals go_roundw
        all_goals first
          | exact ⟨k + 1, hk2, by omega, by go_num, OK2.out, MQ.out.t⟩
          | exact ⟨k + 1, hk2, by omega, by go_num, OK2.out, MQ.out.drew.t⟩
          | (simp [intOf]; omega)
    · go_wp2_with (fail)
      go_ret
      exact ⟨rfl, T6.out.l⟩
end Go.Proofs.Ytiomdclelbjmmaa
