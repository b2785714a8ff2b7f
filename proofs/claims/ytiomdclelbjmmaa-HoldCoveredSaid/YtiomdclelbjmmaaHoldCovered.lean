/-
  HoldCovered: for every input true; what was there stays.
-/
import Derived.Test.YtiomdclelbjmmaaHoldDoes
import Derived.Test.YtiomdclelbjmmaaHoldCov
import Derived.IntWalk
set_option linter.unusedVariables false
set_option linter.unusedSimpArgs false
namespace Go.Proofs.Ytiomdclelbjmmaa
open Go.RowKit

set_option maxRecDepth 100000 in
set_option maxHeartbeats 4000000 in
theorem covered_law (c0 c1 c2 : Int) (A : Option Addr) (c : Nat) (l : List Act) (w : World) (h : ActsAt (fun _ => False) w A l) (hl : l.length ≤ 9223372036854775807) :
    Calls Try.prog 4 #[.agg #[.int .i64 c0, .int .i64 c1, .int .i64 c2], .slice A l.length c] w fun e w' => e = .returned (.bool true) ∧ Below w.heap.size w w' := by
  have HA := Lib.hid h
  clear h
  have B0 := Lib.hid ((Below.refl w.heap.size w).alloc (Nat.le_refl _) (.cells #[.int .i64 c0, .int .i64 c1, .int .i64 c2] 23))
  have K0 := Lib.hid (Bk.new w 23 #[.int .i64 c0, .int .i64 c1, .int .i64 c2])
  go_enter Try.func4, Try.ntmps4
  go_wp2_with (fail)
  refine (awake_true _).mono ?_
  rintro e w1 ⟨rfl, hb1⟩
  have B1 := Lib.hid (B0.out.trans (hb1.mono B0.out.size))
  have K1 := Lib.hid (K0.out.below hb1 K0.out.lt)
  clear hb1 B0 K0
  go_wp2_with (fail)
  refine (large_any (S := fun _ => False) A c l _ (HA.out.below B1.out) hl).mono ?_
  rintro e w3 ⟨rl, rfl, hb2, hr⟩
  have B3 := Lib.hid (B1.out.trans (hb2.mono B1.out.size))
  have K3 := Lib.hid (K1.out.below hb2 K1.out.lt)
  clear hb2 B1 K1
  cases rl with
  | true =>
    go_wp2_with (fail)
    go_ret
    exact ⟨rfl, B3.out⟩
  | false =>
  have HF := Lib.hid (hr rfl)
  clear hr
  have p0 : w3.cell? ⟨w.heap.size, 0, none⟩ = some (.int .i64 c0) := K3.out.cell 0
  have p1 : w3.cell? ⟨w.heap.size, 1, none⟩ = some (.int .i64 c1) := K3.out.cell 1
  have p2 : w3.cell? ⟨w.heap.size, 2, none⟩ = some (.int .i64 c2) := K3.out.cell 2
  go_wp2_with (fail)
  clear p0 p1 p2
  by_cases hro : okn c0 ∧ okn c1 ∧ okn c2
  rotate_left
  · have HRO := Lib.hid hro
    clear hro
    refine (right_no c0 c1 c2 HRO.out _).mono ?_
    rintro e w4 ⟨rfl, hb4⟩
    have B4 := Lib.hid (B3.out.trans (hb4.mono B3.out.size))
    clear hb4 B3 K3
    go_wp2_with (fail)
    go_ret
    exact ⟨rfl, B4.out⟩
  have HRO := Lib.hid hro
  clear hro
  refine (right_yes c0 c1 c2 HRO.out.1 HRO.out.2.1 HRO.out.2.2 _).mono ?_
  rintro e w4 ⟨rfl, hb4⟩
  have B4 := Lib.hid (B3.out.trans (hb4.mono B3.out.size))
  have K4 := Lib.hid (K3.out.below hb4 K3.out.lt)
  clear hb4 B3 K3
  have p0 : w4.cell? ⟨w.heap.size, 0, none⟩ = some (.int .i64 c0) := K4.out.cell 0
  have p1 : w4.cell? ⟨w.heap.size, 1, none⟩ = some (.int .i64 c1) := K4.out.cell 1
  have p2 : w4.cell? ⟨w.heap.size, 2, none⟩ = some (.int .i64 c2) := K4.out.cell 2
  go_wp2_with (fail)
  clear p0 p1 p2
  by_cases hco : c0 ≤ 1099511627776 ∧ c1 ≤ 1099511627776 ∧ c2 ≤ 1099511627776
  rotate_left
  · have HCO := Lib.hid hco
    clear hco
    refine (covers_no _ _ _ c0 c1 c2 HCO.out _).mono ?_
    rintro e w5 ⟨rfl, hb5⟩
    have B5 := Lib.hid (B4.out.trans (hb5.mono B4.out.size))
    clear hb5 B4 K4
    go_wp2_with (fail)
    go_ret
    exact ⟨rfl, B5.out⟩
  have HCO := Lib.hid hco
  clear hco
  refine (covers_yes _ _ _ c0 c1 c2 HCO.out.1 HCO.out.2.1 HCO.out.2.2 _).mono ?_
  rintro e w5 ⟨rfl, hb5⟩
  have B5 := Lib.hid (B4.out.trans (hb5.mono B4.out.size))
  have K5 := Lib.hid (K4.out.below hb5 K4.out.lt)
  clear hb5 B4 K4
  have p0 : w5.cell? ⟨w.heap.size, 0, none⟩ = some (.int .i64 c0) := K5.out.cell 0
  have p1 : w5.cell? ⟨w.heap.size, 1, none⟩ = some (.int .i64 c1) := K5.out.cell 1
  have p2 : w5.cell? ⟨w.heap.size, 2, none⟩ = some (.int .i64 c2) := K5.out.cell 2
  go_wp2_with (fail)
  clear p0 p1 p2
  refine (new_in c0 c1 c2 HRO.out.1 HRO.out.2.1 HRO.out.2.2 _).mono ?_
  rintro e w6 ⟨g, hg, rfl, hk6, hb6⟩
  have B6 := Lib.hid (B5.out.trans (hb6.mono B5.out.size))
  have K6 := Lib.hid (K5.out.below hb6 K5.out.lt)
  have X6 := Lib.hid hk6
  have LG : w.heap.size ≤ g := Nat.le_trans B5.out.size hg
  have p0 : w6.cell? ⟨w.heap.size, 0, none⟩ = some (.int .i64 c0) := K6.out.cell 0
  have p1 : w6.cell? ⟨w.heap.size, 1, none⟩ = some (.int .i64 c1) := K6.out.cell 1
  have p2 : w6.cell? ⟨w.heap.size, 2, none⟩ = some (.int .i64 c2) := K6.out.cell 2
  clear hb6 hk6 hg B5 K5
  have O6 : Hid (Hk.new c0 c1 c2).ok := Hk.ok.fresh _ _ _ HRO.out.1 HRO.out.2.1 HRO.out.2.2
  have C6 : Hid (Cov w g w6.heap.size A l (S3 (.slice (some ⟨w6.heap.size + 1, 0, none⟩) 0 0) g w6.heap.size) (.slice (some ⟨w6.heap.size + 1, 0, none⟩) 0 0) [] (Hk.new c0 c1 c2) (Hk.new c0 c1 c2).a ((w6.alloc (.cells #[.int .i64 c0, .int .i64 c1, .int .i64 c2] 23)).alloc (.cells #[] 36))) := by
    have hq := ((Below.refl w6.heap.size w6).alloc (Nat.le_refl _) (.cells #[.int .i64 c0, .int .i64 c1, .int .i64 c2] 23)).alloc (by simp) (.cells #[] 36)
    have l6 := X6.out.lt
    have b6 := B6.out.size
    have ho := World.ownsRow_lit (e := 36) (size := 6) (base := w.heap.size) (w6.alloc (.cells #[.int .i64 c0, .int .i64 c1, .int .i64 c2] 23)) #[] 0 (by simp; omega) (by simp) rfl
    rw [World.size_alloc] at ho
    have hSi : ∀ i, S3 (.slice (some ⟨w6.heap.size + 1, 0, none⟩) 0 0) g w6.heap.size i → i = g ∨ i = w6.heap.size ∨ i = w6.heap.size + 1 := by
      intro i hi
      rcases hi with rfl | rfl | hi
      · exact .inl rfl
      · exact .inr (.inl rfl)
      · exact .inr (.inr (by simpa [Value.ownBlock] using hi.symm))
    refine ⟨hat_new (X6.out.below hq l6) (.inl rfl), (Bk.new w6 _ _).alloc _, ho, (fun x hx => by cases hx), HA.out.ext (Kp.of_below (B6.out.trans (hq.mono B6.out.size))) (fun i hi e => by omega) (fun i hi => .inr (by rcases hSi i hi with e | e | e <;> omega)), B6.out.trans (hq.mono B6.out.size), LG, b6, by omega, .inr (.inl rfl), fun k hk => .inr (.inr hk), fun i hi => ?_⟩
    simp only [World.size_alloc]
    rcases hSi i hi with e | e | e <;> omega
  have SB : Hid (Sub [] (Hk.new c0 c1 c2)) := ⟨(fun x hx => by cases hx), fun i hi t ht => by cases ht⟩
  clear B6 X6 K6
  generalize Hk.new c0 c1 c2 = hk0 at *
  go_wp2_with (fail)
  clear p0 p1 p2
  generalize w6.heap.size = nb at *
  generalize Value.slice (some ⟨nb + 1, 0, none⟩) 0 0 = v0 at *
  go_loopw [46, 8] (fun i pv wr => ∃ (k : Nat) (P : List Tv) (hk : Hk), k ≤ l.length ∧ i = .int .i64 k ∧ hk.ok ∧ Sub P hk ∧ P.length ≤ k ∧ Cov w g nb A l (S3 pv g nb) pv P hk hk.a wr) (fun i _ _ => l.length - (intOf i).toNat)
  case atStart => exact ⟨0, [], _, Nat.zero_le _, rfl, O6.out, SB.out, Nat.le_refl _, C6.out⟩
  case round =>
    obtain ⟨k, P, hk, hkl, rfl, hok, hsub, hpl, hc⟩ := hrel
    have O7 := Lib.hid hok
    have SB7 := Lib.hid hsub
    have PL7 := Lib.hid hpl
    have C7 := Lib.hid hc
    clear hok hsub hpl hc O6 SB C6
    by_cases hlt : k < l.length
    · obtain ⟨ga, oa, e, -, -, q0, q1, q2, q3, q4, q5, q6⟩ := C7.out.acts.at_ k hlt
      subst e
      have HW := Lib.hid (C7.out.acts.wk _ (List.getElem_mem hlt))
      have HN := Lib.hid (HF.out.2 k hlt)
      have HL := Lib.hid HF.out.1
      generalize l[k] = a at *
      have QB := Lib.hid (((Below.refl wr.heap.size wr).alloc (Nat.le_refl _) (.cells #[.int .i64 a.d, .int .i64 a.x.t.o, .int .i64 a.x.t.s, .int .i64 a.x.t.d0, .int .i64 a.x.t.d1, .int .i64 a.x.t.d2, .slice a.x.A a.x.t.ws.length a.x.c] 38)).alloc (by simp) (.cells #[] 36))
      have DA : Hid (Bk ((wr.alloc (.cells #[.int .i64 a.d, .int .i64 a.x.t.o, .int .i64 a.x.t.s, .int .i64 a.x.t.d0, .int .i64 a.x.t.d1, .int .i64 a.x.t.d2, .slice a.x.A a.x.t.ws.length a.x.c] 38)).alloc (.cells #[] 36)) wr.heap.size 38 (actc a)) := (Bk.new wr _ _).alloc _
      have EB : Hid (((wr.alloc (.cells #[.int .i64 a.d, .int .i64 a.x.t.o, .int .i64 a.x.t.s, .int .i64 a.x.t.d0, .int .i64 a.x.t.d1, .int .i64 a.x.t.d2, .slice a.x.A a.x.t.ws.length a.x.c] 38)).alloc (.cells #[] 36)).ownsRow (wr.heap.size + 1) 36 6 (.slice (some ⟨wr.heap.size + 1, 0, none⟩) 0 0) 0 []) := by
        have := World.ownsRow_lit (e := 36) (size := 6) (base := wr.heap.size + 1) (wr.alloc (.cells #[.int .i64 a.d, .int .i64 a.x.t.o, .int .i64 a.x.t.s, .int .i64 a.x.t.d0, .int .i64 a.x.t.d1, .int .i64 a.x.t.d2, .slice a.x.A a.x.t.ws.length a.x.c] 38)) #[] 0 (by simp) (by simp) rfl
        rw [World.size_alloc] at this
        exact this
      have C8 := Lib.hid (C7.out.quiet QB.out)
      have LGC : g < wr.heap.size := C7.out.x.lt
      have LNC : nb < wr.heap.size := C7.out.now.lt
      have LVC : Hid (∀ b, u8.ownBlock = some b → b < wr.heap.size) := fun b hb => (own_ge C7.out.own b hb).2
      have LWC := C7.out.l.size
      have C8' : Hid (Cov w g nb (some ⟨ga, oa, none⟩) l (fun i => S3 u8 g nb i ∨ i = wr.heap.size + 1) u8 P hk hk.a ((wr.alloc (.cells #[.int .i64 a.d, .int .i64 a.x.t.o, .int .i64 a.x.t.s, .int .i64 a.x.t.d0, .int .i64 a.x.t.d1, .int .i64 a.x.t.d2, .slice a.x.A a.x.t.ws.length a.x.c] 38)).alloc (.cells #[] 36))) :=
        C7.out.ext (Kp.of_below QB.out) (fun i hi (e : wr.heap.size ≤ i) => absurd hi (by omega)) (fun e : wr.heap.size ≤ g => by omega) (fun e : wr.heap.size ≤ nb => by omega) (fun b hb (e : wr.heap.size ≤ b) => by have := LVC.out b hb; omega)
          (fun i hi => hi.elim (fun h => .inl h) (fun h => .inr (by omega))) (.inl (.inl rfl)) (.inl (.inr (.inl rfl))) (fun k hk => .inl (.inr (.inr hk))) (fun i hi => by simp only [World.size_alloc]; rcases hi with hi | hi; have := C7.out.lt i hi; omega; omega)
      have W8 := Lib.hid (HW.out.below QB.out)
      have LT8 : Hid (∀ i, S3 u8 g nb i → i < wr.heap.size + 1) := fun i hi => Nat.lt_succ_of_lt (C7.out.lt i hi)
      have HN2 : Hid (a.x.t.ws.length ≤ 1000000) := Nat.le_trans HN.out (by decide)
      clear C7 HW QB HN
      go_upto_block 2 with (fail)
      clear q0 q1 q2 q3 q4 q5 q6
      generalize wr.heap.size = cc at *
      generalize (wr.alloc (.cells #[.int .i64 a.d, .int .i64 a.x.t.o, .int .i64 a.x.t.s, .int .i64 a.x.t.d0, .int .i64 a.x.t.d1, .int .i64 a.x.t.d2, .slice a.x.A a.x.t.ws.length a.x.c] 38)).alloc (.cells #[] 36) = W0 at *
      obtain ⟨i0, hi0, hz0, hz1, hz2⟩ := info_parts Try.infoTx
      go_cut [8, 11, 12, 13, 52] (fun v8 v11 v12 v13 v52 wx => MidC w g nb (some ⟨ga, oa, none⟩) l k v8 v11 wx)
      case first =>
        by_cases d0 : a.d = 0
        · have p1 : W0.cell? ⟨cc, 1, none⟩ = some (.int .i64 a.x.t.o) := DA.out.cell 1
          have p2 : W0.cell? ⟨cc, 2, none⟩ = some (.int .i64 a.x.t.s) := DA.out.cell 2
          have p3 : W0.cell? ⟨cc, 3, none⟩ = some (.int .i64 a.x.t.d0) := DA.out.cell 3
          have p4 : W0.cell? ⟨cc, 4, none⟩ = some (.int .i64 a.x.t.d1) := DA.out.cell 4
          have p5 : W0.cell? ⟨cc, 5, none⟩ = some (.int .i64 a.x.t.d2) := DA.out.cell 5
          have p6 : W0.cell? ⟨cc, 6, none⟩ = some (.slice a.x.A a.x.t.ws.length a.x.c) := DA.out.cell 6
          go_wp2_with (fail)
          clear p1 p2 p3 p4 p5 p6
          refine (put_any g hk a.x W0 C8.out.x C8.out.lt O7.out W8.out HN2.out).mono ?_
          rintro e w7 ⟨k7, rfl, hh7⟩
          have C9 := Lib.hid (C8.out.stepH k7 hh7)
          have D9 := Lib.hid (DA.out.kp k7 (by omega))
          have W9 := Lib.hid (W8.out.kp k7 (fun i e => .inl e))
          have O9 := Lib.hid (O7.out.put a.x.t)
          clear k7 hh7 C8 C8' DA W8
          by_cases he : (hk.put a.x.t).2 = 0
          · have SBP := Lib.hid (SB7.out.put a.x HN2.out he)
            obtain ⟨A2, c2', e2⟩ := own_shape C9.out.own
            subst e2
            have p1 : w7.cell? ⟨cc, 1, none⟩ = some (.int .i64 a.x.t.o) := D9.out.cell 1
            have p2 : w7.cell? ⟨cc, 2, none⟩ = some (.int .i64 a.x.t.s) := D9.out.cell 2
            have p3 : w7.cell? ⟨cc, 3, none⟩ = some (.int .i64 a.x.t.d0) := D9.out.cell 3
            have p4 : w7.cell? ⟨cc, 4, none⟩ = some (.int .i64 a.x.t.d1) := D9.out.cell 4
            have p5 : w7.cell? ⟨cc, 5, none⟩ = some (.int .i64 a.x.t.d2) := D9.out.cell 5
            have p6 : w7.cell? ⟨cc, 6, none⟩ = some (.slice a.x.A a.x.t.ws.length a.x.c) := D9.out.cell 6
            have QB := Lib.hid ((Below.refl w7.heap.size w7).alloc (Nat.le_refl _) (.cells #[.int .i64 a.x.t.o, .int .i64 a.x.t.s, .int .i64 a.x.t.d0, .int .i64 a.x.t.d1, .int .i64 a.x.t.d2, .slice a.x.A a.x.t.ws.length a.x.c] 36))
            have hown : Hid ((w7.alloc (.cells #[.int .i64 a.x.t.o, .int .i64 a.x.t.s, .int .i64 a.x.t.d0, .int .i64 a.x.t.d1, .int .i64 a.x.t.d2, .slice a.x.A a.x.t.ws.length a.x.c] 36)).ownsRow w.heap.size 36 6 (.slice A2 P.length c2') P.length (txs P)) := own_new C9.out.own QB.out
            have hcy : Hid (Rd (w7.alloc (.cells #[.int .i64 a.x.t.o, .int .i64 a.x.t.s, .int .i64 a.x.t.d0, .int .i64 a.x.t.d1, .int .i64 a.x.t.d2, .slice a.x.A a.x.t.ws.length a.x.c] 36)) (some ⟨w7.heap.size, 0, none⟩) a.x.cells) := bk_rd (Bk.new w7 36 (txc a.x))
            have C10 := Lib.hid (C9.out.quiet QB.out)
            have W10 := Lib.hid (W9.out.below QB.out)
            have hl1 := PL7.out
            have hl2 := HL.out
            have hl3 := C9.out.l.size
            have HE := Lib.hid he
            have PA := Lib.hid (put_a hk a.x.t)
            clear C9 W9 D9 QB
            go_wp2_with (at_builtin; refine wpList_app2 rfl (.tmp 60) (.tmp 63) 44 rfl w.heap.size 36 i0 _ 6 64 Try.underlying44 hi0 hz0 hz1 hz2 rfl (by decide) (.slice A2 P.length c2') P.length (txs P) rfl hown.out (some ⟨w7.heap.size, 0, none⟩) 1 1 a.x.cells rfl (fun e => by cases e) rfl hcy.out (by intro u hu; simp [Tv.cells] at hu; rcases hu with rfl | rfl | rfl | rfl | rfl | rfl <;> rfl) (by simp only [maxLen]; omega) (by omega) (by simp; omega) ?_; intro A3 c3 w8 ho2 hg2 hv2; have C11 := Lib.hid (C10.out.stepP W10.out hg2 ho2 hv2); clear ho2 hg2 hv2)
            go_meet
            exact ⟨P ++ [a.x], _, _, [], _, 0, rfl, ts_empty _, Run.nil _, O9.out, SBP.out, by rw [List.length_append]; simp; omega, by rw [PA.out]; exact C11.out⟩
          · have e7 := put_same he
            have C10 : Hid (Cov w g nb (some ⟨ga, oa, none⟩) l (S3 u8 g nb) u8 P hk hk.a w7) := by have := C9.out; rw [e7] at this; exact this
            have hl1 := PL7.out
            have tf : ((hk.put a.x.t).2 == 0) = false := by simpa using he
            clear C9 e7 he
            go_wp2_with (fail)
            go_meet
            exact ⟨P, hk, hk, [], _, 0, rfl, ts_empty _, Run.nil _, O7.out, SB7.out, by omega, C10.out⟩
        by_cases d1 : a.d = 1
        · go_wp2_with (fail)
          refine (take_any g hk W0 C8'.out.x C8'.out.lt O7.out).mono ?_
          rintro e w7 ⟨k7, h7⟩
          have hl1 := PL7.out
          rcases h7 with ⟨hp, rfl, hh7⟩ | ⟨i, t, rest, A7, c7, hi, hp, hq, rfl, wk7, hh7⟩
          · have C9 := Lib.hid ((C8'.out.stepH k7 hh7).less.quiet ((Below.refl w7.heap.size w7).alloc (Nat.le_refl _) (.cells #[.int .i64 0, .int .i64 0, .int .i64 0, .int .i64 0, .int .i64 0, .slice none 0 0] 36)))
            clear k7 hh7 C8 C8' DA W8
            go_wp2_with (fail)
            go_meet
            exact ⟨P, hk, hk, [], _, 0, rfl, ts_empty _, Run.nil _, O7.out, SB7.out, by omega, C9.out⟩
          · have QB := Lib.hid (((Below.refl w7.heap.size w7).alloc (Nat.le_refl _) (.cells #[.int .i64 (⟨t, A7, c7⟩ : Tv).t.o, .int .i64 (⟨t, A7, c7⟩ : Tv).t.s, .int .i64 (⟨t, A7, c7⟩ : Tv).t.d0, .int .i64 (⟨t, A7, c7⟩ : Tv).t.d1, .int .i64 (⟨t, A7, c7⟩ : Tv).t.d2, .slice (⟨t, A7, c7⟩ : Tv).A (⟨t, A7, c7⟩ : Tv).t.ws.length (⟨t, A7, c7⟩ : Tv).c] 36)).alloc (by simp) (.cells #[.int .i64 (⟨t, A7, c7⟩ : Tv).t.o, .int .i64 (⟨t, A7, c7⟩ : Tv).t.s, .int .i64 (⟨t, A7, c7⟩ : Tv).t.d0, .int .i64 (⟨t, A7, c7⟩ : Tv).t.d1, .int .i64 (⟨t, A7, c7⟩ : Tv).t.d2, .slice (⟨t, A7, c7⟩ : Tv).A (⟨t, A7, c7⟩ : Tv).t.ws.length (⟨t, A7, c7⟩ : Tv).c] 36))
            have C9 := Lib.hid ((C8'.out.stepH k7 hh7).quiet QB.out)
            have W9 := Lib.hid (wk7.below QB.out)
            have RN : Hid (Run hk [t] (hk.took i rest t.s)) := Run.snoc (l := []) (Run.nil hk) hi hp hq
            have hown : Hid (((w7.alloc (.cells #[.int .i64 (⟨t, A7, c7⟩ : Tv).t.o, .int .i64 (⟨t, A7, c7⟩ : Tv).t.s, .int .i64 (⟨t, A7, c7⟩ : Tv).t.d0, .int .i64 (⟨t, A7, c7⟩ : Tv).t.d1, .int .i64 (⟨t, A7, c7⟩ : Tv).t.d2, .slice (⟨t, A7, c7⟩ : Tv).A (⟨t, A7, c7⟩ : Tv).t.ws.length (⟨t, A7, c7⟩ : Tv).c] 36)).alloc (.cells #[.int .i64 (⟨t, A7, c7⟩ : Tv).t.o, .int .i64 (⟨t, A7, c7⟩ : Tv).t.s, .int .i64 (⟨t, A7, c7⟩ : Tv).t.d0, .int .i64 (⟨t, A7, c7⟩ : Tv).t.d1, .int .i64 (⟨t, A7, c7⟩ : Tv).t.d2, .slice (⟨t, A7, c7⟩ : Tv).A (⟨t, A7, c7⟩ : Tv).t.ws.length (⟨t, A7, c7⟩ : Tv).c] 36)).ownsRow (cc + 1) 36 6 (.slice (some ⟨cc + 1, 0, none⟩) 0 0) 0 []) := own_new (own_kp EB.out k7 (by intro b hb e; simp [Value.ownBlock] at hb; omega)) QB.out
            have hcy : Hid (Rd ((w7.alloc (.cells #[.int .i64 (⟨t, A7, c7⟩ : Tv).t.o, .int .i64 (⟨t, A7, c7⟩ : Tv).t.s, .int .i64 (⟨t, A7, c7⟩ : Tv).t.d0, .int .i64 (⟨t, A7, c7⟩ : Tv).t.d1, .int .i64 (⟨t, A7, c7⟩ : Tv).t.d2, .slice (⟨t, A7, c7⟩ : Tv).A (⟨t, A7, c7⟩ : Tv).t.ws.length (⟨t, A7, c7⟩ : Tv).c] 36)).alloc (.cells #[.int .i64 (⟨t, A7, c7⟩ : Tv).t.o, .int .i64 (⟨t, A7, c7⟩ : Tv).t.s, .int .i64 (⟨t, A7, c7⟩ : Tv).t.d0, .int .i64 (⟨t, A7, c7⟩ : Tv).t.d1, .int .i64 (⟨t, A7, c7⟩ : Tv).t.d2, .slice (⟨t, A7, c7⟩ : Tv).A (⟨t, A7, c7⟩ : Tv).t.ws.length (⟨t, A7, c7⟩ : Tv).c] 36)) (some ⟨w7.heap.size + 1, 0, none⟩) (Tv.cells ⟨t, A7, c7⟩)) := by
              have := bk_rd (Bk.new (w7.alloc (.cells #[.int .i64 (⟨t, A7, c7⟩ : Tv).t.o, .int .i64 (⟨t, A7, c7⟩ : Tv).t.s, .int .i64 (⟨t, A7, c7⟩ : Tv).t.d0, .int .i64 (⟨t, A7, c7⟩ : Tv).t.d1, .int .i64 (⟨t, A7, c7⟩ : Tv).t.d2, .slice (⟨t, A7, c7⟩ : Tv).A (⟨t, A7, c7⟩ : Tv).t.ws.length (⟨t, A7, c7⟩ : Tv).c] 36)) 36 (txc ⟨t, A7, c7⟩))
              rw [World.size_alloc] at this
              exact this
            have lc : cc + 1 < w7.heap.size := by
              have := own_kp EB.out k7 (by intro b hb e; simp [Value.ownBlock] at hb; omega)
              exact (own_ge this (cc + 1) rfl).2
            clear k7 hh7 C8 C8' DA W8 wk7 QB hi hp hq EB
            go_wp2_with (at_builtin; refine wpList_app2 rfl (.tmp 73) (.tmp 75) 44 rfl (cc + 1) 36 i0 _ 6 64 Try.underlying44 hi0 hz0 hz1 hz2 rfl (by decide) (.slice (some ⟨cc + 1, 0, none⟩) 0 0) 0 [] rfl hown.out (some ⟨w7.heap.size + 1, 0, none⟩) 1 1 (Tv.cells ⟨t, A7, c7⟩) rfl (fun e => by cases e) rfl hcy.out (by intro u hu; simp [Tv.cells] at hu; rcases hu with rfl | rfl | rfl | rfl | rfl | rfl <;> rfl) (by simp only [maxLen]; omega) (by omega) (by simp; omega) ?_; intro A3 c3 w8 ho2 hg2 hv2; have G2 := Lib.hid hg2; have G3 := Lib.hid ho2; clear ho2 hg2 hv2)
            have kg : Kp (fun k => k = cc + 1) ((w7.alloc (.cells #[.int .i64 (⟨t, A7, c7⟩ : Tv).t.o, .int .i64 (⟨t, A7, c7⟩ : Tv).t.s, .int .i64 (⟨t, A7, c7⟩ : Tv).t.d0, .int .i64 (⟨t, A7, c7⟩ : Tv).t.d1, .int .i64 (⟨t, A7, c7⟩ : Tv).t.d2, .slice (⟨t, A7, c7⟩ : Tv).A (⟨t, A7, c7⟩ : Tv).t.ws.length (⟨t, A7, c7⟩ : Tv).c] 36)).alloc (.cells #[.int .i64 (⟨t, A7, c7⟩ : Tv).t.o, .int .i64 (⟨t, A7, c7⟩ : Tv).t.s, .int .i64 (⟨t, A7, c7⟩ : Tv).t.d0, .int .i64 (⟨t, A7, c7⟩ : Tv).t.d1, .int .i64 (⟨t, A7, c7⟩ : Tv).t.d2, .slice (⟨t, A7, c7⟩ : Tv).A (⟨t, A7, c7⟩ : Tv).t.ws.length (⟨t, A7, c7⟩ : Tv).c] 36)) w8 := (Kp.of_grown G2.out).mono (fun i _ e => by simpa [Value.ownBlock] using e)
            have C11 : Cov w g nb (some ⟨ga, oa, none⟩) l (S3 u8 g nb) u8 P (hk.took i rest t.s) hk.a w8 :=
              C9.out.ext kg (fun i hi e => ⟨.inr e, by omega⟩) (fun e => by omega) (fun e => by omega) (fun b hb e => by have := LVC.out b hb; omega) (fun i hi => .inl (.inl hi)) (.inl rfl) (.inr (.inl rfl)) (fun k hk => .inr (.inr hk)) (fun i hi => Nat.lt_of_lt_of_le (C9.out.lt i (.inl hi)) kg.size)
            have W11 : Wk (S3 u8 g nb) w8 ⟨t, A7, c7⟩ := W9.out.ext kg (fun i hi e => .inr e) (fun i hi => .inl (.inl hi))
            have T11 := ts_of_own (L := [⟨t, A7, c7⟩]) G3.out LT8.out (fun x hx => by have hx := List.mem_singleton.mp hx; subst hx; exact W11)
            go_meet
            exact ⟨P, hk, hk.took i rest t.s, [t], A3, c3, rfl, T11, RN.out, O7.out, SB7.out, by omega, C11⟩
        by_cases d2 : a.d = 2
        · go_wp2_with (fail)
          refine (all_any g hk W0 C8.out.x C8.out.lt O7.out).mono ?_
          rintro e w7 ⟨k7, L1, h1, A1, c1', r1, n1, rfl, t1, hh7⟩
          have C9 := Lib.hid (C8.out.stepH k7 hh7)
          have T9 := Lib.hid t1
          have R1 := Lib.hid r1
          have hl1 := PL7.out
          clear k7 hh7 t1 r1 n1 C8 C8' DA W8
          go_wp2_with (fail)
          go_meet
          exact ⟨P, hk, h1, L1, A1, c1', rfl, T9.out, R1.out, O7.out, SB7.out, by omega, C9.out⟩
        · have hl1 := PL7.out
          go_wp2_with (fail)
          go_meet
          exact ⟨P, hk, hk, [], _, 0, rfl, ts_empty _, Run.nil _, O7.out, SB7.out, by omega, C8.out⟩
      case rest =>
        obtain ⟨P2, hA, hB, L, A1, c1', rfl, ts, hr, okA, subA, pl2, cv⟩ := hcut
        obtain ⟨A2, c2', e2⟩ := own_shape cv.own
        subst e2
        have HR := Lib.hid hr
        have OA := Lib.hid okA
        have SA := Lib.hid subA
        have PL2 := Lib.hid pl2
        have CT := Lib.hid (CovT.mk cv ts)
        have LL : L.length ≤ 24 := by have := hr.cnt; have := cnt_le okA; omega
        have pl3 : P2.length ≤ 101 := by have := HL.out; omega
        clear ts hr okA subA pl2 cv C8 C8' DA W8 EB LVC LT8 HN2 PL7 SB7 O7
        go_wp2_with (fail)
        go_loopw [83] (fun i wr => ∃ (j : Nat) (hj : Hk), j ≤ L.length ∧ i = .int .i64 j ∧ Run hA (L.take j) hj ∧ CovT w g nb (some ⟨ga, oa, none⟩) l (.slice A2 P2.length c2') P2 hB hj.a A1 c1' L wr) (fun i _ => L.length - (intOf i).toNat)
        case atStart => exact ⟨0, hA, Nat.zero_le _, rfl, Run.nil _, CT.out⟩
        case round =>
          obtain ⟨j, hj, hjl, rfl, hrj, hct⟩ := hrel
          have HJ := Lib.hid hrj
          have C1 := Lib.hid hct
          clear hrj hct CT
          by_cases hlt : j < L.length
          · obtain ⟨h1, i, rest, r1, hi, hp1, hq1, r2⟩ := HR.out.nth j hlt
            obtain rfl := r1.same HJ.out
            have ps := peek_says (HJ.out.ok OA.out) hi hp1 hq1
            obtain ⟨x, gx, ox, ex, eA, q0, q1, q2, q3, q4, q5, wx⟩ := ts_at C1.out.t hlt
            subst eA
            have MEM := Lib.hid ((HR.out.sub SA.out).1 L[j] (List.getElem_mem hlt))
            rw [← ex] at ps MEM r2
            have R2 := Lib.hid r2
            have WX := Lib.hid wx
            clear r1 r2 hp1 hq1 ex wx HJ
            obtain ⟨⟨xo, xs, d0, d1, d2, ws⟩, xA, xc⟩ := x
            obtain ⟨eo, es, pd0, pd1, pd2, pn, pm, pw⟩ := ps
            dsimp only at eo es pd0 pd1 pd2 pn pm pw q0 q1 q2 q3 q4 q5
            subst eo es
            have PW := Lib.hid pw
            have C1' : Hid (CovT w g nb (some ⟨ga, oa, none⟩) l (.slice A2 P2.length c2') P2 hB h1.a (some ⟨gx, ox, none⟩) c1' L wr) := C1.out
            clear C1 pw
            have R2' : Hid (∃ h2 : Hk, Run hA (L.take (j + 1)) h2 ∧ h2.a = upd h1.a i (h1.a i + 1)) := ⟨_, R2.out, rfl⟩
            clear R2
            generalize h1.a = n at *
            have CBx : Hid (CovB w g nb (some ⟨ga, oa, none⟩) l (.slice A2 P2.length c2') P2 hB n (some ⟨gx, ox, none⟩) c1' L wr.heap.size (⟨⟨i, n i + 1, d0, d1, d2, ws⟩, xA, xc⟩ : Tv) (wr.alloc (.cells #[.int .i64 i, .int .i64 (n i + 1), .int .i64 d0, .int .i64 d1, .int .i64 d2, .slice xA ws.length xc] 36))) :=
              ⟨C1'.out.quiet ((Below.refl wr.heap.size wr).alloc (Nat.le_refl _) _), Bk.new wr _ _, WX.out.below ((Below.refl wr.heap.size wr).alloc (Nat.le_refl _) _)⟩
            have hi0' : (0 : Int) ≤ (i : Int) := by omega
            have hi3' : (i : Int) < 3 := by omega
            have hi3'' : ¬ (3 : Int) ≤ (i : Int) := by omega
            clear C1' WX
            go_upto_region 27 with (fail)
            clear q0 q1 q2 q3 q4 q5
            generalize wr.heap.size = cb at *
            generalize wr.alloc (.cells #[.int .i64 i, .int .i64 (n i + 1), .int .i64 d0, .int .i64 d1, .int .i64 d2, .slice xA ws.length xc] 36) = W1 at *
            obtain ⟨p0, p1, p2, p3, p4, p5, n0, n1, n2, ni⟩ := CBx.out.cells hi
            have MQ := CBx
            clear CBx
            have wn : IntKind.i64.wrap (n i + 1) = n i + 1 := IntWalk.i64_in _ ⟨by omega, by omega⟩
            go_region_held3 (fun W => W.cell? ⟨cb, 0, none⟩ = some (.int .i64 i) ∧ W.cell? ⟨cb, 1, none⟩ = some (.int .i64 (n i + 1)) ∧ W.cell? ⟨cb, 2, none⟩ = some (.int .i64 d0) ∧ W.cell? ⟨cb, 3, none⟩ = some (.int .i64 d1) ∧ W.cell? ⟨cb, 4, none⟩ = some (.int .i64 d2) ∧ W.cell? ⟨cb, 5, none⟩ = some (.slice xA ws.length xc) ∧ W.cell? ⟨nb, 0, none⟩ = some (.int .i64 (n 0)) ∧ W.cell? ⟨nb, 1, none⟩ = some (.int .i64 (n 1)) ∧ W.cell? ⟨nb, 2, none⟩ = some (.int .i64 (n 2)) ∧ W.cell? ⟨nb, i, none⟩ = some (.int .i64 (n i))) (first | exact ⟨p0, p1, p2, p3, p4, p5, n0, n1, n2, ni⟩)
              ((go_at_call 26; refine (covers_yes _ _ _ _ _ _ pd0 pd1 pd2 _).mono ?_; rintro e w14 ⟨rfl, hb⟩; have MQ := Lib.hid ((by first | exact MQ.out | exact MQ.out.drew | exact MQ.out.drew.drew : CovB w g nb (some ⟨ga, oa, none⟩) l (.slice A2 P2.length c2') P2 hB n (some ⟨gx, ox, none⟩) c1' L cb (⟨⟨i, n i + 1, d0, d1, d2, ws⟩, xA, xc⟩ : Tv) _).quiet hb); obtain ⟨p0, p1, p2, p3, p4, p5, n0, n1, n2, ni⟩ := MQ.out.cells hi; clear hb))
            clear p0 p1 p2 p3 p4 p5 n0 n1 n2 ni wn
            go_wp2_with (fail)
            have MQ2 : Hid (CovB w g nb (some ⟨ga, oa, none⟩) l (.slice A2 P2.length c2') P2 hB n (some ⟨gx, ox, none⟩) c1' L cb (⟨⟨i, n i + 1, d0, d1, d2, ws⟩, xA, xc⟩ : Tv) _) := (by first | exact MQ.out | exact MQ.out.drew)
            clear MQ
            go_loopw [114, 16] (fun i' b wr => ∃ (m : Nat) (bb : Bool), m ≤ P2.length ∧ i' = .int .i64 m ∧ b = .bool bb ∧ Seen P2 m ⟨i, n i + 1, d0, d1, d2, ws⟩ bb ∧ CovB w g nb (some ⟨ga, oa, none⟩) l (.slice A2 P2.length c2') P2 hB n (some ⟨gx, ox, none⟩) c1' L cb (⟨⟨i, n i + 1, d0, d1, d2, ws⟩, xA, xc⟩ : Tv) wr) (fun i' _ _ => P2.length - (intOf i').toNat)
            case atStart => exact ⟨0, false, Nat.zero_le _, rfl, rfl, (fun q hq h => absurd h (by omega)), MQ2.out⟩
            case round =>
              obtain ⟨m, bb, hm, rfl, rfl, hs, hcb⟩ := hrel
              have HS := Lib.hid hs
              have B1 := Lib.hid hcb
              clear hs hcb MQ2
              by_cases hlt3 : m < P2.length
              · obtain ⟨b2, o2, e2, lb2, s0, s1, s2, s3, s4, s5⟩ := tx_cells (own_rd B1.out.c.c.own) hlt3
                subst e2
                have KY := Lib.hid (B1.out.c.c.wk _ (List.getElem_mem hlt3))
                have LY := Lib.hid (SA.out.1 _ (List.getElem_mem hlt3))
                have NX := Lib.hid (HS.out.next hlt3)
                generalize P2[m] = y at *
                have QB := Lib.hid ((Below.refl wr.heap.size wr).alloc (Nat.le_refl _) (.cells #[.int .i64 y.t.o, .int .i64 y.t.s, .int .i64 y.t.d0, .int .i64 y.t.d1, .int .i64 y.t.d2, .slice y.A y.t.ws.length y.c] 36))
                have B2 := Lib.hid (B1.out.quiet QB.out)
                have KY2 := Lib.hid (KY.out.below QB.out)
                obtain ⟨p0, p1, p2, p3, p4, p5, n0, n1, n2, ni⟩ := B2.out.cells hi
                clear B1 KY QB
                cases bb with
                | true =>
                  go_wp2_with (fail)
                  go_roundw
                  case rel => exact ⟨m + 1, true, by omega, by go_num, rfl, NX.out true (fun _ => rfl) (fun _ => rfl), B2.out⟩
                  case measure => simp [intOf]; omega
                | false =>
                  go_wp2_with (fail)
                  refine (same_any y (⟨⟨i, n i + 1, d0, d1, d2, ws⟩, xA, xc⟩ : Tv) _ KY2.out.sh.rd B2.out.k.sh.rd LY.out PW.out).mono ?_
                  rintro e w15 ⟨r15, rfl, hr15, hb15⟩
                  have B3 := Lib.hid (B2.out.quiet hb15)
                  have NX2 := Lib.hid (NX.out r15 (fun e => by cases e) hr15)
                  clear hb15 hr15 B2 p0 p1 p2 p3 p4 p5 n0 n1 n2 ni
                  go_wp2_with (fail)
                  go_roundw
                  case rel => exact ⟨m + 1, r15, by omega, by go_num, rfl, NX2.out, B3.out⟩
                  case measure => simp [intOf]; omega
              · obtain rfl := HS.out.all (by omega) MEM.out
                obtain ⟨p0, p1, p2, p3, p4, p5, n0, n1, n2, ni⟩ := B1.out.cells hi
                have fz : wr.frozen? ⟨nb, i, none⟩ = false := B1.out.c.c.now.free i
                have B2 := Lib.hid (B1.out.c.stepN hi (n i + 1))
                clear B1
                go_wp2_with (fail)
                go_roundw
                case rel =>
                  obtain ⟨h2, r2, e2⟩ := R2'.out
                  exact ⟨j + 1, h2, by omega, by go_num, r2, by rw [e2]; exact B2.out⟩
                case measure => simp [intOf]; omega
          · obtain rfl : hj = hB := by
              have e : L.take j = L := List.take_of_length_le (by omega)
              have h := HJ.out
              rw [e] at h
              exact h.same HR.out
            obtain ⟨n0, n1, n2⟩ := C1.out.c.cells
            have MQ : Hid (Cov w g nb (some ⟨ga, oa, none⟩) l (S3 (.slice A2 P2.length c2') g nb) (.slice A2 P2.length c2') P2 hj hj.a wr) := C1.out.c
            have OB := Lib.hid (HR.out.ok OA.out)
            have SB2 := Lib.hid (HR.out.sub SA.out).2
            clear C1 HJ
            have hnc := run_neq_clock
            go_wp2_with (fail)
            go_region_held3 (fun W => W.cell? ⟨nb, 0, none⟩ = some (.int .i64 (hj.a 0)) ∧ W.cell? ⟨nb, 1, none⟩ = some (.int .i64 (hj.a 1)) ∧ W.cell? ⟨nb, 2, none⟩ = some (.int .i64 (hj.a 2))) (first | exact ⟨n0, n1, n2⟩)
              ((go_at_call 20; refine (applied_any g hj _ (by first | exact MQ.out.x | exact MQ.out.drew.x | exact MQ.out.drew.drew.x)).mono ?_; rintro e w14 ⟨rfl, hb⟩; have MQ := Lib.hid ((by first | exact MQ.out | exact MQ.out.drew | exact MQ.out.drew.drew : Cov w g nb (some ⟨ga, oa, none⟩) l (S3 (.slice A2 P2.length c2') g nb) (.slice A2 P2.length c2') P2 hj hj.a _).quiet hb); obtain ⟨n0, n1, n2⟩ := MQ.out.cells; clear hb))
            clear n0 n1 n2 hnc
            go_wp2_with (fail)
            have MQ2 : Hid (Cov w g nb (some ⟨ga, oa, none⟩) l (S3 (.slice A2 P2.length c2') g nb) (.slice A2 P2.length c2') P2 hj hj.a _) := (by first | exact MQ.out | exact MQ.out.drew)
            clear MQ
            go_loopw [138] (fun i' wr => ∃ m : Nat, m ≤ 3 ∧ i' = .int .i64 m ∧ Cov w g nb (some ⟨ga, oa, none⟩) l (S3 (.slice A2 P2.length c2') g nb) (.slice A2 P2.length c2') P2 hj hj.a wr) (fun i' _ => 3 - (intOf i').toNat)
            case atStart => exact ⟨0, by omega, rfl, MQ2.out⟩
            case round =>
              obtain ⟨m, hm, rfl, hcv⟩ := hrel
              have B1 := Lib.hid hcv
              clear hcv MQ2
              by_cases hlt3 : m < 3
              · have h8 : ((hj.q m).length : Int) ≤ 8 := by have := OB.out.n m hlt3; omega
                go_wp2_with (fail)
                refine (waiting_in g m hlt3 hj wr B1.out.x).mono ?_
                rintro e w15 ⟨rfl, rfl⟩
                go_wp2_with (fail)
                go_roundw
                case rel => exact ⟨m + 1, by omega, by go_num, B1.out⟩
                case measure => simp [intOf]; omega
              · have pl := PL2.out
                go_wp2_with (fail)
                go_roundw
                case rel => exact ⟨k + 1, P2, hj, by omega, by go_num, OB.out, SB2.out, by omega, B1.out⟩
                case measure => simp [intOf]; omega
    · go_wp2_with (fail)
      go_ret
      exact ⟨rfl, C7.out.l⟩
end Go.Proofs.Ytiomdclelbjmmaa
