/-
  HoldLives: for every input true; what was there stays.
-/
import Derived.Test.YtiomdclelbjmmaaHoldLivesMem
import Derived.Test.YtiomdclelbjmmaaHoldDoes
import Derived.Deep.DeepCutAuto
import Derived.Deep.CutBlock
import Derived.Deep.RegionHeld3
import Derived.IntWalk
set_option linter.unusedVariables false
set_option linter.unusedSimpArgs false
namespace Go.Proofs.Ytiomdclelbjmmaa
open Go.RowKit

set_option maxRecDepth 100000 in
set_option maxHeartbeats 4000000 in
theorem lives_law (A1 A2 : Option Addr) (c1 c2 : Nat) (ml tl : List Nat) (w : World) (h1 : Rd w A1 (bys ml)) (h2 : Rd w A2 (bys tl)) (hn1 : A1 = none → ml.length = 0) (hn2 : A2 = none → tl.length = 0) (hm : ∀ m ∈ ml, m < 256) (ht : ∀ m ∈ tl, m < 256) (hl1 : ml.length ≤ 9223372036854775807) (hl2 : tl.length ≤ 9223372036854775807) :
    Calls Try.prog 5 #[.slice A1 ml.length c1, .slice A2 tl.length c2] w fun e w' => e = .returned (.bool true) ∧ Below w.heap.size w w' := by
  have H1 := Lib.hid h1
  have H2 := Lib.hid h2
  have HN1 := Lib.hid hn1
  have HN2 := Lib.hid hn2
  have HM := Lib.hid hm
  have HT := Lib.hid ht
  clear h1 h2 hn1 hn2 hm ht
  go_enter Try.func5, Try.ntmps5
  go_wp2_with (fail)
  refine (awake_true _).mono ?_
  rintro e w1 ⟨rfl, hb1⟩
  have B1 := Lib.hid hb1
  clear hb1
  by_cases hc1 : 20 < ml.length
  · go_wp2_with (fail)
    go_ret
    exact ⟨rfl, B1.out⟩
  by_cases hc2 : 100 < tl.length
  · go_wp2_with (fail)
    go_ret
    exact ⟨rfl, B1.out⟩
  have L20 : ml.length ≤ 20 := by omega
  have L100 : tl.length ≤ 100 := by omega
  clear hl1 hl2
  have M1 : Hid (Mkg w w1.heap.size (w1.heap.size + 1) (fun _ => []) (fun _ => 0) (fun _ => .slice none 0 0) ((w1.alloc (.cells #[.slice none 0 0, .slice none 0 0, .slice none 0 0] 47)).alloc (.cells #[.int .i64 0, .int .i64 0, .int .i64 0] 23))) := by
    have hq := ((Below.refl w1.heap.size w1).alloc (Nat.le_refl _) (.cells #[.slice none 0 0, .slice none 0 0, .slice none 0 0] 47)).alloc (by simp) (.cells #[.int .i64 0, .int .i64 0, .int .i64 0] 23)
    have ht := Bk.new (w1.alloc (.cells #[.slice none 0 0, .slice none 0 0, .slice none 0 0] 47)) 23 #[.int .i64 0, .int .i64 0, .int .i64 0]
    rw [World.size_alloc] at ht
    have hs := B1.out.size
    exact ⟨(Bk.new w1 _ _).alloc _, fun i _ => ⟨rfl, .inl ⟨rfl, rfl⟩⟩, ht, fun i j _ _ _ k hk => by simp [Value.ownBlock] at hk, B1.out.trans (hq.mono B1.out.size), hs, by omega, by omega⟩
  go_wp2_with (fail)
  generalize w1.heap.size = rb at *
  generalize (w1.alloc (.cells #[.slice none 0 0, .slice none 0 0, .slice none 0 0] 47)).alloc (.cells #[.int .i64 0, .int .i64 0, .int .i64 0] 23) = W1 at *
  generalize rb + 1 = tb at *
  go_loopw [32] (fun i wr => ∃ (k : Nat) (R : Nat → List Tx) (V : Nat → Value), k ≤ ml.length ∧ i = .int .i64 k ∧ Made (origs (ml.take k)) R ∧ Mkg w rb tb R (fun o => cntO (origs (ml.take k)) o) V wr) (fun i _ => ml.length - (intOf i).toNat)
  case atStart => exact ⟨0, _, _, Nat.zero_le _, rfl, Made.nil, M1.out⟩
  case round =>
    obtain ⟨k, R, V, hk, rfl, hR, hM⟩ := hrel
    have HR := Lib.hid hR
    have M2 := Lib.hid hM
    clear hR hM M1
    by_cases hlt : k < ml.length
    · obtain ⟨gm, om, e, hgl, q0⟩ := (H1.out.below M2.out.l) k (.int .u8 (ml[k] : Nat)) (by simp [bys, hlt])
      subst e
      have hm256 := HM.out ml[k] (List.getElem_mem hlt)
      have HO := Lib.hid (origs_snoc ml k hlt)
      obtain ⟨o, ho⟩ : ∃ o, ml[k] % 3 = o := ⟨_, rfl⟩
      have ho3 : o < 3 := by omega
      rw [ho] at HO
      generalize ml[k] = m at *
      have hmo : (m : Int) % 3 = (o : Int) := by omega
      have hm0 : (0 : Int) ≤ (m : Int) := by omega
      have hm1 : (m : Int) ≤ 255 := by omega
      clear ho hm256
      have M3 := Lib.hid (M2.out.quiet ((Below.refl wr.heap.size wr).alloc (Nat.le_refl _) (.cells #[.int .i64 0, .int .i64 0, .int .i64 0] 23)))
      have D3 := Lib.hid (Bk.new wr 23 #[.int .i64 0, .int .i64 0, .int .i64 0])
      have lrb := M2.out.rows.lt
      have ltb := M2.out.there.lt
      have hN : Hid (∀ q, cntO (origs (ml.take k)) q ≤ 20) := fun q => by
        have h := cntO_le (origs (ml.take k)) q
        have h2 : (origs (ml.take k)).length ≤ k := by unfold origs; rw [List.length_map, List.length_take]; omega
        omega
      have LV : Hid (∀ i, i < 3 → (V i).ownBlock ≠ some wr.heap.size) := fun i hi e => by
        have := (own_ge (M2.out.own i hi) _ e).2
        omega
      have lw := M2.out.l.size
      clear M2
      go_wp2_with (fail)
      clear q0
      generalize wr.heap.size = db at *
      generalize wr.alloc (.cells #[.int .i64 0, .int .i64 0, .int .i64 0] 23) = W2 at *
      go_loopw [40] (fun i wr => ∃ (j : Nat) (e : Nat → Int), j ≤ 3 ∧ i = .int .i64 j ∧ (∀ q, q < j → 0 ≤ e q ∧ e q ≤ cntO (origs (ml.take k)) q) ∧ Mkg w rb tb R (fun o => cntO (origs (ml.take k)) o) V wr ∧ Bk wr db 23 #[.int .i64 (e 0), .int .i64 (e 1), .int .i64 (e 2)]) (fun i _ => 3 - (intOf i).toNat)
      case atStart => exact ⟨0, fun _ => 0, by omega, rfl, (fun q hq => absurd hq (by omega)), M3.out, D3.out⟩
      case round =>
        obtain ⟨j, e, hj, rfl, he, hM4, hD4⟩ := hrel
        have M4 := Lib.hid hM4
        have D4 := Lib.hid hD4
        have E4 := Lib.hid he
        clear hM4 hD4 he M3 D3
        by_cases hlt3 : j < 3
        · obtain ⟨-, p0⟩ := M4.out.cells hlt3
          have hn := hN.out j
          generalize hnn : cntO (origs (ml.take k)) j = nn at *
          have HNN := Lib.hid hnn
          clear hnn
          have fz := D4.out.free j
          have cz : ∃ u, wr.cell? ⟨db, j, none⟩ = some u := by
            rw [D4.out.cell]
            have hc : j = 0 ∨ j = 1 ∨ j = 2 := by omega
            rcases hc with rfl | rfl | rfl
            · exact ⟨_, rfl⟩
            · exact ⟨_, rfl⟩
            · exact ⟨_, rfl⟩
          obtain ⟨u0, cz⟩ := cz
          have hj0 : (0 : Int) ≤ (j : Int) := by omega
          have hj3 : (j : Int) < 3 := by omega
          obtain ⟨q, hq3, hqe⟩ := bits_le m (by omega)
          obtain ⟨x, hxe, hx0, hx1⟩ := dep_le nn q hn hq3
          go_wp2_with (fail)
          go_region
          have M5 := Lib.hid (M4.out.beside ((Kp.refl (· = db) wr).set1 j (.int .i64 x)).drew lw (by omega) (by omega) LV.out)
          have D5 : Hid (Bk (wr.setCell ⟨db, j, none⟩ (.int .i64 x)).drew db 23 #[.int .i64 (upd e j x 0), .int .i64 (upd e j x 1), .int .i64 (upd e j x 2)]) := by
            have h := D4.out.put j (.int .i64 x)
            have hc : j = 0 ∨ j = 1 ∨ j = 2 := by omega
            rcases hc with rfl | rfl | rfl <;> exact h
          have E5 : Hid (∀ q, q < j + 1 → 0 ≤ upd e j x q ∧ upd e j x q ≤ cntO (origs (ml.take k)) q) := by
            intro q hq
            by_cases c : q = j
            · subst c
              have h := HNN.out
              simp only [upd, if_pos]
              omega
            · simp only [upd, if_neg c]
              exact E4.out q (by omega)
          clear p0 fz cz hqe hxe hx0 hx1 M4 D4 E4
          go_wp2_with (fail)
          go_roundw
          case rel => exact ⟨j + 1, upd e j x, by omega, by go_num, E5.out, M5.out, D5.out⟩
          case measure => simp [intOf]; omega
        · obtain rfl : j = 3 := by omega
          obtain ⟨pv, p0⟩ := M4.out.cells ho3
          have hn := hN.out o
          have LVO : Hid (∀ i, i < 3 → (V i).ownBlock ≠ some db) := LV.out
          have NE := M4.out.ne
          have MN := Lib.hid (M4.out.beside ((Kp.refl (· = db) wr).set1 o (.int .i64 (cntO (origs (ml.take k)) o))) lw (by omega) (by omega) LV.out)
          have M6 := Lib.hid (MN.out.stepN ho3 ((cntO (origs (ml.take k)) o : Int) + 1))
          have D6 : Hid (Bk ((wr.setCell ⟨db, o, none⟩ (.int .i64 (cntO (origs (ml.take k)) o))).setCell ⟨tb, o, none⟩ (.int .i64 ((cntO (origs (ml.take k)) o : Int) + 1))) db 23 #[.int .i64 (upd e o (cntO (origs (ml.take k)) o) 0), .int .i64 (upd e o (cntO (origs (ml.take k)) o) 1), .int .i64 (upd e o (cntO (origs (ml.take k)) o) 2)]) := by
            have h := (D4.out.put o (.int .i64 (cntO (origs (ml.take k)) o))).far (p := ⟨tb, o, none⟩) (by show db ≠ tb; omega) (.int .i64 ((cntO (origs (ml.take k)) o : Int) + 1))
            have hc : o = 0 ∨ o = 1 ∨ o = 2 := by omega
            rcases hc with rfl | rfl | rfl <;> exact h
          have UN : Hid (upd (fun o => (cntO (origs (ml.take k)) o : Int)) o ((cntO (origs (ml.take k)) o : Int) + 1) = fun o' => (cntO (origs (ml.take (k + 1))) o' : Int)) := by
            funext o'
            rw [HO.out, cntO_snoc]
            unfold upd
            by_cases c : o' = o
            · subst c; simp
            · rw [if_neg c, if_neg (fun c2 => c c2.symm)]; simp
          have ED : Hid (0 ≤ upd e o (cntO (origs (ml.take k)) o) 0 ∧ upd e o (cntO (origs (ml.take k)) o) 0 ≤ cntO (origs (ml.take k)) 0 ∧ 0 ≤ upd e o (cntO (origs (ml.take k)) o) 1 ∧ upd e o (cntO (origs (ml.take k)) o) 1 ≤ cntO (origs (ml.take k)) 1 ∧ 0 ≤ upd e o (cntO (origs (ml.take k)) o) 2 ∧ upd e o (cntO (origs (ml.take k)) o) 2 ≤ cntO (origs (ml.take k)) 2) := by
            have hE := E4.out
            have a : ∀ q, q < 3 → 0 ≤ upd e o (cntO (origs (ml.take k)) o) q ∧ upd e o (cntO (origs (ml.take k)) o) q ≤ cntO (origs (ml.take k)) q := by
              intro q hq
              unfold upd
              split
              · rename_i c
                subst c
                omega
              · exact hE q hq
            exact ⟨(a 0 (by omega)).1, (a 0 (by omega)).2, (a 1 (by omega)).1, (a 1 (by omega)).2, (a 2 (by omega)).1, (a 2 (by omega)).2⟩
          have EO : Hid (upd e o (cntO (origs (ml.take k)) o) o = (cntO (origs (ml.take k)) o : Int)) := by simp [Hid, upd]
          have fz := D4.out.free o
          have ftz := M4.out.there.free o
          obtain ⟨u0, cz⟩ : ∃ u, wr.cell? ⟨db, o, none⟩ = some u := by
            rw [D4.out.cell]
            have hc : o = 0 ∨ o = 1 ∨ o = 2 := by omega
            rcases hc with rfl | rfl | rfl
            · exact ⟨_, rfl⟩
            · exact ⟨_, rfl⟩
            · exact ⟨_, rfl⟩
          have hdt : db ≠ tb := by omega
          have htd : tb ≠ db := by omega
          have HK := Lib.hid (M6.out.cells ho3)
          generalize hnn : cntO (origs (ml.take k)) o = nn at *
          have HNN := Lib.hid hnn
          clear hnn
          generalize upd e o (nn : Int) = e' at *
          have ho0 : (0 : Int) ≤ (o : Int) := by omega
          have ho3' : (o : Int) < 3 := by omega
          clear M4 MN D4 E4 LV
          go_wp2_with (fail)
          generalize hW6 : (wr.setCell ⟨db, o, none⟩ (.int .i64 nn)).setCell ⟨tb, o, none⟩ (.int .i64 ((nn : Int) + 1)) = W6 at *
          rw [UN.out] at M6
          have hnt : cntO (origs (ml.take (k + 1))) o = nn + 1 := by rw [HO.out, cntO_snoc, if_pos rfl, HNN.out]
          have HSt : Hid (∀ W', Kp (fun k => (V o).ownBlock = some k) W6 W' → W'.cell? ⟨rb, o, none⟩ = some (V o) ∧ W'.cell? ⟨tb, o, none⟩ = some (.int .i64 (nn + 1)) ∧ W'.cell? ⟨db, 0, none⟩ = some (.int .i64 (e' 0)) ∧ W'.cell? ⟨db, 1, none⟩ = some (.int .i64 (e' 1)) ∧ W'.cell? ⟨db, 2, none⟩ = some (.int .i64 (e' 2))) := by
            intro W' k'
            have M := M6.out
            obtain ⟨-, pt⟩ := M.cells ho3
            rw [hnt] at pt
            refine ⟨?_, ?_, ?_, ?_, ?_⟩
            · exact (k'.cell (p := ⟨rb, o, none⟩) M.rows.lt (M.vr ho3)).trans (M.cells ho3).1
            · exact (k'.cell (p := ⟨tb, o, none⟩) M.there.lt (M.vt ho3)).trans (pt.trans (by push_cast; rfl))
            · exact ((D6.out.kp k' (LVO.out o ho3)).cell 0)
            · exact ((D6.out.kp k' (LVO.out o ho3)).cell 1)
            · exact ((D6.out.kp k' (LVO.out o ho3)).cell 2)
          have HRt : Hid ((R o).length = nn) := by rw [HR.out.len o ho3]; exact HNN.out
          have hfr : Hid (∀ W', Kp (fun k => (V o).ownBlock = some k) W6 W' → W'.frozen? ⟨rb, o, none⟩ = false) := fun W' k' => (M6.out.rows.kp k' (M6.out.vr ho3)).free o
          obtain ⟨i0, hi0, hz0, hz1, hz2⟩ := info_parts Try.infoTx
          clear hW6 pv p0 fz ftz cz HK
          go_wp2_with (fail)
          refine wp_region_M (fun W' => W'.cell? ⟨rb, o, none⟩ = some (V o) ∧ W'.cell? ⟨tb, o, none⟩ = some (.int .i64 (nn + 1)) ∧ W'.cell? ⟨db, 0, none⟩ = some (.int .i64 (e' 0)) ∧ W'.cell? ⟨db, 1, none⟩ = some (.int .i64 (e' 1)) ∧ W'.cell? ⟨db, 2, none⟩ = some (.int .i64 (e' 2))) 13 (by kernel_rfl) ?_
          have HS0 : Hid (W6.drew.cell? ⟨rb, o, none⟩ = some (V o) ∧ W6.drew.cell? ⟨tb, o, none⟩ = some (.int .i64 (nn + 1)) ∧ W6.drew.cell? ⟨db, 0, none⟩ = some (.int .i64 (e' 0)) ∧ W6.drew.cell? ⟨db, 1, none⟩ = some (.int .i64 (e' 1)) ∧ W6.drew.cell? ⟨db, 2, none⟩ = some (.int .i64 (e' 2))) := HSt.out W6 (Kp.refl _ _)
          refine wpAnyM_take (i := 0) (oi := ({ dst := Option.some 69, op := Go.Op.move (Go.Operand.tmp 9), type := 3, pos := "law.go:172", after := #[], guard := Option.none } : Go.Oper)) (v := ?tv0) rfl (by kernel_rfl) (by kernel_rfl) (by kernel_rfl) (by decide) (by kernel_rfl) (fun _ _ _ h => h) (HS0.out) (Or.inl ⟨by rfl, ?thy0⟩) ?trest0
          case thy0 =>
            intro w' hSw
            try dsimp only at hSw
            go_simp
            with_reducible rfl
          try simp only [Go.Act.put, List.setIfInBounds_toArray, List.set_cons_zero, List.set_cons_succ]
          refine wpAnyM_take (i := 1) (oi := ({ dst := Option.some 70, op := Go.Op.move (Go.Operand.tmp 9), type := 3, pos := "law.go:172", after := #[], guard := Option.none } : Go.Oper)) (v := ?tv1) rfl (by kernel_rfl) (by kernel_rfl) (by kernel_rfl) (by decide) (by kernel_rfl) (fun _ _ _ h => h) (HS0.out) (Or.inl ⟨by rfl, ?thy1⟩) ?trest1
          case thy1 =>
            intro w' hSw
            try dsimp only at hSw
            go_simp
            with_reducible rfl
          try simp only [Go.Act.put, List.setIfInBounds_toArray, List.set_cons_zero, List.set_cons_succ]
          refine wpAnyM_take (i := 2) (oi := ({ dst := Option.some 71, op := Go.Op.indexAddr 47 (Go.Operand.tmp 5) (Go.Operand.tmp 70), type := 0, pos := "law.go:172", after := #[{ on := 1, ground := Go.Ground.data }], guard := Option.none } : Go.Oper)) (v := ?tv2) rfl (by kernel_rfl) (by kernel_rfl) (by kernel_rfl) (by decide) (by kernel_rfl) (fun _ _ _ h => h) (HS0.out) (Or.inl ⟨by rfl, ?thy2⟩) ?trest2
          case thy2 =>
            intro w' hSw
            try dsimp only at hSw
            go_simp
            with_reducible rfl
          try simp only [Go.Act.put, List.setIfInBounds_toArray, List.set_cons_zero, List.set_cons_succ]
          refine wpAnyM_take (i := 3) (oi := ({ dst := Option.some 72, op := Go.Op.load 44 (Go.Operand.tmp 71), type := 44, pos := "law.go:172", after := #[{ on := 2, ground := Go.Ground.data }], guard := Option.none } : Go.Oper)) (v := ?tv3) rfl (by kernel_rfl) (by kernel_rfl) (by kernel_rfl) (by decide) (by kernel_rfl) (fun _ _ _ h => h) (HS0.out) (Or.inl ⟨by rfl, ?thy3⟩) ?trest3
          case thy3 =>
            intro w' hSw
            try dsimp only at hSw
            go_simp
            with_reducible rfl
          try simp only [Go.Act.put, List.setIfInBounds_toArray, List.set_cons_zero, List.set_cons_succ]
          refine wpAnyM_take (i := 4) (oi := ({ dst := Option.some 73, op := Go.Op.move (Go.Operand.tmp 9), type := 3, pos := "law.go:172", after := #[], guard := Option.none } : Go.Oper)) (v := ?tv4) rfl (by kernel_rfl) (by kernel_rfl) (by kernel_rfl) (by decide) (by kernel_rfl) (fun _ _ _ h => h) (HS0.out) (Or.inl ⟨by rfl, ?thy4⟩) ?trest4
          case thy4 =>
            intro w' hSw
            try dsimp only at hSw
            go_simp
            with_reducible rfl
          try simp only [Go.Act.put, List.setIfInBounds_toArray, List.set_cons_zero, List.set_cons_succ]
          refine wpAnyM_take (i := 5) (oi := ({ dst := Option.some 74, op := Go.Op.move (Go.Operand.tmp 9), type := 3, pos := "law.go:172", after := #[], guard := Option.none } : Go.Oper)) (v := ?tv5) rfl (by kernel_rfl) (by kernel_rfl) (by kernel_rfl) (by decide) (by kernel_rfl) (fun _ _ _ h => h) (HS0.out) (Or.inl ⟨by rfl, ?thy5⟩) ?trest5
          case thy5 =>
            intro w' hSw
            try dsimp only at hSw
            go_simp
            with_reducible rfl
          try simp only [Go.Act.put, List.setIfInBounds_toArray, List.set_cons_zero, List.set_cons_succ]
          refine wpAnyM_take (i := 6) (oi := ({ dst := Option.some 75, op := Go.Op.indexAddr 23 (Go.Operand.tmp 6) (Go.Operand.tmp 74), type := 0, pos := "law.go:172", after := #[{ on := 5, ground := Go.Ground.data }], guard := Option.none } : Go.Oper)) (v := ?tv6) rfl (by kernel_rfl) (by kernel_rfl) (by kernel_rfl) (by decide) (by kernel_rfl) (fun _ _ _ h => h) (HS0.out) (Or.inl ⟨by rfl, ?thy6⟩) ?trest6
          case thy6 =>
            intro w' hSw
            try dsimp only at hSw
            go_simp
            with_reducible rfl
          try simp only [Go.Act.put, List.setIfInBounds_toArray, List.set_cons_zero, List.set_cons_succ]
          refine wpAnyM_take (i := 7) (oi := ({ dst := Option.some 76, op := Go.Op.load 2 (Go.Operand.tmp 75), type := 2, pos := "law.go:172", after := #[{ on := 6, ground := Go.Ground.data }], guard := Option.none } : Go.Oper)) (v := ?tv7) rfl (by kernel_rfl) (by kernel_rfl) (by kernel_rfl) (by decide) (by kernel_rfl) (fun _ _ _ h => h) (HS0.out) (Or.inl ⟨by rfl, ?thy7⟩) ?trest7
          case thy7 =>
            intro w' hSw
            try dsimp only at hSw
            go_simp
            with_reducible rfl
          try simp only [Go.Act.put, List.setIfInBounds_toArray, List.set_cons_zero, List.set_cons_succ]
          refine wpAnyM_take (i := 8) (oi := ({ dst := Option.some 77, op := Go.Op.load 23 (Go.Operand.tmp 10), type := 23, pos := "law.go:172", after := #[], guard := Option.none } : Go.Oper)) (v := ?tv8) rfl (by kernel_rfl) (by kernel_rfl) (by kernel_rfl) (by decide) (by kernel_rfl) (fun _ _ _ h => h) (HS0.out) (Or.inl ⟨by rfl, ?thy8⟩) ?trest8
          case thy8 =>
            intro w' hSw
            try dsimp only at hSw
            go_simp
            with_reducible rfl
          try simp only [Go.Act.put, List.setIfInBounds_toArray, List.set_cons_zero, List.set_cons_succ]
          refine wpAnyM_take (i := 9) (oi := ({ dst := Option.some 78, op := Go.Op.build 36 #[(0, Go.Operand.tmp 73), (1, Go.Operand.tmp 76), (2, Go.Operand.tmp 77)], type := 36, pos := "law.go:172", after := #[{ on := 4, ground := Go.Ground.data }, { on := 7, ground := Go.Ground.data }, { on := 8, ground := Go.Ground.data }], guard := Option.none } : Go.Oper)) (v := ?tv9) rfl (by kernel_rfl) (by kernel_rfl) (by kernel_rfl) (by decide) (by kernel_rfl) (fun _ _ _ h => h) (HS0.out) (Or.inl ⟨by rfl, ?thy9⟩) ?trest9
          case thy9 =>
            intro w' hSw
            try dsimp only at hSw
            go_simp
            with_reducible rfl
          try simp only [Go.Act.put, List.setIfInBounds_toArray, List.set_cons_zero, List.set_cons_succ]
          refine wpAnyM_one (i := 10) (oi := ({ dst := Option.some 79, op := Go.Op.buildSlice 44 1 #[(0, Go.Operand.tmp 78)], type := 44, pos := "law.go:172", after := #[{ on := 9, ground := Go.Ground.data }], guard := Option.none } : Go.Oper)) rfl (by kernel_rfl) (fun K hK => ?_)
          go_simp
          have QB : Hid (Below W6.heap.size W6 (W6.alloc (.cells #[.int .i64 o, .int .i64 (nn + 1), .int .i64 (e' 0), .int .i64 (e' 1), .int .i64 (e' 2), .slice none 0 0] 36)).drew) := by
            have q := (Below.refl W6.heap.size W6).alloc (Nat.le_refl _) (.cells #[.int .i64 o, .int .i64 (nn + 1), .int .i64 (e' 0), .int .i64 (e' 1), .int .i64 (e' 2), .slice none 0 0] 36)
            exact ⟨q.os, q.tape, q.output, q.size, q.block⟩
          have KA : Kp (fun k => (V o).ownBlock = some k) W6 (W6.alloc (.cells #[.int .i64 o, .int .i64 (nn + 1), .int .i64 (e' 0), .int .i64 (e' 1), .int .i64 (e' 2), .slice none 0 0] 36)).drew := ((Kp.refl _ W6).alloc _).drew
          have MA := Lib.hid (M6.out.quiet QB.out)
          refine hK _ _ (fun _ => HSt.out _ KA) ?_
          clear hK K
          refine wpAnyM_one (i := 11) (oi := ({ dst := Option.some 80, op := Go.Op.call { callee := Go.Callee.builtin Go.Builtin.append, args := #[Go.Operand.tmp 72, Go.Operand.tmp 79], argTypes := #[44, 44] }, type := 44, pos := "law.go:172", after := #[{ on := 3, ground := Go.Ground.data }, { on := 10, ground := Go.Ground.data }], guard := Option.none } : Go.Oper)) rfl (by kernel_rfl) (fun K hK => ?_)
          refine step_app2 rfl (.tmp 72) (.tmp 79) 44 rfl w.heap.size 36 i0 _ 6 64 Try.underlying44 hi0 hz0 hz1 hz2 rfl (by decide) (V o) (R o).length (txs ((R o).map tv0)) (by simp [Go.Act.eval, Go.Act.put]) (by exact MA.out.own o ho3) (some ⟨W6.heap.size, 0, none⟩) 1 1 (tv0 (⟨o, nn + 1, e' 0, e' 1, e' 2, []⟩ : Tx)).cells (by simp [Go.Act.eval, Go.Act.put]) (fun e => by cases e) rfl (by exact rd_drew (bk_rd (Bk.new W6 _ _))) (by intro u hu; simp [Tv.cells, tv0] at hu; rcases hu with rfl | rfl | rfl | rfl | rfl | rfl <;> rfl) (by have := HRt.out; simp only [maxLen]; omega) (by have := HRt.out; omega) (by have := MA.out.l.size; exact this) ?_
          intro A4 c4 w4 ho4 hg4 hv4
          have KB : Kp (fun k => (V o).ownBlock = some k) W6 w4 := KA.tr ((Kp.of_grown hg4).mono (fun i _ e => e.symm))
          have HS4 := Lib.hid (HSt.out _ KB)
          have y0 := HS4.out.1
          have y7 := hfr.out _ KB
          have M7 := Lib.hid (MA.out.stepR ho3 (t := (⟨o, nn + 1, e' 0, e' 1, e' 2, []⟩ : Tx)) rfl hg4 ho4 hv4)
          refine hK _ _ (fun _ => HS4.out) ?_
          clear hK K ho4 hg4 hv4
          try simp only [Go.Act.put, List.setIfInBounds_toArray, List.set_cons_zero, List.set_cons_succ]
          refine wpAnyM_take (i := 12) (oi := ({ dst := Option.some 81, op := Go.Op.indexAddr 47 (Go.Operand.tmp 5) (Go.Operand.tmp 69), type := 0, pos := "law.go:172", after := #[{ on := 0, ground := Go.Ground.data }, { on := 0, ground := Go.Ground.phase }, { on := 1, ground := Go.Ground.phase }, { on := 2, ground := Go.Ground.phase }, { on := 3, ground := Go.Ground.phase }, { on := 4, ground := Go.Ground.phase }, { on := 5, ground := Go.Ground.phase }, { on := 6, ground := Go.Ground.phase }, { on := 7, ground := Go.Ground.phase }, { on := 8, ground := Go.Ground.phase }, { on := 9, ground := Go.Ground.phase }, { on := 10, ground := Go.Ground.phase }, { on := 11, ground := Go.Ground.phase }], guard := Option.none } : Go.Oper)) (v := ?tv12) rfl (by kernel_rfl) (by kernel_rfl) (by kernel_rfl) (by decide) (by kernel_rfl) (fun _ _ _ h => h) (HS4.out) (Or.inl ⟨by rfl, ?thy12⟩) ?trest12
          case thy12 =>
            intro w' hSw
            try dsimp only at hSw
            go_simp
            with_reducible rfl
          try simp only [Go.Act.put, List.setIfInBounds_toArray, List.set_cons_zero, List.set_cons_succ]
          refine wpAnyM_one (i := 13) (oi := ({ dst := Option.none, op := Go.Op.store 44 (Go.Operand.tmp 81) (Go.Operand.tmp 80), type := 0, pos := "law.go:172", after := #[{ on := 12, ground := Go.Ground.data }, { on := 11, ground := Go.Ground.data }, { on := 11, ground := Go.Ground.chain }, { on := 0, ground := Go.Ground.phase }, { on := 1, ground := Go.Ground.phase }, { on := 2, ground := Go.Ground.phase }, { on := 3, ground := Go.Ground.phase }, { on := 4, ground := Go.Ground.phase }, { on := 5, ground := Go.Ground.phase }, { on := 6, ground := Go.Ground.phase }, { on := 7, ground := Go.Ground.phase }, { on := 8, ground := Go.Ground.phase }, { on := 9, ground := Go.Ground.phase }, { on := 10, ground := Go.Ground.phase }, { on := 11, ground := Go.Ground.phase }], guard := Option.none } : Go.Oper)) rfl (by kernel_rfl) (fun K hK => ?_)
          go_simp
          refine hK _ _ (fun h => absurd rfl h) ?_
          clear hK K
          refine wpAnyM_done (by kernel_rfl) ?_ _
          all_goals go_wp2_with (fail)
          have HR2 : Hid (Made (origs (ml.take (k + 1))) (upd R o (R o ++ [(⟨o, nn + 1, e' 0, e' 1, e' 2, []⟩ : Tx)]))) := by
            rw [HO.out]
            have hE := ED.out
            refine HR.out.snoc ho3 (t := (⟨o, nn + 1, e' 0, e' 1, e' 2, []⟩ : Tx)) rfl (by dsimp only; rw [HNN.out]) (check_zero _ _ _ _ _ (by omega) (by omega) (by omega) (by omega) ?_ ?_ ?_ ?_) rfl ?_ ?_ ?_
            · have := hN.out 0; exact ⟨by omega, by omega⟩
            · have := hN.out 1; exact ⟨by omega, by omega⟩
            · have := hN.out 2; exact ⟨by omega, by omega⟩
            · have h := EO.out
              have hc : o = 0 ∨ o = 1 ∨ o = 2 := by omega
              rcases hc with rfl | rfl | rfl
              · simp; omega
              · simp; omega
              · simp; omega
            · exact hE.2.1
            · exact hE.2.2.2.1
            · exact hE.2.2.2.2.2
          all_goals go_roundw
          case rel => exact ⟨k + 1, _, _, by omega, by go_num, HR2.out, M7.out⟩
          case measure => simp [intOf]; omega
    · obtain rfl : k = ml.length := by omega
      have HR2 : Hid (Made (origs ml) R) := by have h := HR.out; simp only [List.take_length] at h; exact h
      have M3 : Hid (Mkg w rb tb R (fun o => (cntO (origs ml) o : Int)) V wr) := by have h := M2.out; simp only [List.take_length] at h; exact h
      clear HR M2 hlt hk
      go_wp2_with (fail)
      refine (new_in 0 0 0 (by decide) (by decide) (by decide) _).mono ?_
      rintro e w5 ⟨g, hg, rfl, hk5, hb5⟩
      have M5 := Lib.hid (M3.out.quiet hb5)
      have X5 : Hid (HAt 61 (Sgr g rb) w5 g (Hk.new 0 0 0)) := hat_new hk5 (.inl rfl)
      have lg : w.heap.size ≤ g := Nat.le_trans M3.out.l.size hg
      have lrb := M5.out.rows.lt
      have lgb := X5.out.lt
      have T5 := Lib.hid (H2.out.below M5.out.l)
      clear hk5 hb5 hg M3
      obtain ⟨i1, hi1, hy0, hy1, hy2⟩ := info_parts Try.infoBy
      have BA : Hid (Below w5.heap.size w5 (w5.alloc (.cells #[] 5))) := (Below.refl _ _).alloc (Nat.le_refl _) _
      have oA : Hid ((w5.alloc (.cells #[] 5)).ownsRow w5.heap.size 5 1 (.slice (some ⟨w5.heap.size, 0, none⟩) 0 0) 0 []) := World.ownsRow_lit (e := 5) (size := 1) (base := w5.heap.size) w5 #[] 0 (Nat.le_refl _) (by simp) rfl
      have TA := Lib.hid (T5.out.below BA.out)
      go_wp2_with (first | (at_builtin; refine wpList_app2 rfl (.tmp 90) (.tmp 91) 56 rfl w5.heap.size 5 i1 _ 1 1 Try.underlying56 hi1 hy0 hy1 hy2 rfl (by decide) (.slice (some ⟨w5.heap.size, 0, none⟩) 0 0) 0 [] rfl oA.out A2 tl.length c2 (bys tl) rfl HN2.out (by rw [bys_length]; omega) TA.out (bys_one tl) (by simp only [maxLen]; omega) (by omega) (by simp) ?_; intro A3 c3 w6 ho6 hg6 hv6; simp only [Nat.zero_add] at ho6 ⊢; have B6 := Lib.hid (BA.out.grown hg6 BA.out.size (fun g hg => (own_ge oA.out g hg).1)); have O6 := Lib.hid ho6; have QB := Lib.hid ((Below.refl w6.heap.size w6).alloc (Nat.le_refl _) (.cells #[.int .u8 0, .int .u8 1, .int .u8 2] 5)); have OB := Lib.hid (own_new ho6 QB.out); have RB := Lib.hid (bk_rd (Bk.new w6 5 #[.int .u8 0, .int .u8 1, .int .u8 2])); have LB := B6.out.size; have B7 := Lib.hid (B6.out.trans (QB.out.mono LB)); clear ho6 hg6 hv6) | (at_builtin; refine wpList_app2 rfl (.tmp 92) (.tmp 93) 56 rfl w5.heap.size 5 i1 _ 1 1 Try.underlying56 hi1 hy0 hy1 hy2 rfl (by decide) (.slice A3 tl.length c3) tl.length (bys tl) rfl OB.out (some ⟨w6.heap.size, 0, none⟩) 3 3 [.int .u8 0, .int .u8 1, .int .u8 2] rfl (fun e => by cases e) rfl RB.out (by intro u hu; simp at hu; rcases hu with rfl | rfl | rfl <;> rfl) (by simp only [maxLen]; omega) (by omega) (by simp; omega) ?_; intro A4 c4 w7 ho7 hg7 hv7; have B8 := Lib.hid (B7.out.grown hg7 B7.out.size (fun g hg => (own_ge OB.out g hg).1)); have O7 := Lib.hid ho7; clear ho7 hg7 hv7))
      have L8 : Hid (Liv w g rb tb R (fun o => (cntO (origs ml) o : Int)) (Hk.new 0 0 0) A4 (tl ++ [0, 1, 2]) w7) := by
        refine Liv.start (M5.out.quiet B8.out) (X5.out.below B8.out) lg ?_ HR2.out.ws
        have ho := O7.out
        have e : bys (tl ++ [0, 1, 2]) = bys tl ++ [.int .u8 0, .int .u8 1, .int .u8 2] := bys_append _ _
        rw [← e] at ho
        exact Sh.own ho (fun k hk => by rcases hk with rfl | rfl <;> assumption)
      clear B6 O6 QB OB RB B7 O7 B8 T5 TA BA oA M5 X5 HN2 H2 H1 HN1
      have TL : Hid ((tl ++ [0, 1, 2]).length = tl.length + 3) := by simp [Hid]
      have HT2 : Hid (∀ m ∈ tl ++ [0, 1, 2], m < 256) := by
        intro m hm
        rcases List.mem_append.mp hm with hm | hm
        · exact HT.out m hm
        · simp at hm
          omega
      have FA : Hid (∀ (j : Nat) (Rm : Nat → List Tx) (h : Hk), FedTo (tl ++ [0, 1, 2]) j Rm h → tl.length + 3 ≤ j → ∀ o, o < 3 → Fed Rm h o) := fun _ _ _ H hj => H.all hj
      generalize tl ++ [0, 1, 2] = TL' at *
      have Z0 : Hid (∀ o, o < 3 → (cntO ((origs ml).take 0) o : Int) ≤ (Hk.new 0 0 0).a o) := by
        intro o ho
        have hc : o = 0 ∨ o = 1 ∨ o = 2 := by omega
        rcases hc with rfl | rfl | rfl <;> exact Int.le_refl _
      go_loopw [98] (fun i wr => ∃ (r : Nat) (Rm : Nat → List Tx) (h : Hk), r ≤ ml.length + 1 ∧ i = .int .i64 r ∧ Live R Rm h ∧ (∀ o, o < 3 → (cntO ((origs ml).take r) o : Int) ≤ h.a o) ∧ Liv w g rb tb Rm (fun o => (cntO (origs ml) o : Int)) h A4 TL' wr) (fun i _ => ml.length + 1 - (intOf i).toNat)
      case atStart => exact ⟨0, R, Hk.new 0 0 0, by omega, rfl, Live.start HR2.out, Z0.out, L8.out⟩
      case round =>
        obtain ⟨r, Rm, h, hr, rfl, hlv, hcn, hL⟩ := hrel
        have LV := Lib.hid hlv
        have CN := Lib.hid hcn
        have L9 := Lib.hid hL
        clear hlv hcn hL L8
        by_cases hlt : r < ml.length + 1
        · have hd : decide ((r : Int) < (ml.length : Int) + 1) = true := by simp; omega
          go_wp2_with (fail)
          go_loopw [102] (fun i wr => ∃ (j : Nat) (Rm' : Nat → List Tx) (h' : Hk), j ≤ tl.length + 3 ∧ i = .int .i64 j ∧ Live R Rm' h' ∧ h'.a = h.a ∧ FedTo TL' j Rm' h' ∧ Liv w g rb tb Rm' (fun o => (cntO (origs ml) o : Int)) h' A4 TL' wr) (fun i _ => tl.length + 3 - (intOf i).toNat)
          case atStart => exact ⟨0, Rm, h, by omega, rfl, LV.out, rfl, (fun q hq h => absurd h (by omega)), L9.out⟩
          case round =>
            obtain ⟨j, Rm', h', hj, rfl, hlv, ha, hfd, hL⟩ := hrel
            have LV2 := Lib.hid hlv
            have HA2 := Lib.hid ha
            have FD := Lib.hid hfd
            have L2 := Lib.hid hL
            clear hlv ha hfd hL LV L9
            by_cases hlt2 : j < tl.length + 3
            · obtain ⟨ga, oa, e, hgl, q0⟩ := L2.out.turn.rd j (.int .u8 (TL'[j]'(by rw [TL.out]; exact hlt2) : Nat)) (by simp [bys, TL.out, hlt2])
              have e4 := Lib.hid e
              have hm256 := HT2.out (TL'[j]'(by rw [TL.out]; exact hlt2)) (List.getElem_mem _)
              have NX := Lib.hid (FD.out.next (by rw [TL.out]; exact hlt2))
              obtain ⟨o, ho⟩ : ∃ o, (TL'[j]'(by rw [TL.out]; exact hlt2)) % 3 = o := ⟨_, rfl⟩
              have ho3 : o < 3 := by omega
              rw [ho] at NX
              generalize (TL'[j]'(by rw [TL.out]; exact hlt2)) = m at *
              have hmo : (m : Int) % 3 = (o : Int) := by omega
              have hm0 : (0 : Int) ≤ (m : Int) := by omega
              have hm1 : (m : Int) ≤ 255 := by omega
              have ho0 : (0 : Int) ≤ (o : Int) := by omega
              have ho3' : (o : Int) < 3 := by omega
              clear ho hm256 FD
              subst e
              obtain ⟨A5, c5, pr, ht5, fz⟩ := L2.out.row ho3
              cases hrm : Rm' o with
              | nil =>
                rw [hrm] at pr ht5
                have HRM := Lib.hid hrm
                clear hrm ht5
                simp only [List.length_nil] at pr
                go_wp2_with (fail)
                go_roundw
                case rel => exact ⟨j + 1, Rm', h', by omega, by go_num, LV2.out, HA2.out, NX.out Rm' h' (fun _ h => h) (.inr HRM.out), L2.out⟩
                case measure => simp [intOf]; omega
              | cons t rest =>
                have HP := Lib.hid (LV2.out.put HR2.out ho3 hrm)
                have HWS := Lib.hid (LV2.out.ws HR2.out ho3 hrm)
                have HRM := Lib.hid hrm
                rw [hrm] at pr ht5
                clear hrm
                obtain ⟨x, gx, ox, ex, eA, hgx, s0, s1, s2, s3, s4, s5, wx⟩ := ts_head ht5
                subst ex eA
                simp only [List.length_cons] at pr
                have WX := Lib.hid wx
                have T5 := Lib.hid ht5
                have hc5 : rest.length + 1 ≤ c5 := by
                  obtain ⟨_, c', _, e1, e2, _⟩ := ht5.row
                  injection e1 with _ _ e1
                  simp only [List.length_cons] at e2
                  omega
                have hlr : rest.length ≤ 1000 := by
                  have h1 := LV2.out.at_ o ho3
                  obtain ⟨n', _, _, hd⟩ := h1
                  have h2 := congrArg List.length hd
                  rw [HRM.out, List.length_drop, List.length_append, List.length_cons, HR2.out.len o ho3] at h2
                  have h3 := cntO_le (origs ml) o
                  have h4 : (origs ml).length = ml.length := by unfold origs; rw [List.length_map]
                  omega
                clear wx ht5
                go_wp2_with (fail)
                refine (put_any g h' x wr L2.out.x L2.out.lt LV2.out.ok WX.out HWS.out).mono ?_
                rintro e w9 ⟨k9, rfl, hh9⟩
                have L3 := Lib.hid (L2.out.stepH k9 hh9)
                have T6 := Lib.hid (T5.out.kp k9 (fun _ e => .inl e))
                have PA := Lib.hid (put_a h' x.t)
                have pr9 := (k9.cell (p := ⟨rb, o, none⟩) L2.out.ne.2.2.2 (fun e => L2.out.ne.1 e.symm)).trans pr
                have fz9 := (k9.frozen (p := ⟨rb, o, none⟩) L2.out.ne.2.2.2 (fun e => L2.out.ne.1 e.symm)).trans fz
                clear k9 hh9 pr fz s0 s1 s2 s3 s4 s5 T5 WX L2
                rcases HP.out with ⟨he, hlv, hq⟩ | ⟨he, hq, hne⟩
                · have LV3 := Lib.hid hlv
                  have HQ := Lib.hid hq
                  have HA3 : Hid ((h'.put x.t).1.a = h.a) := PA.out.trans HA2.out
                  have NX2 : Hid (FedTo TL' (j + 1) (upd Rm' o rest) (h'.put x.t).1) := by
                    rw [HQ.out]
                    exact NX.out _ _ (fun _ h => h.step) Fed.new
                  have T7 := Lib.hid (ts_tail T6.out rfl)
                  clear hlv hq HP
                  by_cases hc1 : c5 = 1
                  · obtain rfl : rest = [] := List.eq_nil_of_length_eq_zero (by omega)
                    subst hc1
                    have L4 : Hid (Liv w g rb tb (upd Rm' o []) (fun o => (cntO (origs ml) o : Int)) (h'.put x.t).1 (some ⟨ga, oa, none⟩) TL' (w9.setCell ⟨rb, o, none⟩ (.slice (some ⟨gx, ox, none⟩) 0 0))) := L3.out.stepU ho3 T7.out
                    simp only [List.length_nil, Nat.zero_add] at pr9
                    clear T7 T6 L3
                    go_wp2_with (fail)
                    go_roundw
                    case rel => exact ⟨j + 1, _, _, by omega, by go_num, LV3.out, HA3.out, NX2.out, L4.out⟩
                    case measure => simp [intOf]; omega
                  · have L4 : Hid (Liv w g rb tb (upd Rm' o rest) (fun o => (cntO (origs ml) o : Int)) (h'.put x.t).1 (some ⟨ga, oa, none⟩) TL' (w9.setCell ⟨rb, o, none⟩ (.slice (some ⟨gx, ox + 6, none⟩) rest.length (c5 - 1)))) := by
                      have h := L3.out.stepU ho3 T7.out
                      rw [if_neg hc1] at h
                      exact h
                    clear T7 T6 L3
                    go_wp2_with (fail)
                    go_roundw
                    case rel => exact ⟨j + 1, _, _, by omega, by go_num, LV3.out, HA3.out, NX2.out, L4.out⟩
                    case measure => simp [intOf]; omega
                · have HQ := Lib.hid hq
                  have HNe := Lib.hid hne
                  have L4 : Hid (Liv w g rb tb Rm' (fun o => (cntO (origs ml) o : Int)) h' (some ⟨ga, oa, none⟩) TL' w9) := by have h := L3.out; rw [HQ.out] at h; exact h
                  have tf : ((h'.put x.t).2 == 0) = false := by simpa using he
                  clear hq hne he HP L3 T6
                  go_wp2_with (fail)
                  go_roundw
                  case rel => exact ⟨j + 1, Rm', h', by omega, by go_num, LV2.out, HA2.out, NX.out Rm' h' (fun _ h => h) (.inl HNe.out), L4.out⟩
                  case measure => simp [intOf]; omega
            · have hfed := Lib.hid (FA.out j Rm' h' FD.out (by omega))
              have CN2 : Hid (∀ o, o < 3 → (cntO ((origs ml).take r) o : Int) ≤ h'.a o) := by rw [HA2.out]; exact CN.out
              go_wp2_with (fail)
              refine (all_any g h' wr L2.out.x L2.out.lt LV2.out.ok).mono ?_
              rintro e w9 ⟨k9, L9, h9, A9, c9, r9, p9, rfl, t9, hh9⟩
              have LV3 := Lib.hid (LV2.out.run r9 HR2.out).1
              have CN3 := Lib.hid (LV2.out.round HR2.out hfed.out r9 p9 r (origs_lt ml) CN2.out)
              have L3 := Lib.hid (L2.out.stepH k9 hh9)
              clear k9 r9 p9 t9 hh9
              go_wp2_with (fail)
              go_roundw
              case rel => exact ⟨r + 1, Rm', h9, by omega, by go_num, LV3.out, CN3.out, L3.out⟩
              case measure => simp [intOf]; omega
        · obtain rfl : r = ml.length + 1 := by omega
          have HE := Lib.hid (LV.out.all HR2.out (ml.length + 1) (by unfold origs; rw [List.length_map]; omega) CN.out)
          have E0 := Lib.hid (HE.out 0 (by omega))
          have E1 := Lib.hid (HE.out 1 (by omega))
          have E2 := Lib.hid (HE.out 2 (by omega))
          obtain ⟨n0, n1, n2⟩ := L9.out.cells
          have MQ := L9
          clear L9 LV CN HE
          have hnc := run_eql_clock
          go_wp2_with (fail)
          go_region_held3 (fun W => W.cell? ⟨tb, 0, none⟩ = some (.int .i64 (cntO (origs ml) 0)) ∧ W.cell? ⟨tb, 1, none⟩ = some (.int .i64 (cntO (origs ml) 1)) ∧ W.cell? ⟨tb, 2, none⟩ = some (.int .i64 (cntO (origs ml) 2))) (first | exact ⟨n0, n1, n2⟩)
            ((go_at_call 20; refine (applied_any g h _ (by first | exact MQ.out.x | exact MQ.out.drew.x | exact MQ.out.drew.drew.x)).mono ?_; rintro e w14 ⟨he, hb⟩; obtain rfl : e = .returned (.agg #[.int .i64 (cntO (origs ml) 0), .int .i64 (cntO (origs ml) 1), .int .i64 (cntO (origs ml) 2)]) := he.trans (by rw [E0.out, E1.out, E2.out]); have MQ := Lib.hid ((by first | exact MQ.out | exact MQ.out.drew | exact MQ.out.drew.drew : Liv w g rb tb Rm (fun o => (cntO (origs ml) o : Int)) h A4 TL' _).quiet hb); obtain ⟨n0, n1, n2⟩ := MQ.out.cells; clear hb he))
          all_goals go_wp2_with (fail)
          all_goals go_ret
          all_goals first
            | exact ⟨rfl, MQ.out.l⟩
            | exact ⟨rfl, MQ.out.drew.l⟩
end Go.Proofs.Ytiomdclelbjmmaa
