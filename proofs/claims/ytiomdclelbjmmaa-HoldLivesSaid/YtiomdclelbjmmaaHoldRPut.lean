/-
  Put of the document's hold.
-/
import Derived.Test.YtiomdclelbjmmaaHoldPut
set_option linter.unusedVariables false
set_option linter.unusedSimpArgs false
namespace Go.Proofs.Ytiomdclelbjmmaa
open Go.RowKit

/-- A block's cells are read behind an append that grows another row. -/
theorem Rdk.kpg {W0 W1 w2 : World} {g : Nat} {xs : List Value} {r : Option Nat} (h : Rd W0 (some ⟨g, 0, none⟩) xs) (hg : W1.grownBy w2 r) (hne : r ≠ some g) (e0 : W1.heap = W0.heap) : Rd w2 (some ⟨g, 0, none⟩) xs := by
  intro j u hj
  obtain ⟨b, o, e1, hl, hc⟩ := h j u hj
  injection e1 with e1
  injection e1 with e1 e2
  subst e1 e2
  have hs := hg.size
  have hb := hg.block g (by rw [e0]; exact hl) (fun e => hne e.symm)
  rw [e0] at hs hb
  exact ⟨g, 0, rfl, Nat.lt_of_lt_of_le hl hs, (World.cell?_of_block (w := W0) (a := ⟨g, 0 + j, none⟩) hb).trans hc⟩

/-- What Put of the document's hold leaves where it comes to its end. -/
theorem rpt_main {T : TypeId} {S : Nat → Prop} {b i B n c4 : Nat} {h : Hk} {t : Tx} {w w4 : World} {cs : Array Value} {L : List Tv} {A A4 : Option Addr} {c : Nat} (hi : i < 3) (hSb : S b) (hS : ∀ k, S k → k < w.heap.size) (hwB : w.heap.size ≤ B) (hcs : Hs S w h cs) (hbk : Bk w b T cs) (hT1 : 36 ≠ T)
    (hm : L.map Tv.t = h.q i) (hL : ∀ x ∈ L, Wk S w x) (hb4 : Below w.heap.size w w4) (ho4 : w4.ownsRow B 36 6 (.slice A4 (n + 1) c4) (n + 1) (txs L ++ Tv.cells ⟨t, A, c⟩)) (hx : Wk S w ⟨t, A, c⟩) :
    PtPost T S b { h with q := upd h.q i (h.q i ++ [t]) } 0 w (.returned (.int .i64 0)) (w4.setCell ⟨b, 3 + i, none⟩ (.slice A4 (n + 1) c4)) := by
  have hblt := hbk.lt
  have hk4 : Kp (· = b) w w4 := (Kp.of_below hb4).mono (fun i hi (h : w.heap.size ≤ i) => absurd hi (by omega))
  have hk : Kp (· = b) w (w4.setCell ⟨b, 3 + i, none⟩ (.slice A4 (n + 1) c4)) := hk4.set1 _ _
  have hTS : ∀ k, k = b → S k := fun k e => by rw [e]; exact hSb
  have hbk4 := hbk.below hb4 hblt
  refine ⟨hk, rfl, hSb, _, hbk4.put _ _, ?_⟩
  have hw : ∀ x ∈ L ++ [(⟨t, A, c⟩ : Tv)], Wk S (w4.setCell ⟨b, 3 + i, none⟩ (.slice A4 (n + 1) c4)) x := by
    intro x hx'
    rcases List.mem_append.mp hx' with hx' | hx'
    · exact (hL x hx').kp hk hTS
    · have : x = ⟨t, A, c⟩ := by simpa using hx'
      subst this
      exact hx.kp hk hTS
  have ho4' := own_kp ho4 ((Kp.refl (· = b) w4).set1 (3 + i) (.slice A4 (n + 1) c4)) (fun g hg e => own_ne_bk ho4 hbk4 hT1 (by rw [hg, e]))
  have hcells : txs L ++ Tv.cells ⟨t, A, c⟩ = txs (L ++ [⟨t, A, c⟩]) := by rw [txs_append]; simp [txs]
  rw [hcells] at ho4'
  have hts := ts_of_own (S := S) ho4' (fun k hk => Nat.lt_of_lt_of_le (hS k hk) hwB) hw
  rw [List.map_append, hm] at hts
  exact Hs.putQ (hcs.kp hk hTS) hi hts

set_option maxRecDepth 100000 in
set_option maxHeartbeats 1000000 in
theorem rput_bad {S : Nat → Prop} (b : Nat) (h : Hk) (x : Tv) (w : World) (H : HAt 49 S w b h) (hx : Wk S w x) (hn : x.t.ws.length ≤ 1000000) (hc : x.t.check ≠ 0) :
    Calls Try.prog 11 #[.pointer (some ⟨b, 0, none⟩), .agg #[.int .i64 x.t.o, .int .i64 x.t.s, .int .i64 x.t.d0, .int .i64 x.t.d1, .int .i64 x.t.d2, .slice x.A x.t.ws.length x.c]] w (PtPost 49 S b h x.t.check w) := by
  have HH := Lib.hid H
  have B0 := Lib.hid ((Below.refl w.heap.size w).alloc (Nat.le_refl _) (.cells #[.int .i64 x.t.o, .int .i64 x.t.s, .int .i64 x.t.d0, .int .i64 x.t.d1, .int .i64 x.t.d2, .slice x.A x.t.ws.length x.c] 36))
  have HX := Lib.hid (hx.below B0.out)
  have D0 := Lib.hid (Bk.new w 36 #[.int .i64 x.t.o, .int .i64 x.t.s, .int .i64 x.t.d0, .int .i64 x.t.d1, .int .i64 x.t.d2, .slice x.A x.t.ws.length x.c])
  have tc : (x.t.check != 0) = true := by simpa using hc
  clear H hx hc
  go_enter Try.func11, Try.ntmps11
  go_wp2_with (fail)
  refine (rcheck_any x _ HX.out.sh.rd (by omega)).mono ?_
  rintro e w1 ⟨rfl, hb⟩
  have B1 := Lib.hid (B0.out.trans (hb.mono B0.out.size))
  have D1 := Lib.hid (D0.out.below hb D0.out.lt)
  have HX1 := Lib.hid (HX.out.below hb)
  obtain ⟨⟨p0, p1, p2, p3, p4, p5⟩, _⟩ := bk6 D1.out
  clear hb B0 D0
  go_wp2_with (fail)
  refine (rcheck_any x _ HX1.out.sh.rd (by omega)).mono ?_
  rintro e w2 ⟨rfl, hb⟩
  have B2 := Lib.hid (B1.out.trans (hb.mono B1.out.size))
  clear hb
  go_wp2_with (fail)
  go_ret
  exact pt_same HH.out B2.out

set_option maxRecDepth 100000 in
set_option maxHeartbeats 4000000 in
theorem rput_good {S : Nat → Prop} (b i : Nat) (hi : i < 3) (h : Hk) (s d0 d1 d2 : Int) (ws : List Wr) (A : Option Addr) (c : Nat) (w : World) (H : HAt 49 S w b h) (hS : ∀ k, S k → k < w.heap.size) (hok : h.ok) (hx : Wk S w ⟨⟨i, s, d0, d1, d2, ws⟩, A, c⟩) (hn : ws.length ≤ 1000000) (hc : Tx.check ⟨i, s, d0, d1, d2, ws⟩ = 0) :
    Calls Try.prog 11 #[.pointer (some ⟨b, 0, none⟩), .agg #[.int .i64 i, .int .i64 s, .int .i64 d0, .int .i64 d1, .int .i64 d2, .slice A ws.length c]] w (PtPost 49 S b (h.put ⟨i, s, d0, d1, d2, ws⟩).1 (h.put ⟨i, s, d0, d1, d2, ws⟩).2 w) := by
  have hlt := H.lt
  obtain ⟨ha0, ha1⟩ := hok.a i hi
  have hn8 := hok.n i hi
  have hput : h.put ⟨i, s, d0, d1, d2, ws⟩ = if s ≠ h.a i + (h.q i).length + 1 then (h, 6) else if 8 ≤ (h.q i).length then (h, 7) else ({ h with q := upd h.q i (h.q i ++ [⟨i, s, d0, d1, d2, ws⟩]) }, 0) := by
    unfold Hk.put
    rw [if_neg (by simp [hc])]
    simp only [Int.toNat_natCast]
  have HH := Lib.hid H
  have HS := Lib.hid hS
  have D0 := Lib.hid (Bk.new w 36 #[.int .i64 i, .int .i64 s, .int .i64 d0, .int .i64 d1, .int .i64 d2, .slice A ws.length c])
  have B0 := Lib.hid ((Below.refl w.heap.size w).alloc (Nat.le_refl _) (.cells #[.int .i64 i, .int .i64 s, .int .i64 d0, .int .i64 d1, .int .i64 d2, .slice A ws.length c] 36))
  have HX := Lib.hid (hx.below B0.out)
  have HX0 := Lib.hid hx
  have HC := Lib.hid hc
  have HPu := Lib.hid hput
  have hi3 : (i : Int) < 3 := by omega
  clear H hx hc hput hS hok
  go_enter Try.func11, Try.ntmps11
  go_wp2_with (fail)
  refine (rcheck_any ⟨⟨i, s, d0, d1, d2, ws⟩, A, c⟩ _ HX.out.sh.rd (by dsimp only; omega)).mono ?_
  rintro e w1 ⟨he, hb⟩
  obtain rfl : e = .returned (.int .i64 0) := he.trans (by dsimp only; rw [HC.out])
  have D1 := Lib.hid (D0.out.below hb D0.out.lt)
  have B1 := Lib.hid (B0.out.trans (hb.mono B0.out.size))
  have HX1 := Lib.hid (HX.out.below hb)
  have H1 := Lib.hid (HH.out.below B1.out)
  obtain ⟨⟨p0, p1, p2, p3, p4, p5⟩, _⟩ := bk6 D1.out
  clear he hb D0 B0 HX
  by_cases hs : s = h.a i + ((h.q i).length : Int) + 1
  · have ts : (s != h.a i + ((h.q i).length : Int) + 1) = false := by simp [hs]
    have HS0 := Lib.hid hs
    clear hs
    go_wp2_with (fail)
    go_quiet ((go_at_call 22; exact Calls.quiet_of (rnext_in b i hi h _ (hat_dq H1.out _) ha0 ha1 (by omega))))
    go_wp2_with (fail)
    have BW := Lib.hid (below_dq B1.out nq)
    have DW : Hid (Bk (w1.drewN nq) w.heap.size 36 #[.int .i64 i, .int .i64 s, .int .i64 d0, .int .i64 d1, .int .i64 d2, .slice A ws.length c]) := D1.out
    have HXW := Lib.hid (HX1.out.below (below_dq (Below.refl _ w1) nq))
    generalize w1.drewN nq = W at *
    have HW := Lib.hid (HH.out.below BW.out)
    clear D1 B1 HX1 H1 p0 p1 p2 p3 p4 p5
    obtain ⟨⟨p0, p1, p2, p3, p4, p5⟩, _⟩ := bk6 DW.out
    obtain ⟨Aq, cq, rq⟩ := HW.out.qu hi
    by_cases h8 : 8 ≤ (h.q i).length
    · have t8 : decide ((8 : Int) ≤ ((h.q i).length : Int)) = true := by simp; omega
      have t8n : decide (8 ≤ (h.q i).length) = true := by simpa using h8
      have HE : Hid (h.put ⟨i, s, d0, d1, d2, ws⟩ = (h, 7)) := by unfold Hid; rw [HPu.out, if_neg (by simp [HS0.out]), if_pos (by omega)]
      clear ts h8
      go_quiet (fail)
      go_wp2_with (fail)
      go_ret
      rw [HE.out]
      exact pt_same HH.out (below_dq BW.out _)
    · have t8 : decide ((8 : Int) ≤ ((h.q i).length : Int)) = false := by simp; omega
      have t8n : decide (8 ≤ (h.q i).length) = false := by simpa using h8
      have HE : Hid (h.put ⟨i, s, d0, d1, d2, ws⟩ = ({ h with q := upd h.q i (h.q i ++ [⟨i, s, d0, d1, d2, ws⟩]) }, 0)) := by unfold Hid; rw [HPu.out, if_neg (by simp [HS0.out]), if_neg (by omega)]
      clear ts h8
      go_quiet (fail)
      go_wp2_with (fail)
      have BW2 := Lib.hid (below_dq BW.out nq)
      have DW2 : Hid (Bk (W.drewN nq) w.heap.size 36 #[.int .i64 i, .int .i64 s, .int .i64 d0, .int .i64 d1, .int .i64 d2, .slice A ws.length c]) := DW.out
      clear HXW HW rq BW DW p0 p1 p2 p3 p4 p5
      generalize W.drewN nq = W at *
      have BW := BW2
      have DW := DW2
      clear BW2 DW2
      obtain ⟨⟨p0, p1, p2, p3, p4, p5⟩, _⟩ := bk6 DW.out
      obtain ⟨cs, hbk, hcs⟩ := HH.out.row
      obtain ⟨v, hv1, hv2⟩ := hcs.que i hi
      obtain ⟨A1, c1, L, rfl, hc1, hnil, hm, hsh, hwk⟩ := hv2.row
      have hLn : (h.q i).length = L.length := by rw [← hm, List.length_map]
      rw [hLn] at hv1 hc1 hnil
      have hL8 : L.length ≤ 8 := by omega
      have hbkW := hbk.below BW.out hlt
      have r0 : W.cell? ⟨b, 3 + i, none⟩ = some (.slice A1 L.length c1) := (hbkW.cell _).trans hv1
      have HRd := Lib.hid (hsh.rd.below BW.out)
      have HNil : Hid (A1 = none → L.length = 0) := fun e => (hnil e).1
      have HSt : Hid (∀ W', Below W.heap.size W W' → W'.cell? ⟨w.heap.size, 0, none⟩ = some (.int .i64 i) ∧ W'.cell? ⟨w.heap.size, 1, none⟩ = some (.int .i64 s) ∧ W'.cell? ⟨w.heap.size, 2, none⟩ = some (.int .i64 d0) ∧ W'.cell? ⟨w.heap.size, 3, none⟩ = some (.int .i64 d1) ∧ W'.cell? ⟨w.heap.size, 4, none⟩ = some (.int .i64 d2) ∧ W'.cell? ⟨w.heap.size, 5, none⟩ = some (.slice A ws.length c) ∧ W'.cell? ⟨b, 3 + i, none⟩ = some (.slice A1 L.length c1)) := by
        intro W' hW'
        obtain ⟨⟨y0, y1, y2, y3, y4, y5⟩, _⟩ := bk6 (DW.out.below hW' DW.out.lt)
        exact ⟨y0, y1, y2, y3, y4, y5, (hW'.cell (p := ⟨b, 3 + i, none⟩) hbkW.lt).trans r0⟩
      have hne : w.heap.size ≠ b := by omega
      have HBx : Hid (∀ W', Below W.heap.size W W' → ∀ u, (W'.setCell ⟨b, 3 + i, none⟩ u).cell? ⟨w.heap.size, 0, none⟩ = some (.int .i64 i) ∧ (W'.setCell ⟨b, 3 + i, none⟩ u).cell? ⟨w.heap.size, 1, none⟩ = some (.int .i64 s) ∧ (W'.setCell ⟨b, 3 + i, none⟩ u).cell? ⟨w.heap.size, 2, none⟩ = some (.int .i64 d0) ∧ (W'.setCell ⟨b, 3 + i, none⟩ u).cell? ⟨w.heap.size, 3, none⟩ = some (.int .i64 d1) ∧ (W'.setCell ⟨b, 3 + i, none⟩ u).cell? ⟨w.heap.size, 4, none⟩ = some (.int .i64 d2) ∧ (W'.setCell ⟨b, 3 + i, none⟩ u).cell? ⟨w.heap.size, 5, none⟩ = some (.slice A ws.length c)) := by
        intro W' hW' u
        obtain ⟨y, _⟩ := bk6 ((DW.out.below hW' DW.out.lt).far (p := ⟨b, 3 + i, none⟩) hne u)
        exact y
      have HLM := Lib.hid hm
      have HLW := Lib.hid hwk
      have HCs := Lib.hid hcs
      have HBk := Lib.hid hbk
      have HSb : Hid (S b) := HH.out.mem
      obtain ⟨i0, hi0, hz0, hz1, hz2⟩ := info_parts Try.infoTx
      clear hbk hcs hv1 hv2 hnil hm hsh hwk hLn hbkW
      refine wp_region_M (fun W' => W'.cell? ⟨w.heap.size, 0, none⟩ = some (.int .i64 i) ∧ W'.cell? ⟨w.heap.size, 1, none⟩ = some (.int .i64 s) ∧ W'.cell? ⟨w.heap.size, 2, none⟩ = some (.int .i64 d0) ∧ W'.cell? ⟨w.heap.size, 3, none⟩ = some (.int .i64 d1) ∧ W'.cell? ⟨w.heap.size, 4, none⟩ = some (.int .i64 d2) ∧ W'.cell? ⟨w.heap.size, 5, none⟩ = some (.slice A ws.length c) ∧ W'.cell? ⟨b, 3 + i, none⟩ = some (.slice A1 L.length c1)) 18 (by kernel_rfl) ?_
      have HS0 : Hid (W.drew.cell? ⟨w.heap.size, 0, none⟩ = some (.int .i64 i) ∧ W.drew.cell? ⟨w.heap.size, 1, none⟩ = some (.int .i64 s) ∧ W.drew.cell? ⟨w.heap.size, 2, none⟩ = some (.int .i64 d0) ∧ W.drew.cell? ⟨w.heap.size, 3, none⟩ = some (.int .i64 d1) ∧ W.drew.cell? ⟨w.heap.size, 4, none⟩ = some (.int .i64 d2) ∧ W.drew.cell? ⟨w.heap.size, 5, none⟩ = some (.slice A ws.length c) ∧ W.drew.cell? ⟨b, 3 + i, none⟩ = some (.slice A1 L.length c1)) := ⟨p0, p1, p2, p3, p4, p5, r0⟩
      have BA : Hid (Below W.heap.size W (W.alloc (.cells #[] 36))) := (Below.refl _ _).alloc (Nat.le_refl _) _
      have BC : Hid (Below W.heap.size W (W.alloc (.cells #[.int .i64 i, .int .i64 s, .int .i64 d0, .int .i64 d1, .int .i64 d2, .slice A ws.length c] 36))) := (Below.refl _ _).alloc (Nat.le_refl _) _
      have BAC : Hid (Below W.heap.size W ((W.alloc (.cells #[] 36)).alloc (.cells #[.int .i64 i, .int .i64 s, .int .i64 d0, .int .i64 d1, .int .i64 d2, .slice A ws.length c] 36))) := BA.out.alloc BA.out.size _
      have BCA : Hid (Below W.heap.size W ((W.alloc (.cells #[.int .i64 i, .int .i64 s, .int .i64 d0, .int .i64 d1, .int .i64 d2, .slice A ws.length c] 36)).alloc (.cells #[] 36))) := BC.out.alloc BC.out.size _
      have nA : Hid ((W.alloc (.cells #[] 36)).ownsRow W.heap.size 36 6 (.slice (some ⟨W.heap.size, 0, none⟩) 0 0) 0 []) := World.ownsRow_lit W #[] 0 (Nat.le_refl _) (by simp) rfl
      have nAC : Hid (((W.alloc (.cells #[] 36)).alloc (.cells #[.int .i64 i, .int .i64 s, .int .i64 d0, .int .i64 d1, .int .i64 d2, .slice A ws.length c] 36)).ownsRow W.heap.size 36 6 (.slice (some ⟨W.heap.size, 0, none⟩) 0 0) 0 []) := own_new nA.out ((Below.refl _ _).alloc (Nat.le_refl _) _)
      have nCA : Hid (((W.alloc (.cells #[.int .i64 i, .int .i64 s, .int .i64 d0, .int .i64 d1, .int .i64 d2, .slice A ws.length c] 36)).alloc (.cells #[] 36)).ownsRow W.heap.size 36 6 (.slice (some ⟨W.heap.size + 1, 0, none⟩) 0 0) 0 []) := by
        have h := World.ownsRow_lit (W.alloc (.cells #[.int .i64 i, .int .i64 s, .int .i64 d0, .int .i64 d1, .int .i64 d2, .slice A ws.length c] 36)) (e := 36) (size := 6) #[] 0 (Nat.le_refl _) (by simp) rfl
        rw [World.size_alloc] at h
        exact own_lower h (by omega)
      have HLen : Hid ((txs L).length = L.length * 6) := txs_length L
      have hCA : Bk ((W.alloc (.cells #[] 36)).alloc (.cells #[.int .i64 i, .int .i64 s, .int .i64 d0, .int .i64 d1, .int .i64 d2, .slice A ws.length c] 36)) (W.heap.size + 1) 36 #[.int .i64 i, .int .i64 s, .int .i64 d0, .int .i64 d1, .int .i64 d2, .slice A ws.length c] := by
        have h := Bk.new (W.alloc (.cells #[] 36)) 36 #[.int .i64 i, .int .i64 s, .int .i64 d0, .int .i64 d1, .int .i64 d2, .slice A ws.length c]
        rw [World.size_alloc] at h
        exact h
      have hCC : Bk ((W.alloc (.cells #[.int .i64 i, .int .i64 s, .int .i64 d0, .int .i64 d1, .int .i64 d2, .slice A ws.length c] 36)).alloc (.cells #[] 36)) W.heap.size 36 #[.int .i64 i, .int .i64 s, .int .i64 d0, .int .i64 d1, .int .i64 d2, .slice A ws.length c] := (Bk.new W _ _).alloc _
      refine wpAnyM_take (i := 0) (oi := ({ dst := Option.some 26, op := Go.Op.move (Go.Operand.tmp 0), type := 31, pos := "ref.go:51", after := #[], guard := Option.none } : Go.Oper)) (v := ?tv0) rfl (by kernel_rfl) (by kernel_rfl) (by kernel_rfl) (by decide) (by kernel_rfl) (fun _ _ _ h => h) (HS0.out) (Or.inl ⟨by rfl, ?thy0⟩) ?trest0
      case thy0 =>
        intro w' hSw
        try dsimp only at hSw
        go_simp
        with_reducible rfl
      try simp only [Act.put, List.setIfInBounds_toArray, List.set_cons_zero, List.set_cons_succ]
      refine wpAnyM_take (i := 1) (oi := ({ dst := Option.some 27, op := Go.Op.fieldAddr 36 (Go.Operand.tmp 3) 0, type := 0, pos := "ref.go:51", after := #[], guard := Option.none } : Go.Oper)) (v := ?tv1) rfl (by kernel_rfl) (by kernel_rfl) (by kernel_rfl) (by decide) (by kernel_rfl) (fun _ _ _ h => h) (HS0.out) (Or.inl ⟨by rfl, ?thy1⟩) ?trest1
      case thy1 =>
        intro w' hSw
        try dsimp only at hSw
        go_simp
        with_reducible rfl
      try simp only [Act.put, List.setIfInBounds_toArray, List.set_cons_zero, List.set_cons_succ]
      refine wpAnyM_take (i := 2) (oi := ({ dst := Option.some 28, op := Go.Op.load 3 (Go.Operand.tmp 27), type := 3, pos := "ref.go:51", after := #[{ on := 1, ground := Go.Ground.data }], guard := Option.none } : Go.Oper)) (v := ?tv2) rfl (by kernel_rfl) (by kernel_rfl) (by kernel_rfl) (by decide) (by kernel_rfl) (fun _ _ _ h => h) (HS0.out) (Or.inl ⟨by rfl, ?thy2⟩) ?trest2
      case thy2 =>
        intro w' hSw
        try dsimp only at hSw
        go_simp
        with_reducible rfl
      try simp only [Act.put, List.setIfInBounds_toArray, List.set_cons_zero, List.set_cons_succ]
      refine wpAnyM_take (i := 4) (oi := ({ dst := Option.some 30, op := Go.Op.move (Go.Operand.tmp 0), type := 31, pos := "ref.go:51", after := #[], guard := Option.none } : Go.Oper)) (v := ?tv4) rfl (by kernel_rfl) (by kernel_rfl) (by kernel_rfl) (by decide) (by kernel_rfl) (fun _ _ _ h => h) (HS0.out) (Or.inl ⟨by rfl, ?thy4⟩) ?trest4
      case thy4 =>
        intro w' hSw
        try dsimp only at hSw
        go_simp
        with_reducible rfl
      try simp only [Act.put, List.setIfInBounds_toArray, List.set_cons_zero, List.set_cons_succ]
      refine wpAnyM_take (i := 5) (oi := ({ dst := Option.some 31, op := Go.Op.fieldAddr 36 (Go.Operand.tmp 3) 0, type := 0, pos := "ref.go:51", after := #[], guard := Option.none } : Go.Oper)) (v := ?tv5) rfl (by kernel_rfl) (by kernel_rfl) (by kernel_rfl) (by decide) (by kernel_rfl) (fun _ _ _ h => h) (HS0.out) (Or.inl ⟨by rfl, ?thy5⟩) ?trest5
      case thy5 =>
        intro w' hSw
        try dsimp only at hSw
        go_simp
        with_reducible rfl
      try simp only [Act.put, List.setIfInBounds_toArray, List.set_cons_zero, List.set_cons_succ]
      refine wpAnyM_take (i := 6) (oi := ({ dst := Option.some 32, op := Go.Op.load 3 (Go.Operand.tmp 31), type := 3, pos := "ref.go:51", after := #[{ on := 5, ground := Go.Ground.data }], guard := Option.none } : Go.Oper)) (v := ?tv6) rfl (by kernel_rfl) (by kernel_rfl) (by kernel_rfl) (by decide) (by kernel_rfl) (fun _ _ _ h => h) (HS0.out) (Or.inl ⟨by rfl, ?thy6⟩) ?trest6
      case thy6 =>
        intro w' hSw
        try dsimp only at hSw
        go_simp
        with_reducible rfl
      try simp only [Act.put, List.setIfInBounds_toArray, List.set_cons_zero, List.set_cons_succ]
      refine wpAnyM_take (i := 7) (oi := ({ dst := Option.some 33, op := Go.Op.nilCheck (Go.Operand.tmp 30), type := 0, pos := "ref.go:51", after := #[{ on := 4, ground := Go.Ground.data }], guard := Option.none } : Go.Oper)) (v := ?tv7) rfl (by kernel_rfl) (by kernel_rfl) (by kernel_rfl) (by decide) (by kernel_rfl) (fun _ _ _ h => h) (HS0.out) (Or.inl ⟨by rfl, ?thy7⟩) ?trest7
      case thy7 =>
        intro w' hSw
        try dsimp only at hSw
        go_simp
        with_reducible rfl
      try simp only [Act.put, List.setIfInBounds_toArray, List.set_cons_zero, List.set_cons_succ]
      refine wpAnyM_take (i := 8) (oi := ({ dst := Option.some 34, op := Go.Op.fieldAddr 49 (Go.Operand.tmp 33) 1, type := 0, pos := "ref.go:51", after := #[{ on := 7, ground := Go.Ground.data }], guard := Option.none } : Go.Oper)) (v := ?tv8) rfl (by kernel_rfl) (by kernel_rfl) (by kernel_rfl) (by decide) (by kernel_rfl) (fun _ _ _ h => h) (HS0.out) (Or.inl ⟨by rfl, ?thy8⟩) ?trest8
      case thy8 =>
        intro w' hSw
        try dsimp only at hSw
        go_simp
        with_reducible rfl
      try simp only [Act.put, List.setIfInBounds_toArray, List.set_cons_zero, List.set_cons_succ]
      refine wpAnyM_take (i := 9) (oi := ({ dst := Option.some 35, op := Go.Op.indexAddr 47 (Go.Operand.tmp 34) (Go.Operand.tmp 32), type := 0, pos := "ref.go:51", after := #[{ on := 8, ground := Go.Ground.data }, { on := 6, ground := Go.Ground.data }], guard := Option.none } : Go.Oper)) (v := ?tv9) rfl (by kernel_rfl) (by kernel_rfl) (by kernel_rfl) (by decide) (by kernel_rfl) (fun _ _ _ h => h) (HS0.out) (Or.inl ⟨by rfl, ?thy9⟩) ?trest9
      case thy9 =>
        intro w' hSw
        try dsimp only at hSw
        go_simp
        with_reducible rfl
      try simp only [Act.put, List.setIfInBounds_toArray, List.set_cons_zero, List.set_cons_succ]
      refine wpAnyM_take (i := 10) (oi := ({ dst := Option.some 36, op := Go.Op.load 44 (Go.Operand.tmp 35), type := 44, pos := "ref.go:51", after := #[{ on := 9, ground := Go.Ground.data }], guard := Option.none } : Go.Oper)) (v := ?tv10) rfl (by kernel_rfl) (by kernel_rfl) (by kernel_rfl) (by decide) (by kernel_rfl) (fun _ _ _ h => h) (HS0.out) (Or.inl ⟨by rfl, ?thy10⟩) ?trest10
      case thy10 =>
        intro w' hSw
        try dsimp only at hSw
        go_simp
        with_reducible rfl
      try simp only [Act.put, List.setIfInBounds_toArray, List.set_cons_zero, List.set_cons_succ]
      refine wpAnyM_take (i := 12) (oi := ({ dst := Option.some 38, op := Go.Op.load 36 (Go.Operand.tmp 3), type := 36, pos := "ref.go:51", after := #[], guard := Option.none } : Go.Oper)) (v := ?tv12) rfl (by kernel_rfl) (by kernel_rfl) (by kernel_rfl) (by decide) (by kernel_rfl) (fun _ _ _ h => h) (HS0.out) (Or.inl ⟨by rfl, ?thy12⟩) ?trest12
      case thy12 =>
        intro w' hSw
        try dsimp only at hSw
        go_simp
        with_reducible rfl
      try simp only [Act.put, List.setIfInBounds_toArray, List.set_cons_zero, List.set_cons_succ]
      refine wpAnyM_take (i := 15) (oi := ({ dst := Option.some 41, op := Go.Op.nilCheck (Go.Operand.tmp 26), type := 0, pos := "ref.go:51", after := #[{ on := 0, ground := Go.Ground.data }], guard := Option.none } : Go.Oper)) (v := ?tv15) rfl (by kernel_rfl) (by kernel_rfl) (by kernel_rfl) (by decide) (by kernel_rfl) (fun _ _ _ h => h) (HS0.out) (Or.inl ⟨by rfl, ?thy15⟩) ?trest15
      case thy15 =>
        intro w' hSw
        try dsimp only at hSw
        go_simp
        with_reducible rfl
      try simp only [Act.put, List.setIfInBounds_toArray, List.set_cons_zero, List.set_cons_succ]
      refine wpAnyM_take (i := 16) (oi := ({ dst := Option.some 42, op := Go.Op.fieldAddr 49 (Go.Operand.tmp 41) 1, type := 0, pos := "ref.go:51", after := #[{ on := 15, ground := Go.Ground.data }], guard := Option.none } : Go.Oper)) (v := ?tv16) rfl (by kernel_rfl) (by kernel_rfl) (by kernel_rfl) (by decide) (by kernel_rfl) (fun _ _ _ h => h) (HS0.out) (Or.inl ⟨by rfl, ?thy16⟩) ?trest16
      case thy16 =>
        intro w' hSw
        try dsimp only at hSw
        go_simp
        with_reducible rfl
      try simp only [Act.put, List.setIfInBounds_toArray, List.set_cons_zero, List.set_cons_succ]
      refine wpAnyM_two (i := 3) (j := 13) (oi := ({ dst := Option.some 29, op := Go.Op.buildSlice 44 0 #[], type := 44, pos := "ref.go:51", after := #[], guard := Option.none } : Go.Oper)) (oj := ({ dst := Option.some 39, op := Go.Op.buildSlice 44 1 #[(0, Go.Operand.tmp 38)], type := 44, pos := "ref.go:51", after := #[{ on := 12, ground := Go.Ground.data }], guard := Option.none } : Go.Oper)) rfl rfl (by kernel_rfl) (fun K hK => ?_) (fun K hK => ?_)
      · go_simp
        refine hK _ _ (fun _ => HSt.out (W.alloc (.cells #[] 36)) BA.out) ?_
        clear hK K
        refine wpAnyM_two (i := 11) (j := 13) (oi := ({ dst := Option.some 37, op := Go.Op.call { callee := Go.Callee.builtin Go.Builtin.append, args := #[Go.Operand.tmp 29, Go.Operand.tmp 36], argTypes := #[44, 44] }, type := 44, pos := "ref.go:51", after := #[{ on := 3, ground := Go.Ground.data }, { on := 10, ground := Go.Ground.data }], guard := Option.none } : Go.Oper)) (oj := ({ dst := Option.some 39, op := Go.Op.buildSlice 44 1 #[(0, Go.Operand.tmp 38)], type := 44, pos := "ref.go:51", after := #[{ on := 12, ground := Go.Ground.data }], guard := Option.none } : Go.Oper)) rfl rfl (by kernel_rfl) (fun K hK => ?_) (fun K hK => ?_)
        · refine step_app rfl (.tmp 29) (.tmp 36) 44 rfl W.heap.size 36 i0 _ 6 64 Try.underlying44 hi0 hz0 hz1 hz2 rfl (by decide) (.slice (some ⟨W.heap.size, 0, none⟩) 0 0) 0 [] (by simp [Act.eval, Act.put]) (by exact nA.out) A1 L.length c1 (txs L) (by simp [Act.eval, Act.put]) HNil.out HLen.out (by exact HRd.out.below (below_like BA.out rfl rfl rfl rfl)) (txs_one L) (by simp only [maxLen]; omega) (by omega) (by first | (simp; done) | (simp; omega)) ?_
          intro A2 c2 w2 ho2 hg2
          have B2 := Lib.hid (app_new hg2 BA.out (fun g hg => (own_ge nA.out g hg).1) rfl rfl rfl rfl)
          have O2 : Hid (w2.ownsRow W.heap.size 36 6 (.slice A2 L.length c2) L.length (txs L)) := by rw [Nat.zero_add, List.nil_append] at ho2; exact ho2
          have W25 : Hid (Below W.heap.size W (w2.alloc (.cells #[.int .i64 i, .int .i64 s, .int .i64 d0, .int .i64 d1, .int .i64 d2, .slice A ws.length c] 36))) := B2.out.alloc B2.out.size _
          have O25 := Lib.hid (own_new O2.out ((Below.refl w2.heap.size w2).alloc (Nat.le_refl _) (.cells #[.int .i64 i, .int .i64 s, .int .i64 d0, .int .i64 d1, .int .i64 d2, .slice A ws.length c] 36)))
          clear ho2 hg2
          refine hK _ _ (fun _ => HSt.out _ B2.out) ?_
          clear hK K
          try simp only [Act.put, List.setIfInBounds_toArray, List.set_cons_zero, List.set_cons_succ, Nat.zero_add]
          refine wpAnyM_one (i := 13) (oi := ({ dst := Option.some 39, op := Go.Op.buildSlice 44 1 #[(0, Go.Operand.tmp 38)], type := 44, pos := "ref.go:51", after := #[{ on := 12, ground := Go.Ground.data }], guard := Option.none } : Go.Oper)) rfl (by kernel_rfl) (fun K hK => ?_)
          go_simp
          refine hK _ _ (fun _ => HSt.out (w2.alloc (.cells #[.int .i64 i, .int .i64 s, .int .i64 d0, .int .i64 d1, .int .i64 d2, .slice A ws.length c] 36)) W25.out) ?_
          clear hK K
          refine wpAnyM_one (i := 14) (oi := ({ dst := Option.some 40, op := Go.Op.call { callee := Go.Callee.builtin Go.Builtin.append, args := #[Go.Operand.tmp 37, Go.Operand.tmp 39], argTypes := #[44, 44] }, type := 44, pos := "ref.go:51", after := #[{ on := 11, ground := Go.Ground.data }, { on := 13, ground := Go.Ground.data }, { on := 11, ground := Go.Ground.chain }], guard := Option.none } : Go.Oper)) rfl (by kernel_rfl) (fun K hK => ?_)
          refine step_app rfl (.tmp 37) (.tmp 39) 44 rfl W.heap.size 36 i0 _ 6 64 Try.underlying44 hi0 hz0 hz1 hz2 rfl (by decide) (.slice A2 L.length c2) L.length (txs L) (by simp [Act.eval, Act.put]) (by exact O25.out) (some ⟨w2.heap.size, 0, none⟩) 1 1 (Tv.cells ⟨⟨i, s, d0, d1, d2, ws⟩, A, c⟩) (by simp [Act.eval, Act.put]) (fun e => by cases e) rfl (by exact bk_rd (Bk.new w2 _ _)) (by intro u hu; simp [Tv.cells] at hu; rcases hu with rfl | rfl | rfl | rfl | rfl | rfl <;> rfl) (by simp only [maxLen]; omega) (by omega) (by have h9 := W25.out.size; first | omega | (simp; omega) | (simp at h9 ⊢; omega)) ?_
          intro A4 c4 w4 ho4 hg4
          have B4 := Lib.hid (app_new (W0 := w2.alloc (.cells #[.int .i64 i, .int .i64 s, .int .i64 d0, .int .i64 d1, .int .i64 d2, .slice A ws.length c] 36)) hg4 W25.out (fun g hg => (own_ge O25.out g hg).1) rfl rfl rfl rfl)
          have O4 := Lib.hid ho4
          have HS4 := Lib.hid (HSt.out _ B4.out)
          have y6 := HS4.out.2.2.2.2.2.2
          have y7 := (HBk.out.below (BW.out.trans (B4.out.mono BW.out.size)) hlt).free (3 + i)
          clear ho4 hg4
          refine hK _ _ (fun _ => HS4.out) ?_
          clear hK K
          try simp only [Act.put, List.setIfInBounds_toArray, List.set_cons_zero, List.set_cons_succ]
          refine wpAnyM_take (i := 17) (oi := ({ dst := Option.some 43, op := Go.Op.indexAddr 47 (Go.Operand.tmp 42) (Go.Operand.tmp 28), type := 0, pos := "ref.go:51", after := #[{ on := 16, ground := Go.Ground.data }, { on := 2, ground := Go.Ground.data }, { on := 0, ground := Go.Ground.phase }, { on := 1, ground := Go.Ground.phase }, { on := 2, ground := Go.Ground.phase }, { on := 3, ground := Go.Ground.phase }, { on := 4, ground := Go.Ground.phase }, { on := 5, ground := Go.Ground.phase }, { on := 6, ground := Go.Ground.phase }, { on := 7, ground := Go.Ground.phase }, { on := 8, ground := Go.Ground.phase }, { on := 9, ground := Go.Ground.phase }, { on := 10, ground := Go.Ground.phase }, { on := 11, ground := Go.Ground.phase }, { on := 12, ground := Go.Ground.phase }, { on := 13, ground := Go.Ground.phase }, { on := 14, ground := Go.Ground.phase }], guard := Option.none } : Go.Oper)) (v := ?tv17a) rfl (by kernel_rfl) (by kernel_rfl) (by kernel_rfl) (by decide) (by kernel_rfl) (fun _ _ _ h => h) (HS4.out) (Or.inl ⟨by rfl, ?thy17a⟩) ?trest17a
          case thy17a =>
            intro w' hSw
            try dsimp only at hSw
            go_simp
            with_reducible rfl
          try simp only [Act.put, List.setIfInBounds_toArray, List.set_cons_zero, List.set_cons_succ]
          refine wpAnyM_one (i := 18) (oi := ({ dst := Option.none, op := Go.Op.store 44 (Go.Operand.tmp 43) (Go.Operand.tmp 40), type := 0, pos := "ref.go:51", after := #[{ on := 17, ground := Go.Ground.data }, { on := 14, ground := Go.Ground.data }, { on := 14, ground := Go.Ground.chain }, { on := 0, ground := Go.Ground.phase }, { on := 1, ground := Go.Ground.phase }, { on := 2, ground := Go.Ground.phase }, { on := 3, ground := Go.Ground.phase }, { on := 4, ground := Go.Ground.phase }, { on := 5, ground := Go.Ground.phase }, { on := 6, ground := Go.Ground.phase }, { on := 7, ground := Go.Ground.phase }, { on := 8, ground := Go.Ground.phase }, { on := 9, ground := Go.Ground.phase }, { on := 10, ground := Go.Ground.phase }, { on := 11, ground := Go.Ground.phase }, { on := 12, ground := Go.Ground.phase }, { on := 13, ground := Go.Ground.phase }, { on := 14, ground := Go.Ground.phase }], guard := Option.none } : Go.Oper)) rfl (by kernel_rfl) (fun K hK => ?_)
          go_simp
          refine hK _ _ (fun h => absurd rfl h) ?_
          clear hK K
          refine wpAnyM_done (by kernel_rfl) ?_ _
          go_wp2_with (fail)
          go_ret
          rw [HE.out]
          exact rpt_main (t := ⟨i, s, d0, d1, d2, ws⟩) hi HSb.out HS.out BW.out.size HCs.out HBk.out (by decide) HLM.out HLW.out (BW.out.trans (B4.out.mono BW.out.size)) O4.out HX0.out
        · go_simp
          refine hK _ _ (fun _ => HSt.out ((W.alloc (.cells #[] 36)).alloc (.cells #[.int .i64 i, .int .i64 s, .int .i64 d0, .int .i64 d1, .int .i64 d2, .slice A ws.length c] 36)) BAC.out) ?_
          clear hK K
          refine wpAnyM_one (i := 11) (oi := ({ dst := Option.some 37, op := Go.Op.call { callee := Go.Callee.builtin Go.Builtin.append, args := #[Go.Operand.tmp 29, Go.Operand.tmp 36], argTypes := #[44, 44] }, type := 44, pos := "ref.go:51", after := #[{ on := 3, ground := Go.Ground.data }, { on := 10, ground := Go.Ground.data }], guard := Option.none } : Go.Oper)) rfl (by kernel_rfl) (fun K hK => ?_)
          refine step_app rfl (.tmp 29) (.tmp 36) 44 rfl W.heap.size 36 i0 _ 6 64 Try.underlying44 hi0 hz0 hz1 hz2 rfl (by decide) (.slice (some ⟨W.heap.size, 0, none⟩) 0 0) 0 [] (by simp [Act.eval, Act.put]) (by exact nAC.out) A1 L.length c1 (txs L) (by simp [Act.eval, Act.put]) HNil.out HLen.out (by exact HRd.out.below (below_like BAC.out rfl rfl rfl rfl)) (txs_one L) (by simp only [maxLen]; omega) (by omega) (by first | (simp; done) | (simp; omega)) ?_
          intro A2 c2 w2 ho2 hg2
          have B2 := Lib.hid (app_new hg2 BAC.out (fun g hg => (own_ge nAC.out g hg).1) rfl rfl rfl rfl)
          have O2 : Hid (w2.ownsRow W.heap.size 36 6 (.slice A2 L.length c2) L.length (txs L)) := by rw [Nat.zero_add, List.nil_append] at ho2; exact ho2
          have HCx := Lib.hid (Rdk.kpg (bk_rd hCA) hg2 (by simp [Value.ownBlock]) rfl)
          clear ho2 hg2
          refine hK _ _ (fun _ => HSt.out _ B2.out) ?_
          clear hK K
          try simp only [Act.put, List.setIfInBounds_toArray, List.set_cons_zero, List.set_cons_succ, Nat.zero_add]
          refine wpAnyM_one (i := 14) (oi := ({ dst := Option.some 40, op := Go.Op.call { callee := Go.Callee.builtin Go.Builtin.append, args := #[Go.Operand.tmp 37, Go.Operand.tmp 39], argTypes := #[44, 44] }, type := 44, pos := "ref.go:51", after := #[{ on := 11, ground := Go.Ground.data }, { on := 13, ground := Go.Ground.data }, { on := 11, ground := Go.Ground.chain }], guard := Option.none } : Go.Oper)) rfl (by kernel_rfl) (fun K hK => ?_)
          refine step_app rfl (.tmp 37) (.tmp 39) 44 rfl W.heap.size 36 i0 _ 6 64 Try.underlying44 hi0 hz0 hz1 hz2 rfl (by decide) (.slice A2 L.length c2) L.length (txs L) (by simp [Act.eval, Act.put]) (by exact O2.out) (some ⟨W.heap.size + 1, 0, none⟩) 1 1 (Tv.cells ⟨⟨i, s, d0, d1, d2, ws⟩, A, c⟩) (by simp [Act.eval, Act.put]) (fun e => by cases e) rfl (by exact HCx.out) (by intro u hu; simp [Tv.cells] at hu; rcases hu with rfl | rfl | rfl | rfl | rfl | rfl <;> rfl) (by simp only [maxLen]; omega) (by omega) (by have h9 := B2.out.size; first | omega | (simp; omega) | (simp at h9 ⊢; omega)) ?_
          intro A4 c4 w4 ho4 hg4
          have B4 := Lib.hid (app_new (W0 := w2) hg4 B2.out (fun g hg => (own_ge O2.out g hg).1) rfl rfl rfl rfl)
          have O4 := Lib.hid ho4
          have HS4 := Lib.hid (HSt.out _ B4.out)
          have y6 := HS4.out.2.2.2.2.2.2
          have y7 := (HBk.out.below (BW.out.trans (B4.out.mono BW.out.size)) hlt).free (3 + i)
          clear ho4 hg4
          refine hK _ _ (fun _ => HS4.out) ?_
          clear hK K
          try simp only [Act.put, List.setIfInBounds_toArray, List.set_cons_zero, List.set_cons_succ]
          refine wpAnyM_take (i := 17) (oi := ({ dst := Option.some 43, op := Go.Op.indexAddr 47 (Go.Operand.tmp 42) (Go.Operand.tmp 28), type := 0, pos := "ref.go:51", after := #[{ on := 16, ground := Go.Ground.data }, { on := 2, ground := Go.Ground.data }, { on := 0, ground := Go.Ground.phase }, { on := 1, ground := Go.Ground.phase }, { on := 2, ground := Go.Ground.phase }, { on := 3, ground := Go.Ground.phase }, { on := 4, ground := Go.Ground.phase }, { on := 5, ground := Go.Ground.phase }, { on := 6, ground := Go.Ground.phase }, { on := 7, ground := Go.Ground.phase }, { on := 8, ground := Go.Ground.phase }, { on := 9, ground := Go.Ground.phase }, { on := 10, ground := Go.Ground.phase }, { on := 11, ground := Go.Ground.phase }, { on := 12, ground := Go.Ground.phase }, { on := 13, ground := Go.Ground.phase }, { on := 14, ground := Go.Ground.phase }], guard := Option.none } : Go.Oper)) (v := ?tv17b) rfl (by kernel_rfl) (by kernel_rfl) (by kernel_rfl) (by decide) (by kernel_rfl) (fun _ _ _ h => h) (HS4.out) (Or.inl ⟨by rfl, ?thy17b⟩) ?trest17b
          case thy17b =>
            intro w' hSw
            try dsimp only at hSw
            go_simp
            with_reducible rfl
          try simp only [Act.put, List.setIfInBounds_toArray, List.set_cons_zero, List.set_cons_succ]
          refine wpAnyM_one (i := 18) (oi := ({ dst := Option.none, op := Go.Op.store 44 (Go.Operand.tmp 43) (Go.Operand.tmp 40), type := 0, pos := "ref.go:51", after := #[{ on := 17, ground := Go.Ground.data }, { on := 14, ground := Go.Ground.data }, { on := 14, ground := Go.Ground.chain }, { on := 0, ground := Go.Ground.phase }, { on := 1, ground := Go.Ground.phase }, { on := 2, ground := Go.Ground.phase }, { on := 3, ground := Go.Ground.phase }, { on := 4, ground := Go.Ground.phase }, { on := 5, ground := Go.Ground.phase }, { on := 6, ground := Go.Ground.phase }, { on := 7, ground := Go.Ground.phase }, { on := 8, ground := Go.Ground.phase }, { on := 9, ground := Go.Ground.phase }, { on := 10, ground := Go.Ground.phase }, { on := 11, ground := Go.Ground.phase }, { on := 12, ground := Go.Ground.phase }, { on := 13, ground := Go.Ground.phase }, { on := 14, ground := Go.Ground.phase }], guard := Option.none } : Go.Oper)) rfl (by kernel_rfl) (fun K hK => ?_)
          go_simp
          refine hK _ _ (fun h => absurd rfl h) ?_
          clear hK K
          refine wpAnyM_done (by kernel_rfl) ?_ _
          go_wp2_with (fail)
          go_ret
          rw [HE.out]
          exact rpt_main (t := ⟨i, s, d0, d1, d2, ws⟩) hi HSb.out HS.out BW.out.size HCs.out HBk.out (by decide) HLM.out HLW.out (BW.out.trans (B4.out.mono BW.out.size)) O4.out HX0.out
      · go_simp
        refine hK _ _ (fun _ => HSt.out (W.alloc (.cells #[.int .i64 i, .int .i64 s, .int .i64 d0, .int .i64 d1, .int .i64 d2, .slice A ws.length c] 36)) BC.out) ?_
        clear hK K
        refine wpAnyM_one (i := 3) (oi := ({ dst := Option.some 29, op := Go.Op.buildSlice 44 0 #[], type := 44, pos := "ref.go:51", after := #[], guard := Option.none } : Go.Oper)) rfl (by kernel_rfl) (fun K hK => ?_)
        go_simp
        refine hK _ _ (fun _ => HSt.out ((W.alloc (.cells #[.int .i64 i, .int .i64 s, .int .i64 d0, .int .i64 d1, .int .i64 d2, .slice A ws.length c] 36)).alloc (.cells #[] 36)) BCA.out) ?_
        clear hK K
        refine wpAnyM_one (i := 11) (oi := ({ dst := Option.some 37, op := Go.Op.call { callee := Go.Callee.builtin Go.Builtin.append, args := #[Go.Operand.tmp 29, Go.Operand.tmp 36], argTypes := #[44, 44] }, type := 44, pos := "ref.go:51", after := #[{ on := 3, ground := Go.Ground.data }, { on := 10, ground := Go.Ground.data }], guard := Option.none } : Go.Oper)) rfl (by kernel_rfl) (fun K hK => ?_)
        refine step_app rfl (.tmp 29) (.tmp 36) 44 rfl W.heap.size 36 i0 _ 6 64 Try.underlying44 hi0 hz0 hz1 hz2 rfl (by decide) (.slice (some ⟨W.heap.size + 1, 0, none⟩) 0 0) 0 [] (by simp [Act.eval, Act.put]) (by exact nCA.out) A1 L.length c1 (txs L) (by simp [Act.eval, Act.put]) HNil.out HLen.out (by exact HRd.out.below (below_like BCA.out rfl rfl rfl rfl)) (txs_one L) (by simp only [maxLen]; omega) (by omega) (by first | (simp; done) | (simp; omega)) ?_
        intro A2 c2 w2 ho2 hg2
        have B2 := Lib.hid (app_new hg2 BCA.out (fun g hg => (own_ge nCA.out g hg).1) rfl rfl rfl rfl)
        have O2 : Hid (w2.ownsRow W.heap.size 36 6 (.slice A2 L.length c2) L.length (txs L)) := by rw [Nat.zero_add, List.nil_append] at ho2; exact ho2
        have HCx := Lib.hid (Rdk.kpg (bk_rd hCC) hg2 (by simp [Value.ownBlock]) rfl)
        clear ho2 hg2
        refine hK _ _ (fun _ => HSt.out _ B2.out) ?_
        clear hK K
        try simp only [Act.put, List.setIfInBounds_toArray, List.set_cons_zero, List.set_cons_succ, Nat.zero_add]
        refine wpAnyM_one (i := 14) (oi := ({ dst := Option.some 40, op := Go.Op.call { callee := Go.Callee.builtin Go.Builtin.append, args := #[Go.Operand.tmp 37, Go.Operand.tmp 39], argTypes := #[44, 44] }, type := 44, pos := "ref.go:51", after := #[{ on := 11, ground := Go.Ground.data }, { on := 13, ground := Go.Ground.data }, { on := 11, ground := Go.Ground.chain }], guard := Option.none } : Go.Oper)) rfl (by kernel_rfl) (fun K hK => ?_)
        refine step_app rfl (.tmp 37) (.tmp 39) 44 rfl W.heap.size 36 i0 _ 6 64 Try.underlying44 hi0 hz0 hz1 hz2 rfl (by decide) (.slice A2 L.length c2) L.length (txs L) (by simp [Act.eval, Act.put]) (by exact O2.out) (some ⟨W.heap.size, 0, none⟩) 1 1 (Tv.cells ⟨⟨i, s, d0, d1, d2, ws⟩, A, c⟩) (by simp [Act.eval, Act.put]) (fun e => by cases e) rfl (by exact HCx.out) (by intro u hu; simp [Tv.cells] at hu; rcases hu with rfl | rfl | rfl | rfl | rfl | rfl <;> rfl) (by simp only [maxLen]; omega) (by omega) (by have h9 := B2.out.size; first | omega | (simp; omega) | (simp at h9 ⊢; omega)) ?_
        intro A4 c4 w4 ho4 hg4
        have B4 := Lib.hid (app_new (W0 := w2) hg4 B2.out (fun g hg => (own_ge O2.out g hg).1) rfl rfl rfl rfl)
        have O4 := Lib.hid ho4
        have HS4 := Lib.hid (HSt.out _ B4.out)
        have y6 := HS4.out.2.2.2.2.2.2
        have y7 := (HBk.out.below (BW.out.trans (B4.out.mono BW.out.size)) hlt).free (3 + i)
        clear ho4 hg4
        refine hK _ _ (fun _ => HS4.out) ?_
        clear hK K
        try simp only [Act.put, List.setIfInBounds_toArray, List.set_cons_zero, List.set_cons_succ]
        refine wpAnyM_take (i := 17) (oi := ({ dst := Option.some 43, op := Go.Op.indexAddr 47 (Go.Operand.tmp 42) (Go.Operand.tmp 28), type := 0, pos := "ref.go:51", after := #[{ on := 16, ground := Go.Ground.data }, { on := 2, ground := Go.Ground.data }, { on := 0, ground := Go.Ground.phase }, { on := 1, ground := Go.Ground.phase }, { on := 2, ground := Go.Ground.phase }, { on := 3, ground := Go.Ground.phase }, { on := 4, ground := Go.Ground.phase }, { on := 5, ground := Go.Ground.phase }, { on := 6, ground := Go.Ground.phase }, { on := 7, ground := Go.Ground.phase }, { on := 8, ground := Go.Ground.phase }, { on := 9, ground := Go.Ground.phase }, { on := 10, ground := Go.Ground.phase }, { on := 11, ground := Go.Ground.phase }, { on := 12, ground := Go.Ground.phase }, { on := 13, ground := Go.Ground.phase }, { on := 14, ground := Go.Ground.phase }], guard := Option.none } : Go.Oper)) (v := ?tv17c) rfl (by kernel_rfl) (by kernel_rfl) (by kernel_rfl) (by decide) (by kernel_rfl) (fun _ _ _ h => h) (HS4.out) (Or.inl ⟨by rfl, ?thy17c⟩) ?trest17c
        case thy17c =>
          intro w' hSw
          try dsimp only at hSw
          go_simp
          with_reducible rfl
        try simp only [Act.put, List.setIfInBounds_toArray, List.set_cons_zero, List.set_cons_succ]
        refine wpAnyM_one (i := 18) (oi := ({ dst := Option.none, op := Go.Op.store 44 (Go.Operand.tmp 43) (Go.Operand.tmp 40), type := 0, pos := "ref.go:51", after := #[{ on := 17, ground := Go.Ground.data }, { on := 14, ground := Go.Ground.data }, { on := 14, ground := Go.Ground.chain }, { on := 0, ground := Go.Ground.phase }, { on := 1, ground := Go.Ground.phase }, { on := 2, ground := Go.Ground.phase }, { on := 3, ground := Go.Ground.phase }, { on := 4, ground := Go.Ground.phase }, { on := 5, ground := Go.Ground.phase }, { on := 6, ground := Go.Ground.phase }, { on := 7, ground := Go.Ground.phase }, { on := 8, ground := Go.Ground.phase }, { on := 9, ground := Go.Ground.phase }, { on := 10, ground := Go.Ground.phase }, { on := 11, ground := Go.Ground.phase }, { on := 12, ground := Go.Ground.phase }, { on := 13, ground := Go.Ground.phase }, { on := 14, ground := Go.Ground.phase }], guard := Option.none } : Go.Oper)) rfl (by kernel_rfl) (fun K hK => ?_)
        go_simp
        refine hK _ _ (fun h => absurd rfl h) ?_
        clear hK K
        refine wpAnyM_done (by kernel_rfl) ?_ _
        go_wp2_with (fail)
        go_ret
        rw [HE.out]
        exact rpt_main (t := ⟨i, s, d0, d1, d2, ws⟩) hi HSb.out HS.out BW.out.size HCs.out HBk.out (by decide) HLM.out HLW.out (BW.out.trans (B4.out.mono BW.out.size)) O4.out HX0.out
  · have ts : (s != h.a i + ((h.q i).length : Int) + 1) = true := by simpa using hs
    have HE : Hid (h.put ⟨i, s, d0, d1, d2, ws⟩ = (h, 6)) := by unfold Hid; rw [HPu.out, if_pos hs]
    clear hs
    go_wp2_with (fail)
    go_quiet ((go_at_call 22; exact Calls.quiet_of (rnext_in b i hi h _ (hat_dq H1.out _) ha0 ha1 (by omega))))
    go_wp2_with (fail)
    go_ret
    rw [HE.out]
    exact pt_same HH.out (below_dq B1.out _)

theorem rput_any {S : Nat → Prop} (b : Nat) (h : Hk) (x : Tv) (w : World) (H : HAt 49 S w b h) (hS : ∀ k, S k → k < w.heap.size) (hok : h.ok) (hx : Wk S w x) (hn : x.t.ws.length ≤ 1000000) :
    Calls Try.prog 11 #[.pointer (some ⟨b, 0, none⟩), .agg #[.int .i64 x.t.o, .int .i64 x.t.s, .int .i64 x.t.d0, .int .i64 x.t.d1, .int .i64 x.t.d2, .slice x.A x.t.ws.length x.c]] w (PtPost 49 S b (h.put x.t).1 (h.put x.t).2 w) := by
  by_cases hc : x.t.check = 0
  · obtain ⟨c0, c3, _⟩ := check_ok hc
    obtain ⟨⟨o, s, d0, d1, d2, ws⟩, A, c⟩ := x
    dsimp only at *
    obtain ⟨i, rfl⟩ : ∃ i : Nat, o = (i : Int) := ⟨o.toNat, by omega⟩
    exact rput_good b i (by omega) h s d0 d1 d2 ws A c w H hS hok hx hn hc
  · have e : h.put x.t = (h, x.t.check) := by unfold Hk.put; rw [if_pos hc]
    rw [e]
    exact rput_bad b h x w H hx hn hc
end Go.Proofs.Ytiomdclelbjmmaa
