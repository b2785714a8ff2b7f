/-
  Put of the hold.
-/
import Derived.Test.YtiomdclelbjmmaaHoldRTake
import Derived.Test.YtiomdclelbjmmaaHeldM
set_option linter.unusedVariables false
set_option linter.unusedSimpArgs false
namespace Go.Proofs.Ytiomdclelbjmmaa
open Go.RowKit

def Hk.put (h : Hk) (t : Tx) : Hk × Int :=
  if t.check ≠ 0 then (h, t.check) else if t.s ≠ h.a t.o.toNat + (h.q t.o.toNat).length + 1 then (h, 6) else if 8 ≤ (h.q t.o.toNat).length then (h, 7)
  else ({ h with q := upd h.q t.o.toNat (h.q t.o.toNat ++ [t]) }, 0)

theorem Hk.ok.put {h : Hk} (H : h.ok) (t : Tx) : (h.put t).1.ok := by
  unfold Hk.put
  split
  · exact H
  · rename_i h1
    split
    · exact H
    · rename_i h2
      split
      · exact H
      · rename_i h3
        have h1' := Decidable.not_not.mp h1
        have h2' := Decidable.not_not.mp h2
        obtain ⟨c0, c3, _⟩ := check_ok h1'
        obtain ⟨i, hi⟩ : ∃ i : Nat, t.o = (i : Int) := ⟨t.o.toNat, by omega⟩
        rw [hi, Int.toNat_natCast] at h2' h3 ⊢
        have hi3 : i < 3 := by omega
        refine ⟨H.a, fun k hk => ?_, fun k hk => ?_⟩
        · dsimp only
          unfold upd
          split
          · rw [List.length_append]; simp; omega
          · exact H.n k hk
        · by_cases e : k = i
          · subst e
            have eq : upd h.q k (h.q k ++ [t]) k = h.q k ++ [t] := by simp [upd]
            dsimp only
            intro j hj
            have hj' : j < (h.q k ++ [t]).length := by rw [eq] at hj; exact hj
            have ex : (upd h.q k (h.q k ++ [t]) k)[j] = (h.q k ++ [t])[j] := by simp [eq]
            rw [ex]
            rw [List.length_append] at hj'
            simp at hj'
            by_cases hlt : j < (h.q k).length
            · rw [List.getElem_append_left hlt]
              exact H.q k hk j hlt
            · have : j = (h.q k).length := by omega
              subst this
              rw [List.getElem_append_right (Nat.le_refl _)]
              simp only [Nat.sub_self, List.getElem_cons_zero]
              exact ⟨hi, h2', h1'⟩
          · have eq : upd h.q i (h.q i ++ [t]) k = h.q k := by simp [upd, e]
            dsimp only
            intro j hj
            have hj' : j < (h.q k).length := by rw [eq] at hj; exact hj
            have ex : (upd h.q i (h.q i ++ [t]) k)[j] = (h.q k)[j] := by simp [eq]
            rw [ex]
            exact H.q k hk j hj'

/-- What Put leaves. -/
def PtPost (T : TypeId) (S : Nat → Prop) (b : Nat) (h : Hk) (v : Int) (w : World) (e : Ending) (w' : World) : Prop :=
  Kp (· = b) w w' ∧ e = .returned (.int .i64 v) ∧ HAt T S w' b h

theorem pt_same {T : TypeId} {S : Nat → Prop} {b : Nat} {h : Hk} {v : Int} {w w' : World} (H : HAt T S w b h) (hb : Below w.heap.size w w') : PtPost T S b h v w (.returned (.int .i64 v)) w' :=
  ⟨(Kp.of_below hb).mono (fun i hi (h : w.heap.size ≤ i) => absurd hi (by omega)), rfl, H.below hb⟩

theorem hat_dq {T : TypeId} {S : Nat → Prop} {b : Nat} {h : Hk} {w : World} (H : HAt T S w b h) (n : Nat) : HAt T S (w.drewN n) b h := H.below (below_dq (Below.refl _ _) n)

set_option maxRecDepth 100000 in
set_option maxHeartbeats 1000000 in
theorem put_bad {S : Nat → Prop} (b : Nat) (h : Hk) (x : Tv) (w : World) (H : HAt 61 S w b h) (hx : Wk S w x) (hn : x.t.ws.length ≤ 1000000) (hc : x.t.check ≠ 0) :
    Calls Try.prog 10 #[.pointer (some ⟨b, 0, none⟩), .agg #[.int .i64 x.t.o, .int .i64 x.t.s, .int .i64 x.t.d0, .int .i64 x.t.d1, .int .i64 x.t.d2, .slice x.A x.t.ws.length x.c]] w (PtPost 61 S b h x.t.check w) := by
  have HH := Lib.hid H
  have B0 := Lib.hid ((Below.refl w.heap.size w).alloc (Nat.le_refl _) (.cells #[.int .i64 x.t.o, .int .i64 x.t.s, .int .i64 x.t.d0, .int .i64 x.t.d1, .int .i64 x.t.d2, .slice x.A x.t.ws.length x.c] 36))
  have HX := Lib.hid (hx.below B0.out)
  have tc : (x.t.check != 0) = true := by simpa using hc
  clear H hx hc
  go_enter Try.func10, Try.ntmps10
  go_wp2_with (fail)
  refine (check_any x _ HX.out.sh.rd (by omega)).mono ?_
  rintro e w1 ⟨rfl, hb⟩
  have B1 := Lib.hid (B0.out.trans (hb.mono B0.out.size))
  clear hb B0
  go_wp2_with (fail)
  go_ret
  exact pt_same HH.out B1.out

theorem rd_drew {w : World} {A : Option Addr} {xs : List Value} (h : Rd w A xs) : Rd w.drew A xs := h

theorem bk_rd {w : World} {b : Nat} {t : TypeId} {cs : Array Value} (h : Bk w b t cs) : Rd w (some ⟨b, 0, none⟩) cs.toList := by
  intro j u hj
  refine ⟨b, 0, rfl, h.lt, ?_⟩
  rw [Nat.zero_add, h.cell]
  simpa using hj

/-- What Put leaves where it comes to its end. -/
theorem pt_main {T : TypeId} {S : Nat → Prop} {b i B n c2 c3 c4 : Nat} {h : Hk} {t : Tx} {w w3 W5 w4 : World} {cs : Array Value} {L : List Tv} {A2 A3 A4 : Option Addr} (hi : i < 3) (hSb : S b) (hS : ∀ k, S k → k < w.heap.size) (hwB : w.heap.size ≤ B) (hcs : Hs S w h cs) (hbk : Bk w b T cs) (hT1 : 36 ≠ T) (hT2 : 65 ≠ T)
    (hm : L.map Tv.t = h.q i) (hL : ∀ x ∈ L, Wk S w x) (hb3 : Below w.heap.size w w3) (ho3 : w3.ownsRow B 65 3 (.slice A3 t.ws.length c3) t.ws.length (wrs t.ws)) (hb5 : Below w3.heap.size w3 W5) (ho2 : W5.ownsRow B 36 6 (.slice A2 n c2) n (txs L))
    (hg : W5.grownBy w4 (Value.slice A2 n c2).ownBlock) (ho4 : w4.ownsRow B 36 6 (.slice A4 (n + 1) c4) (n + 1) (txs L ++ Tv.cells ⟨t, A3, c3⟩)) :
    PtPost T S b { h with q := upd h.q i (h.q i ++ [t]) } 0 w (.returned (.int .i64 0)) (w4.setCell ⟨b, 3 + i, none⟩ (.slice A4 (n + 1) c4)) := by
  have hblt := hbk.lt
  have hb35 : Below w.heap.size w W5 := hb3.trans (hb5.mono hb3.size)
  have hb4 : Below w.heap.size w w4 := hb35.grown hg hb35.size (fun g hg => by have := (own_ge ho2 g hg).1; omega)
  have hk4 : Kp (· = b) w w4 := (Kp.of_below hb4).mono (fun i hi (h : w.heap.size ≤ i) => absurd hi (by omega))
  have hk : Kp (· = b) w (w4.setCell ⟨b, 3 + i, none⟩ (.slice A4 (n + 1) c4)) := hk4.set1 _ _
  have hTS : ∀ k, k = b → S k := fun k e => by rw [e]; exact hSb
  have hbk4 := hbk.below hb4 hblt
  have ho3' : w4.ownsRow B 65 3 (.slice A3 t.ws.length c3) t.ws.length (wrs t.ws) := by
    have h5 := own_new ho3 hb5
    refine own_kp h5 (Kp.of_grown hg) (fun g hg' e => ?_)
    rcases h5.2 with ⟨hv, _⟩ | ⟨g1, cap1, cur1, hv, _, hh1, _⟩
    · rw [hv] at hg'; simp [Value.ownBlock] at hg'
    · rcases ho2.2 with ⟨hv2, _⟩ | ⟨g2, cap2, cur2, hv2, _, hh2, _⟩
      · rw [hv2] at e; simp [Value.ownBlock] at e
      · rw [hv] at hg'
        rw [hv2] at e
        have e1 : g1 = g := by simpa [Value.ownBlock] using hg'
        have e2 : g = g2 := by simpa [Value.ownBlock] using e
        rw [e1, e2, hh2] at hh1
        simp at hh1
  refine ⟨hk, rfl, hSb, _, hbk4.put _ _, ?_⟩
  have hw : ∀ x ∈ L ++ [(⟨t, A3, c3⟩ : Tv)], Wk S (w4.setCell ⟨b, 3 + i, none⟩ (.slice A4 (n + 1) c4)) x := by
    intro x hx
    rcases List.mem_append.mp hx with hx | hx
    · exact (hL x hx).kp hk hTS
    · have : x = ⟨t, A3, c3⟩ := by simpa using hx
      subst this
      have ho3'' := own_kp ho3' ((Kp.refl (· = b) w4).set1 (3 + i) (.slice A4 (n + 1) c4)) (fun g hg e => own_ne_bk ho3' hbk4 hT2 (by rw [hg, e]))
      refine ⟨Sh.own ho3'' (fun k hk => Nat.lt_of_lt_of_le (hS k hk) hwB), fun e => ?_⟩
      have e' : A3 = none := e
      rcases own_form ho3'' with ⟨_, h0, _⟩ | ⟨g', cap, hv, _⟩
      · exact h0
      · injection hv with hv; rw [e'] at hv; cases hv
  have ho4' := own_kp ho4 ((Kp.refl (· = b) w4).set1 (3 + i) (.slice A4 (n + 1) c4)) (fun g hg e => own_ne_bk ho4 hbk4 hT1 (by rw [hg, e]))
  have hcells : txs L ++ Tv.cells ⟨t, A3, c3⟩ = txs (L ++ [⟨t, A3, c3⟩]) := by rw [txs_append]; simp [txs]
  rw [hcells] at ho4'
  have hts := ts_of_own (S := S) ho4' (fun k hk => Nat.lt_of_lt_of_le (hS k hk) hwB) hw
  rw [List.map_append, hm] at hts
  exact Hs.putQ (hcs.kp hk hTS) hi hts

set_option maxRecDepth 100000 in
set_option maxHeartbeats 4000000 in
theorem put_good {S : Nat → Prop} (b i : Nat) (hi : i < 3) (h : Hk) (s d0 d1 d2 : Int) (ws : List Wr) (A : Option Addr) (c : Nat) (w : World) (H : HAt 61 S w b h) (hS : ∀ k, S k → k < w.heap.size) (hok : h.ok) (hx : Wk S w ⟨⟨i, s, d0, d1, d2, ws⟩, A, c⟩) (hn : ws.length ≤ 1000000) (hc : Tx.check ⟨i, s, d0, d1, d2, ws⟩ = 0) :
    Calls Try.prog 10 #[.pointer (some ⟨b, 0, none⟩), .agg #[.int .i64 i, .int .i64 s, .int .i64 d0, .int .i64 d1, .int .i64 d2, .slice A ws.length c]] w (PtPost 61 S b (h.put ⟨i, s, d0, d1, d2, ws⟩).1 (h.put ⟨i, s, d0, d1, d2, ws⟩).2 w) := by
  have hlt := H.lt
  obtain ⟨ha0, ha1⟩ := hok.a i hi
  have hn8 := hok.n i hi
  have hput : h.put ⟨i, s, d0, d1, d2, ws⟩ = if s ≠ h.a i + (h.q i).length + 1 then (h, 6) else if 8 ≤ (h.q i).length then (h, 7) else ({ h with q := upd h.q i (h.q i ++ [⟨i, s, d0, d1, d2, ws⟩]) }, 0) := by
    unfold Hk.put
    rw [if_neg (by simp [hc])]
    simp only [Int.toNat_natCast]
  have HH := Lib.hid H
  have HS := Lib.hid hS
  have D0 := Lib.hid (Bk.new w 36 #[.int .i64 i, .int .i64 s, .int .i64 d0, .int .i64 d1, .int .i64 d2, .slice A ws.length c])
  have B0 := Lib.hid ((Below.refl w.heap.size w).alloc (Nat.le_refl _) (.cells #[.int .i64 i, .int .i64 s, .int .i64 d0, .int .i64 d1, .int .i64 d2, .slice A ws.length c] 36))
  have HX := Lib.hid (hx.below B0.out)
  have HC := Lib.hid hc
  have HPu := Lib.hid hput
  have hi3 : (i : Int) < 3 := by omega
  clear H hx hc hput hS hok
  go_enter Try.func10, Try.ntmps10
  go_wp2_with (fail)
  refine (check_any ⟨⟨i, s, d0, d1, d2, ws⟩, A, c⟩ _ HX.out.sh.rd (by dsimp only; omega)).mono ?_
  rintro e w1 ⟨he, hb⟩
  obtain rfl : e = .returned (.int .i64 0) := he.trans (by dsimp only; rw [HC.out])
  have D1 := Lib.hid (D0.out.below hb D0.out.lt)
  have B1 := Lib.hid (B0.out.trans (hb.mono B0.out.size))
  have HX1 := Lib.hid (HX.out.below hb)
  have H1 := Lib.hid (HH.out.below B1.out)
  obtain ⟨⟨p0, p1, p2, p3, p4, p5⟩, _⟩ := bk6 D1.out
  clear he hb D0 B0 HX
  by_cases hs : s = h.a i + ((h.q i).length : Int) + 1
  · have ts : (s != h.a i + ((h.q i).length : Int) + 1) = false := by simp [hs]
    have HS0 := Lib.hid hs
    clear hs
    go_wp2_with (fail)
    go_quiet ((go_at_call 21; exact Calls.quiet_of (next_in b i hi h _ (hat_dq H1.out _) ha0 ha1 (by omega))))
    go_wp2_with (fail)
    have BW := Lib.hid (below_dq B1.out nq)
    have DW : Hid (Bk (w1.drewN nq) w.heap.size 36 #[.int .i64 i, .int .i64 s, .int .i64 d0, .int .i64 d1, .int .i64 d2, .slice A ws.length c]) := D1.out
    have HXW := Lib.hid (HX1.out.below (below_dq (Below.refl _ w1) nq))
    generalize w1.drewN nq = W at *
    have HW := Lib.hid (HH.out.below BW.out)
    clear D1 B1 HX1 H1 p0 p1 p2 p3 p4 p5
    obtain ⟨⟨p0, p1, p2, p3, p4, p5⟩, _⟩ := bk6 DW.out
    refine (waiting_in b i hi h _ HW.out).mono ?_
    rintro e W ⟨rfl, rfl⟩
    by_cases h8 : (h.q i).length = 8
    · have t8 : (((h.q i).length : Int) == 8) = true := by simp [h8]
      have HE : Hid (h.put ⟨i, s, d0, d1, d2, ws⟩ = (h, 7)) := by unfold Hid; rw [HPu.out, if_neg (by simp [HS0.out]), if_pos (by omega)]
      clear ts h8
      go_wp2_with (fail)
      go_ret
      rw [HE.out]
      exact pt_same HH.out BW.out
    · have t8 : (((h.q i).length : Int) == 8) = false := by simp; omega
      have HE : Hid (h.put ⟨i, s, d0, d1, d2, ws⟩ = ({ h with q := upd h.q i (h.q i ++ [⟨i, s, d0, d1, d2, ws⟩]) }, 0)) := by unfold Hid; rw [HPu.out, if_neg (by simp [HS0.out]), if_neg (by omega)]
      obtain ⟨cs, hbk, hcs⟩ := HH.out.row
      obtain ⟨v, hv1, hv2⟩ := hcs.que i hi
      obtain ⟨A1, c1, L, rfl, hc1, hnil, hm, hsh, hwk⟩ := hv2.row
      have hLn : (h.q i).length = L.length := by rw [← hm, List.length_map]
      rw [hLn] at hv1 hc1 hnil
      have hL8 : L.length ≤ 8 := by omega
      have hbkW := hbk.below BW.out hlt
      have r0 : W.cell? ⟨b, 3 + i, none⟩ = some (.slice A1 L.length c1) := (hbkW.cell _).trans hv1
      have HRd := Lib.hid (hsh.rd.below BW.out)
      have HNil : Hid (A1 = none → L.length = 0) := fun e => (hnil e).1
      have HSt : Hid (∀ W', Below W.heap.size W W' → W'.cell? ⟨w.heap.size, 0, none⟩ = some (.int .i64 i) ∧ W'.cell? ⟨w.heap.size, 1, none⟩ = some (.int .i64 s) ∧ W'.cell? ⟨w.heap.size, 2, none⟩ = some (.int .i64 d0) ∧ W'.cell? ⟨w.heap.size, 3, none⟩ = some (.int .i64 d1) ∧ W'.cell? ⟨w.heap.size, 4, none⟩ = some (.int .i64 d2) ∧ W'.cell? ⟨w.heap.size, 5, none⟩ = some (.slice A ws.length c) ∧ W'.cell? ⟨b, 3 + i, none⟩ = some (.slice A1 L.length c1)) := by
        intro W' hW'
        obtain ⟨⟨y0, y1, y2, y3, y4, y5⟩, _⟩ := bk6 (DW.out.below hW' DW.out.lt)
        exact ⟨y0, y1, y2, y3, y4, y5, (hW'.cell (p := ⟨b, 3 + i, none⟩) hbkW.lt).trans r0⟩
      have hne : w.heap.size ≠ b := by omega
      have HBx : Hid (∀ W', Below W.heap.size W W' → ∀ u, (W'.setCell ⟨b, 3 + i, none⟩ u).cell? ⟨w.heap.size, 0, none⟩ = some (.int .i64 i) ∧ (W'.setCell ⟨b, 3 + i, none⟩ u).cell? ⟨w.heap.size, 1, none⟩ = some (.int .i64 s) ∧ (W'.setCell ⟨b, 3 + i, none⟩ u).cell? ⟨w.heap.size, 2, none⟩ = some (.int .i64 d0) ∧ (W'.setCell ⟨b, 3 + i, none⟩ u).cell? ⟨w.heap.size, 3, none⟩ = some (.int .i64 d1) ∧ (W'.setCell ⟨b, 3 + i, none⟩ u).cell? ⟨w.heap.size, 4, none⟩ = some (.int .i64 d2) ∧ (W'.setCell ⟨b, 3 + i, none⟩ u).cell? ⟨w.heap.size, 5, none⟩ = some (.slice A ws.length c)) := by
        intro W' hW' u
        obtain ⟨y, _⟩ := bk6 ((DW.out.below hW' DW.out.lt).far (p := ⟨b, 3 + i, none⟩) hne u)
        exact y
      have HLM := Lib.hid hm
      have HLW := Lib.hid hwk
      have HCs := Lib.hid hcs
      have HBk := Lib.hid hbk
      have HSb : Hid (S b) := HH.out.mem
      obtain ⟨i0, hi0, hz0, hz1, hz2⟩ := info_parts Try.infoTx
      clear ts h8 hbk hcs hv1 hv2 hnil hm hsh hwk hLn hbkW
      go_wp2_with (fail)
      refine wp_region_M (fun W' => W'.cell? ⟨w.heap.size, 0, none⟩ = some (.int .i64 i) ∧ W'.cell? ⟨w.heap.size, 1, none⟩ = some (.int .i64 s) ∧ W'.cell? ⟨w.heap.size, 2, none⟩ = some (.int .i64 d0) ∧ W'.cell? ⟨w.heap.size, 3, none⟩ = some (.int .i64 d1) ∧ W'.cell? ⟨w.heap.size, 4, none⟩ = some (.int .i64 d2) ∧ W'.cell? ⟨w.heap.size, 5, none⟩ = some (.slice A ws.length c) ∧ W'.cell? ⟨b, 3 + i, none⟩ = some (.slice A1 L.length c1)) 18 (by kernel_rfl) ?_
      have HS0 : Hid (W.drew.cell? ⟨w.heap.size, 0, none⟩ = some (.int .i64 i) ∧ W.drew.cell? ⟨w.heap.size, 1, none⟩ = some (.int .i64 s) ∧ W.drew.cell? ⟨w.heap.size, 2, none⟩ = some (.int .i64 d0) ∧ W.drew.cell? ⟨w.heap.size, 3, none⟩ = some (.int .i64 d1) ∧ W.drew.cell? ⟨w.heap.size, 4, none⟩ = some (.int .i64 d2) ∧ W.drew.cell? ⟨w.heap.size, 5, none⟩ = some (.slice A ws.length c) ∧ W.drew.cell? ⟨b, 3 + i, none⟩ = some (.slice A1 L.length c1)) := ⟨p0, p1, p2, p3, p4, p5, r0⟩
      refine wpAnyM_take (i := 0) (oi := ({ dst := Option.some 26, op := Go.Op.move (Go.Operand.tmp 0), type := 27, pos := "hold.go:63", after := #[], guard := Option.none } : Go.Oper)) (v := ?tv0) rfl (by kernel_rfl) (by kernel_rfl) (by kernel_rfl) (by decide) (by kernel_rfl) (fun _ _ _ h => h) (HS0.out) (Or.inl ⟨by rfl, ?thy0⟩) ?trest0
      case thy0 =>
        intro w' hSw
        try dsimp only at hSw
        go_simp
        with_reducible rfl
      try simp only [Act.put, List.setIfInBounds_toArray, List.set_cons_zero, List.set_cons_succ]
      refine wpAnyM_take (i := 1) (oi := ({ dst := Option.some 27, op := Go.Op.fieldAddr 36 (Go.Operand.tmp 3) 0, type := 0, pos := "hold.go:63", after := #[], guard := Option.none } : Go.Oper)) (v := ?tv1) rfl (by kernel_rfl) (by kernel_rfl) (by kernel_rfl) (by decide) (by kernel_rfl) (fun _ _ _ h => h) (HS0.out) (Or.inl ⟨by rfl, ?thy1⟩) ?trest1
      case thy1 =>
        intro w' hSw
        try dsimp only at hSw
        go_simp
        with_reducible rfl
      try simp only [Act.put, List.setIfInBounds_toArray, List.set_cons_zero, List.set_cons_succ]
      refine wpAnyM_take (i := 2) (oi := ({ dst := Option.some 28, op := Go.Op.load 3 (Go.Operand.tmp 27), type := 3, pos := "hold.go:63", after := #[{ on := 1, ground := Go.Ground.data }], guard := Option.none } : Go.Oper)) (v := ?tv2) rfl (by kernel_rfl) (by kernel_rfl) (by kernel_rfl) (by decide) (by kernel_rfl) (fun _ _ _ h => h) (HS0.out) (Or.inl ⟨by rfl, ?thy2⟩) ?trest2
      case thy2 =>
        intro w' hSw
        try dsimp only at hSw
        go_simp
        with_reducible rfl
      try simp only [Act.put, List.setIfInBounds_toArray, List.set_cons_zero, List.set_cons_succ]
      refine wpAnyM_take (i := 3) (oi := ({ dst := Option.some 29, op := Go.Op.move (Go.Operand.tmp 0), type := 27, pos := "hold.go:63", after := #[], guard := Option.none } : Go.Oper)) (v := ?tv3) rfl (by kernel_rfl) (by kernel_rfl) (by kernel_rfl) (by decide) (by kernel_rfl) (fun _ _ _ h => h) (HS0.out) (Or.inl ⟨by rfl, ?thy3⟩) ?trest3
      case thy3 =>
        intro w' hSw
        try dsimp only at hSw
        go_simp
        with_reducible rfl
      try simp only [Act.put, List.setIfInBounds_toArray, List.set_cons_zero, List.set_cons_succ]
      refine wpAnyM_take (i := 4) (oi := ({ dst := Option.some 30, op := Go.Op.fieldAddr 36 (Go.Operand.tmp 3) 0, type := 0, pos := "hold.go:63", after := #[], guard := Option.none } : Go.Oper)) (v := ?tv4) rfl (by kernel_rfl) (by kernel_rfl) (by kernel_rfl) (by decide) (by kernel_rfl) (fun _ _ _ h => h) (HS0.out) (Or.inl ⟨by rfl, ?thy4⟩) ?trest4
      case thy4 =>
        intro w' hSw
        try dsimp only at hSw
        go_simp
        with_reducible rfl
      try simp only [Act.put, List.setIfInBounds_toArray, List.set_cons_zero, List.set_cons_succ]
      refine wpAnyM_take (i := 5) (oi := ({ dst := Option.some 31, op := Go.Op.load 3 (Go.Operand.tmp 30), type := 3, pos := "hold.go:63", after := #[{ on := 4, ground := Go.Ground.data }], guard := Option.none } : Go.Oper)) (v := ?tv5) rfl (by kernel_rfl) (by kernel_rfl) (by kernel_rfl) (by decide) (by kernel_rfl) (fun _ _ _ h => h) (HS0.out) (Or.inl ⟨by rfl, ?thy5⟩) ?trest5
      case thy5 =>
        intro w' hSw
        try dsimp only at hSw
        go_simp
        with_reducible rfl
      try simp only [Act.put, List.setIfInBounds_toArray, List.set_cons_zero, List.set_cons_succ]
      refine wpAnyM_take (i := 6) (oi := ({ dst := Option.some 32, op := Go.Op.nilCheck (Go.Operand.tmp 29), type := 0, pos := "hold.go:63", after := #[{ on := 3, ground := Go.Ground.data }], guard := Option.none } : Go.Oper)) (v := ?tv6) rfl (by kernel_rfl) (by kernel_rfl) (by kernel_rfl) (by decide) (by kernel_rfl) (fun _ _ _ h => h) (HS0.out) (Or.inl ⟨by rfl, ?thy6⟩) ?trest6
      case thy6 =>
        intro w' hSw
        try dsimp only at hSw
        go_simp
        with_reducible rfl
      try simp only [Act.put, List.setIfInBounds_toArray, List.set_cons_zero, List.set_cons_succ]
      refine wpAnyM_take (i := 7) (oi := ({ dst := Option.some 33, op := Go.Op.fieldAddr 61 (Go.Operand.tmp 32) 1, type := 0, pos := "hold.go:63", after := #[{ on := 6, ground := Go.Ground.data }], guard := Option.none } : Go.Oper)) (v := ?tv7) rfl (by kernel_rfl) (by kernel_rfl) (by kernel_rfl) (by decide) (by kernel_rfl) (fun _ _ _ h => h) (HS0.out) (Or.inl ⟨by rfl, ?thy7⟩) ?trest7
      case thy7 =>
        intro w' hSw
        try dsimp only at hSw
        go_simp
        with_reducible rfl
      try simp only [Act.put, List.setIfInBounds_toArray, List.set_cons_zero, List.set_cons_succ]
      refine wpAnyM_take (i := 8) (oi := ({ dst := Option.some 34, op := Go.Op.indexAddr 47 (Go.Operand.tmp 33) (Go.Operand.tmp 31), type := 0, pos := "hold.go:63", after := #[{ on := 7, ground := Go.Ground.data }, { on := 5, ground := Go.Ground.data }], guard := Option.none } : Go.Oper)) (v := ?tv8) rfl (by kernel_rfl) (by kernel_rfl) (by kernel_rfl) (by decide) (by kernel_rfl) (fun _ _ _ h => h) (HS0.out) (Or.inl ⟨by rfl, ?thy8⟩) ?trest8
      case thy8 =>
        intro w' hSw
        try dsimp only at hSw
        go_simp
        with_reducible rfl
      try simp only [Act.put, List.setIfInBounds_toArray, List.set_cons_zero, List.set_cons_succ]
      refine wpAnyM_take (i := 9) (oi := ({ dst := Option.some 35, op := Go.Op.load 44 (Go.Operand.tmp 34), type := 44, pos := "hold.go:63", after := #[{ on := 8, ground := Go.Ground.data }], guard := Option.none } : Go.Oper)) (v := ?tv9) rfl (by kernel_rfl) (by kernel_rfl) (by kernel_rfl) (by decide) (by kernel_rfl) (fun _ _ _ h => h) (HS0.out) (Or.inl ⟨by rfl, ?thy9⟩) ?trest9
      case thy9 =>
        intro w' hSw
        try dsimp only at hSw
        go_simp
        with_reducible rfl
      try simp only [Act.put, List.setIfInBounds_toArray, List.set_cons_zero, List.set_cons_succ]
      refine wpAnyM_take (i := 11) (oi := ({ dst := Option.some 37, op := Go.Op.load 36 (Go.Operand.tmp 3), type := 36, pos := "hold.go:63", after := #[], guard := Option.none } : Go.Oper)) (v := ?tv11) rfl (by kernel_rfl) (by kernel_rfl) (by kernel_rfl) (by decide) (by kernel_rfl) (fun _ _ _ h => h) (HS0.out) (Or.inl ⟨by rfl, ?thy11⟩) ?trest11
      case thy11 =>
        intro w' hSw
        try dsimp only at hSw
        go_simp
        with_reducible rfl
      try simp only [Act.put, List.setIfInBounds_toArray, List.set_cons_zero, List.set_cons_succ]
      refine wpAnyM_take (i := 15) (oi := ({ dst := Option.some 41, op := Go.Op.nilCheck (Go.Operand.tmp 26), type := 0, pos := "hold.go:63", after := #[{ on := 0, ground := Go.Ground.data }], guard := Option.none } : Go.Oper)) (v := ?tv15) rfl (by kernel_rfl) (by kernel_rfl) (by kernel_rfl) (by decide) (by kernel_rfl) (fun _ _ _ h => h) (HS0.out) (Or.inl ⟨by rfl, ?thy15⟩) ?trest15
      case thy15 =>
        intro w' hSw
        try dsimp only at hSw
        go_simp
        with_reducible rfl
      try simp only [Act.put, List.setIfInBounds_toArray, List.set_cons_zero, List.set_cons_succ]
      refine wpAnyM_take (i := 16) (oi := ({ dst := Option.some 42, op := Go.Op.fieldAddr 61 (Go.Operand.tmp 41) 1, type := 0, pos := "hold.go:63", after := #[{ on := 15, ground := Go.Ground.data }], guard := Option.none } : Go.Oper)) (v := ?tv16) rfl (by kernel_rfl) (by kernel_rfl) (by kernel_rfl) (by decide) (by kernel_rfl) (fun _ _ _ h => h) (HS0.out) (Or.inl ⟨by rfl, ?thy16⟩) ?trest16
      case thy16 =>
        intro w' hSw
        try dsimp only at hSw
        go_simp
        with_reducible rfl
      try simp only [Act.put, List.setIfInBounds_toArray, List.set_cons_zero, List.set_cons_succ]
      refine wpAnyM_one (i := 10) (oi := ({ dst := Option.some 36, op := Go.Op.call { callee := Go.Callee.value (Go.Operand.func 30), args := #[Go.Operand.tmp 35], argTypes := #[44] }, type := 44, pos := "hold.go:63", after := #[{ on := 9, ground := Go.Ground.data }], guard := Option.none } : Go.Oper)) rfl (by kernel_rfl) (fun K hK => ?_)
      go_simp
      go_at_call 30
      refine (clone_ts A1 c1 L _ (rd_drew HRd.out) HNil.out (by omega)).mono ?_
      rintro e w2 ⟨A2, c2, rfl, ho2, hb2⟩
      have B2 : Hid (Below W.heap.size W w2) := below_un hb2
      have O2 : Hid (w2.ownsRow W.heap.size 36 6 (.slice A2 L.length c2) L.length (txs L)) := ho2
      clear ho2 hb2
      refine hK _ _ (fun _ => HSt.out _ B2.out) ?_
      clear hK K
      refine wpAnyM_one (i := 12) (oi := ({ dst := Option.some 38, op := Go.Op.call { callee := Go.Callee.value (Go.Operand.func 31), args := #[Go.Operand.tmp 37], argTypes := #[36] }, type := 36, pos := "hold.go:63", after := #[{ on := 11, ground := Go.Ground.data }, { on := 10, ground := Go.Ground.chain }], guard := Option.none } : Go.Oper)) rfl (by kernel_rfl) (fun K hK => ?_)
      go_simp
      go_at_call 31
      refine (own_any ⟨⟨i, s, d0, d1, d2, ws⟩, A, c⟩ _ (HXW.out.sh.rd.below B2.out) HXW.out.nil (by dsimp only; omega)).mono ?_
      rintro e w3 ⟨A3, c3, rfl, ho3, hb23⟩
      have B3 := Lib.hid (B2.out.trans (hb23.mono B2.out.size))
      have O3 : Hid (w3.ownsRow W.heap.size 65 3 (.slice A3 ws.length c3) ws.length (wrs ws)) := own_lower ho3 B2.out.size
      have O23 := Lib.hid (own_new O2.out hb23)
      have B34 := Lib.hid (B3.out.alloc B3.out.size (.cells #[.int .i64 i, .int .i64 s, .int .i64 d0, .int .i64 d1, .int .i64 d2, .slice A3 ws.length c3] 36))
      have W5 : Hid (Below w3.heap.size w3 (w3.alloc (.cells #[.int .i64 i, .int .i64 s, .int .i64 d0, .int .i64 d1, .int .i64 d2, .slice A3 ws.length c3] 36))) := (Below.refl _ _).alloc (Nat.le_refl _) _
      have O25 := Lib.hid (own_new O23.out W5.out)
      clear ho3 hb23
      refine hK _ _ (fun _ => HSt.out _ B3.out) ?_
      clear hK K
      refine wpAnyM_one (i := 13) (oi := ({ dst := Option.some 39, op := Go.Op.buildSlice 44 1 #[(0, Go.Operand.tmp 38)], type := 44, pos := "hold.go:63", after := #[{ on := 12, ground := Go.Ground.data }], guard := Option.none } : Go.Oper)) rfl (by kernel_rfl) (fun K hK => ?_)
      go_simp
      refine hK _ _ (fun _ => HSt.out _ B34.out) ?_
      clear hK K
      refine wpAnyM_one (i := 14) (oi := ({ dst := Option.some 40, op := Go.Op.call { callee := Go.Callee.builtin Go.Builtin.append, args := #[Go.Operand.tmp 36, Go.Operand.tmp 39], argTypes := #[44, 44] }, type := 44, pos := "hold.go:63", after := #[{ on := 10, ground := Go.Ground.data }, { on := 13, ground := Go.Ground.data }, { on := 12, ground := Go.Ground.chain }], guard := Option.none } : Go.Oper)) rfl (by kernel_rfl) (fun K hK => ?_)
      refine step_app rfl (.tmp 36) (.tmp 39) 44 rfl W.heap.size 36 i0 _ 6 64 Try.underlying44 hi0 hz0 hz1 hz2 rfl (by decide) (.slice A2 L.length c2) L.length (txs L) (by simp [Act.eval, Act.put]) (by exact O25.out) (some ⟨w3.heap.size, 0, none⟩) 1 1 (Tv.cells ⟨⟨i, s, d0, d1, d2, ws⟩, A3, c3⟩) (by simp [Act.eval, Act.put]) (fun e => by cases e) rfl (by exact bk_rd (Bk.new w3 _ _)) (by intro u hu; simp [Tv.cells] at hu; rcases hu with rfl | rfl | rfl | rfl | rfl | rfl <;> rfl) (by simp only [maxLen]; omega) (by omega) (by have h9 := B3.out.size; simp; omega) ?_
      intro A4 c4 w4 ho4 hg4
      have B4 := Lib.hid (B34.out.grown hg4 B34.out.size (fun g hg => (own_ge O25.out g hg).1))
      have O4 := Lib.hid ho4
      have G4 := Lib.hid hg4
      have HS4 := Lib.hid (HSt.out _ B4.out)
      have y6 := HS4.out.2.2.2.2.2.2
      have y7 := (HBk.out.below (BW.out.trans (B4.out.mono BW.out.size)) hlt).free (3 + i)
      clear ho4 hg4
      refine hK _ _ (fun _ => HS4.out) ?_
      clear hK K
      try simp only [Act.put, List.setIfInBounds_toArray, List.set_cons_zero, List.set_cons_succ]
      refine wpAnyM_take (i := 17) (oi := ({ dst := Option.some 43, op := Go.Op.indexAddr 47 (Go.Operand.tmp 42) (Go.Operand.tmp 28), type := 0, pos := "hold.go:63", after := #[{ on := 16, ground := Go.Ground.data }, { on := 2, ground := Go.Ground.data }, { on := 0, ground := Go.Ground.phase }, { on := 1, ground := Go.Ground.phase }, { on := 2, ground := Go.Ground.phase }, { on := 3, ground := Go.Ground.phase }, { on := 4, ground := Go.Ground.phase }, { on := 5, ground := Go.Ground.phase }, { on := 6, ground := Go.Ground.phase }, { on := 7, ground := Go.Ground.phase }, { on := 8, ground := Go.Ground.phase }, { on := 9, ground := Go.Ground.phase }, { on := 10, ground := Go.Ground.phase }, { on := 11, ground := Go.Ground.phase }, { on := 12, ground := Go.Ground.phase }, { on := 13, ground := Go.Ground.phase }, { on := 14, ground := Go.Ground.phase }], guard := Option.none } : Go.Oper)) (v := ?tv17) rfl (by kernel_rfl) (by kernel_rfl) (by kernel_rfl) (by decide) (by kernel_rfl) (fun _ _ _ h => h) (HS4.out) (Or.inl ⟨by rfl, ?thy17⟩) ?trest17
      case thy17 =>
        intro w' hSw
        try dsimp only at hSw
        go_simp
        with_reducible rfl
      try simp only [Act.put, List.setIfInBounds_toArray, List.set_cons_zero, List.set_cons_succ]
      refine wpAnyM_one (i := 18) (oi := ({ dst := Option.none, op := Go.Op.store 44 (Go.Operand.tmp 43) (Go.Operand.tmp 40), type := 0, pos := "hold.go:63", after := #[{ on := 17, ground := Go.Ground.data }, { on := 14, ground := Go.Ground.data }, { on := 14, ground := Go.Ground.chain }, { on := 0, ground := Go.Ground.phase }, { on := 1, ground := Go.Ground.phase }, { on := 2, ground := Go.Ground.phase }, { on := 3, ground := Go.Ground.phase }, { on := 4, ground := Go.Ground.phase }, { on := 5, ground := Go.Ground.phase }, { on := 6, ground := Go.Ground.phase }, { on := 7, ground := Go.Ground.phase }, { on := 8, ground := Go.Ground.phase }, { on := 9, ground := Go.Ground.phase }, { on := 10, ground := Go.Ground.phase }, { on := 11, ground := Go.Ground.phase }, { on := 12, ground := Go.Ground.phase }, { on := 13, ground := Go.Ground.phase }, { on := 14, ground := Go.Ground.phase }], guard := Option.none } : Go.Oper)) rfl (by kernel_rfl) (fun K hK => ?_)
      go_simp
      refine hK _ _ (fun h => absurd rfl h) ?_
      clear hK K
      refine wpAnyM_done (by kernel_rfl) ?_ _
      all_goals go_wp2_with (fail)
      all_goals go_ret
      all_goals rw [HE.out]
      all_goals exact pt_main (t := ⟨i, s, d0, d1, d2, ws⟩) (w3 := w3) (W5 := w3.alloc (.cells #[.int .i64 i, .int .i64 s, .int .i64 d0, .int .i64 d1, .int .i64 d2, .slice A3 ws.length c3] 36)) hi HSb.out HS.out BW.out.size HCs.out HBk.out (by decide) (by decide) HLM.out HLW.out (BW.out.trans (B3.out.mono BW.out.size)) O3.out W5.out O25.out G4.out O4.out
  · have ts : (s != h.a i + ((h.q i).length : Int) + 1) = true := by simpa using hs
    have HE : Hid (h.put ⟨i, s, d0, d1, d2, ws⟩ = (h, 6)) := by unfold Hid; rw [HPu.out, if_pos hs]
    clear hs
    go_wp2_with (fail)
    go_quiet ((go_at_call 21; exact Calls.quiet_of (next_in b i hi h _ (hat_dq H1.out _) ha0 ha1 (by omega))))
    go_wp2_with (fail)
    go_ret
    rw [HE.out]
    exact pt_same HH.out (below_dq B1.out _)

theorem put_any {S : Nat → Prop} (b : Nat) (h : Hk) (x : Tv) (w : World) (H : HAt 61 S w b h) (hS : ∀ k, S k → k < w.heap.size) (hok : h.ok) (hx : Wk S w x) (hn : x.t.ws.length ≤ 1000000) :
    Calls Try.prog 10 #[.pointer (some ⟨b, 0, none⟩), .agg #[.int .i64 x.t.o, .int .i64 x.t.s, .int .i64 x.t.d0, .int .i64 x.t.d1, .int .i64 x.t.d2, .slice x.A x.t.ws.length x.c]] w (PtPost 61 S b (h.put x.t).1 (h.put x.t).2 w) := by
  by_cases hc : x.t.check = 0
  · obtain ⟨c0, c3, _⟩ := check_ok hc
    obtain ⟨⟨o, s, d0, d1, d2, ws⟩, A, c⟩ := x
    dsimp only at *
    obtain ⟨i, rfl⟩ : ∃ i : Nat, o = (i : Int) := ⟨o.toNat, by omega⟩
    exact put_good b i (by omega) h s d0 d1 d2 ws A c w H hS hok hx hn hc
  · have e : h.put x.t = (h, x.t.check) := by unfold Hk.put; rw [if_pos hc]
    rw [e]
    exact put_bad b h x w H hx hn hc
end Go.Proofs.Ytiomdclelbjmmaa
