/-
  Take of the document's hold.
-/
import Derived.Test.YtiomdclelbjmmaaHoldTake
set_option linter.unusedVariables false
set_option linter.unusedSimpArgs false
namespace Go.Proofs.Ytiomdclelbjmmaa
open Go.RowKit

theorem bk_far {w : World} {b : Nat} {t : TypeId} {cs : Array Value} {j : Nat} {x : Value} (hk : Bk w b t cs) (q : w.cell? ⟨b, j, none⟩ = some x) (k : Nat) (o : Obj) : ((w.drewN k).alloc o).cell? ⟨b, j, none⟩ = some x := by
  have := ((hk.drewN k).alloc o).cell j
  rw [this, ← hk.cell j]
  exact q

/-- A row of the call's own shows transactions. -/
theorem ts_of_own {S : Nat → Prop} {W : World} {B n c : Nat} {A : Option Addr} {L : List Tv} (ho : W.ownsRow B 36 6 (.slice A n c) n (txs L)) (hS : ∀ k, S k → k < B) (hw : ∀ x ∈ L, Wk S W x) : Ts S W (.slice A n c) (L.map Tv.t) := by
  have hn : n = L.length := by have := ho.1; rw [txs_length] at this; omega
  subst hn
  refine ⟨A, c, L, by rw [List.length_map], ?_, ?_, rfl, Sh.own ho hS, hw⟩
  · rw [List.length_map]
    rcases own_form ho with ⟨hv, h0, _⟩ | ⟨g, cap, hv, _, _, h1, _⟩
    · omega
    · injection hv with _ _ hv; omega
  · intro e
    rw [List.length_map]
    rcases own_form ho with ⟨hv, h0, _⟩ | ⟨g, cap, hv, _, _, h1, _⟩
    · injection hv with _ _ hv; exact ⟨h0, hv⟩
    · injection hv with hv; rw [e] at hv; cases hv

theorem rtk_some {T : TypeId} {S : Nat → Prop} {h : Hk} {w w3 W4 W5 W : World} {b i B n c3 : Nat} {A3 : Option Addr} {t : Tx} {rest : List Tx} {A : Option Addr} {c : Nat} {cs : Array Value} {L : List Tv} (hi : i < 3) (hp : h.peek = some i) (hq : h.q i = t :: rest) (hSb : S b) (hcs : Hs S w h cs)
    (hm : L.map Tv.t = rest) (hL : ∀ x ∈ L, Wk S w x) (hb : Below w.heap.size w w3) (ho : w3.ownsRow B 36 6 (.slice A3 n c3) n (txs L)) (k1 : Kp (· = b) w3 W4) (k2 : Kp (· = b) W4 W5) (k3 : Kp (· = w.heap.size) W5 W) (hbB : b < B) (heB : w.heap.size < B)
    (hbk : Bk W b T ((cs.setIfInBounds (3 + i) (.slice A3 n c3)).setIfInBounds i (.int .i64 (h.a i + 1)))) (hwk : Wk S W ⟨t, A, c⟩) (hts : t.s = h.a i + 1) (hS : ∀ k, S k → k < w.heap.size) (hwB : w.heap.size ≤ B) :
    TkPost T S b h w (.returned (.tuple #[.agg #[.int .i64 t.o, .int .i64 t.s, .int .i64 t.d0, .int .i64 t.d1, .int .i64 t.d2, .slice A t.ws.length c], .bool true])) W := by
  have hk := tk_kp hb k1 k2 k3
  have ho1 := own_kp ho k1 (fun g hg e => by have := (own_ge ho g hg).1; omega)
  have ho2 := own_kp ho1 k2 (fun g hg e => by have := (own_ge ho1 g hg).1; omega)
  have ho3 := own_kp ho2 k3 (fun g hg e => by have := (own_ge ho2 g hg).1; omega)
  have hT : ∀ k, k = b → S k := fun k e => by rw [e]; exact hSb
  have hts' := ts_of_own (S := S) ho3 (fun k hk => Nat.lt_of_lt_of_le (hS k hk) hwB) (fun x hx => (hL x hx).kp hk hT)
  rw [hm] at hts'
  refine ⟨hk, .inr ⟨i, t, rest, A, c, hi, hp, hq, rfl, hwk, hSb, _, hbk, ?_⟩⟩
  rw [hts]
  exact Hs.putA (Hs.putQ (hcs.kp hk hT) hi hts') hi (h.a i + 1)

set_option maxRecDepth 100000 in
set_option maxHeartbeats 1000000 in
theorem rtake_none {S : Nat → Prop} (b : Nat) (h : Hk) (w : World) (H : HAt 49 S w b h) (hS : ∀ k, S k → k < w.heap.size) (hok : h.ok) (hp : h.peek = none) :
    Calls Try.prog 13 #[.pointer (some ⟨b, 0, none⟩)] w (TkPost 49 S b h w) := by
  have hlt := H.lt
  have HH := Lib.hid H
  have HS := Lib.hid hS
  have HO := Lib.hid hok
  have HP := Lib.hid hp
  have E0 := Lib.hid (Bk.new w 36 #[.int .i64 0, .int .i64 0, .int .i64 0, .int .i64 0, .int .i64 0, .slice none 0 0])
  have B0 := Lib.hid ((Below.refl w.heap.size w).alloc (Nat.le_refl _) (.cells #[.int .i64 0, .int .i64 0, .int .i64 0, .int .i64 0, .int .i64 0, .slice none 0 0] 36))
  have H0 := Lib.hid (H.below B0.out)
  have HS0 : Hid (∀ k, S k → k < (w.alloc (.cells #[.int .i64 0, .int .i64 0, .int .i64 0, .int .i64 0, .int .i64 0, .slice none 0 0] 36)).heap.size) := fun k hk => Nat.lt_of_lt_of_le (hS k hk) B0.out.size
  clear H hS hok hp
  go_enter Try.func13, Try.ntmps13
  go_wp2_with (fail)
  refine (rpeek_any b h _ H0.out HS0.out HO.out.ws HO.out.len).mono ?_
  rintro e w1 ⟨hb, ⟨hp, rfl⟩ | ⟨i, t, rest, A, c, hi, hp, hq, rfl, hwk⟩⟩
  · have E1 := Lib.hid (E0.out.below hb E0.out.lt)
    have B1 := Lib.hid (B0.out.trans (hb.mono B0.out.size))
    clear hb H0 E0 B0 HS0 hp
    obtain ⟨⟨e0, e1, e2, e3, e4, e5⟩, g0, g1, g2, g3, g4, g5⟩ := bk6 E1.out
    have hlt2 := E1.out.lt
    have hne : w.heap.size ≠ w1.heap.size := by omega
    go_wp2_with (fail)
    have hG := (set6_bk E1.out (.int .i64 0) (.int .i64 0) (.int .i64 0) (.int .i64 0) (.int .i64 0) (.slice none 0 0)).alloc (.cells #[.int .i64 0, .int .i64 0, .int .i64 0, .int .i64 0, .int .i64 0, .slice none 0 0] 36)
    have hB := (set6_below B1.out (Nat.le_refl _) (.int .i64 0) (.int .i64 0) (.int .i64 0) (.int .i64 0) (.int .i64 0) (.slice none 0 0)).alloc (by have := (set6_below B1.out (Nat.le_refl _) (.int .i64 0) (.int .i64 0) (.int .i64 0) (.int .i64 0) (.int .i64 0) (.slice none 0 0)).size; exact this) (.cells #[.int .i64 0, .int .i64 0, .int .i64 0, .int .i64 0, .int .i64 0, .slice none 0 0] 36)
    obtain ⟨⟨z0, z1, z2, z3, z4, z5⟩, _⟩ := bk6 hG
    unfold set6 at z0 z1 z2 z3 z4 z5
    clear e0 e1 e2 e3 e4 e5 g0 g1 g2 g3 g4 g5
    refine bodyPost_ret (v := .tuple #[.agg #[.int .i64 0, .int .i64 0, .int .i64 0, .int .i64 0, .int .i64 0, .slice none 0 0], .bool false]) (by simp only [results, Try.results13]; simp [go_sem, z0, z1, z2, z3, z4, z5]) rfl ?_
    exact tk_none HH.out HP.out hB
  · rw [HP.out] at hp
    cases hp

set_option maxRecDepth 100000 in
set_option maxHeartbeats 4000000 in
theorem rtake_some {S : Nat → Prop} (b : Nat) (h : Hk) (w : World) (H : HAt 49 S w b h) (hS : ∀ k, S k → k < w.heap.size) (hok : h.ok) (hp0 : h.peek ≠ none) :
    Calls Try.prog 13 #[.pointer (some ⟨b, 0, none⟩)] w (TkPost 49 S b h w) := by
  have hlt := H.lt
  obtain ⟨cs, hbk, hcs⟩ := H.row
  have HH := Lib.hid H
  have HK := Lib.hid hbk
  have HC := Lib.hid hcs
  have HS := Lib.hid hS
  have HO := Lib.hid hok
  have HP := Lib.hid hp0
  have E0 := Lib.hid (Bk.new w 36 #[.int .i64 0, .int .i64 0, .int .i64 0, .int .i64 0, .int .i64 0, .slice none 0 0])
  have B0 := Lib.hid ((Below.refl w.heap.size w).alloc (Nat.le_refl _) (.cells #[.int .i64 0, .int .i64 0, .int .i64 0, .int .i64 0, .int .i64 0, .slice none 0 0] 36))
  have H0 := Lib.hid (H.below B0.out)
  have HS0 : Hid (∀ k, S k → k < (w.alloc (.cells #[.int .i64 0, .int .i64 0, .int .i64 0, .int .i64 0, .int .i64 0, .slice none 0 0] 36)).heap.size) := fun k hk => Nat.lt_of_lt_of_le (hS k hk) B0.out.size
  clear H hS hok hp0 hbk hcs
  go_enter Try.func13, Try.ntmps13
  go_wp2_with (fail)
  refine (rpeek_any b h _ H0.out HS0.out HO.out.ws HO.out.len).mono ?_
  rintro e w1 ⟨hb, ⟨hp, rfl⟩ | ⟨i, t, rest, A, c, hi, hp, hq, rfl, hwk⟩⟩
  · exact absurd hp HP.out
  · obtain ⟨_, hto, hts⟩ := HO.out.took hi hq
    obtain ⟨o, s, d0, d1, d2, ws⟩ := t
    dsimp only at hto hts
    subst hto
    have HTS := Lib.hid hts
    have hak := HO.out.a i hi
    obtain ⟨ha0, ha1⟩ := hak
    have E1 := Lib.hid (E0.out.below hb E0.out.lt)
    have B1 := Lib.hid (B0.out.trans (hb.mono B0.out.size))
    have HPk := Lib.hid hp
    have HQ := Lib.hid hq
    have HWk := Lib.hid hwk
    have L1 := E1.out.lt
    clear hb H0 E0 B0 HS0 hp hq hwk hts
    have D2 := Lib.hid (Bk.new w1 36 #[.int .i64 i, .int .i64 s, .int .i64 d0, .int .i64 d1, .int .i64 d2, .slice A ws.length c])
    have E2 := Lib.hid (E1.out.alloc (.cells #[.int .i64 i, .int .i64 s, .int .i64 d0, .int .i64 d1, .int .i64 d2, .slice A ws.length c] 36))
    have BX := (Below.refl w1.heap.size w1).alloc (Nat.le_refl _) (.cells #[.int .i64 i, .int .i64 s, .int .i64 d0, .int .i64 d1, .int .i64 d2, .slice A ws.length c] 36)
    have HW2 := Lib.hid (HWk.out.below BX)
    have B2 := Lib.hid (B1.out.trans (BX.mono B1.out.size))
    clear BX E1 B1 HWk
    go_wp2_with (fail)
    generalize w1.alloc (.cells #[.int .i64 i, .int .i64 s, .int .i64 d0, .int .i64 d1, .int .i64 d2, .slice A ws.length c] 36) = W2 at *
    have L2 := D2.out.lt
    generalize hcc : w1.heap.size = cc at *
    clear hcc
    obtain ⟨v, hv1, hv2⟩ := HC.out.que i hi
    rw [HQ.out] at hv2
    obtain ⟨A1, c1, L, rfl, hlc, _⟩ := hv2.row
    simp only [List.length_cons] at hlc hv1 hv2
    obtain ⟨x, g, o, hx, rfl, hg, _, _, _, _, _, _, _⟩ := ts_head hv2
    have hTl := ts_tail hv2 rfl
    have hbk2 := HK.out.below B2.out hlt
    have r0 : W2.cell? ⟨b, 3 + i, none⟩ = some (.slice (some ⟨g, o, none⟩) (rest.length + 1) c1) := (hbk2.cell _).trans hv1
    have r1 := hbk2.free (3 + i)
    have K2 := Lib.hid hbk2
    have HV := Lib.hid hv1
    obtain ⟨⟨p0, p1, p2, p3, p4, p5⟩, _⟩ := bk6 D2.out
    have hi3 : (i : Int) < 3 := by omega
    have nbc : cc ≠ b := by omega
    have nbc2 : b ≠ cc := by omega
    have nbe : w.heap.size ≠ b := by omega
    have hblt : b < W2.heap.size := hbk2.lt
    have q1 := bk_far hbk2 r0
    have HSb : Hid (S b) := HH.out.mem
    obtain ⟨i0, hi0, hz0, hz1, hz2⟩ := info_parts Try.infoTx
    have hown : Hid ((W2.alloc (.cells #[] 36)).ownsRow W2.heap.size 36 6 (.slice (some ⟨W2.heap.size, 0, none⟩) 0 0) 0 []) := World.ownsRow_lit W2 #[] 0 (Nat.le_refl _) (by simp) rfl
    have HAl : Hid (Below W2.heap.size W2 (W2.alloc (.cells #[] 36))) := (Below.refl _ _).alloc (Nat.le_refl _) _
    have hn8 := HO.out.n i hi
    rw [HQ.out, List.length_cons] at hn8
    obtain ⟨At, ct, LL, hv9, hc9, _, hm9, hs9, hw9⟩ := hTl.row
    have hLen : LL.length = rest.length := by rw [← hm9, List.length_map]
    have HLM := Lib.hid hm9
    have HLW := Lib.hid hw9
    have HLen : Hid ((txs LL).length = rest.length * 6) := by unfold Hid; rw [txs_length, hLen]
    have D22 := D2.out.far (p := ⟨b, 3 + i, none⟩) nbc (.int .i64 0)
    have pA := fun k o => bk_far D2.out p0 k o
    by_cases hc1 : c1 = 1
    · subst hc1
      rw [if_pos rfl] at hv9
      injection hv9 with hA9 hv9a hv9b
      obtain rfl : rest = [] := List.eq_nil_of_length_eq_zero (by omega)
      simp only [List.length_nil, Nat.zero_add] at r0 q1 HLen hLen HV
      have HRd : Hid (Rd W2 (some ⟨g, o, none⟩) (txs LL)) := by rw [hA9]; exact hs9.rd.below B2.out
      clear hbk2 hv1 hv2 hTl hx D22 hm9 hw9 hs9 hA9 hc9 hv9a hv9b
      go_region_law (refine step_app rfl (.tmp 15) (.tmp 23) 44 rfl W2.heap.size 36 i0 _ 6 64 Try.underlying44 hi0 hz0 hz1 hz2 rfl (by decide) (.slice (some ⟨W2.heap.size, 0, none⟩) 0 0) 0 [] (by simp [Act.eval, Act.put]) (by exact hown.out) (some ⟨g, o, none⟩) 0 0 (txs LL) (by simp [Act.eval, Act.put]) (fun e => by cases e) HLen.out (by exact HRd.out.below (below_like HAl.out rfl rfl rfl rfl)) (txs_one _) (by simp only [maxLen]; omega) (by omega) (by simp) ?_; intro A3 c3 w3 hown3 hgrow3; have HB3 := Lib.hid (app_new hgrow3 HAl.out (fun g hg => (own_ge hown.out g hg).1) rfl rfl rfl rfl); have HO3 := Lib.hid hown3; have K3 := Lib.hid (K2.out.below HB3.out K2.out.lt); have s0 := (K3.out.cell (3 + i)).trans HV.out; have s1 := K3.out.free (3 + i); have s2 := (D2.out.below HB3.out D2.out.lt).cell 0; simp only [List.getElem?_toArray, List.getElem?_cons_zero] at s2; clear hown3 hgrow3)
      all_goals
        have D3 := Lib.hid (D2.out.below HB3.out D2.out.lt)
        have E3 := Lib.hid (E2.out.below HB3.out E2.out.lt)
        have HW3 := Lib.hid (HW2.out.below HB3.out)
        generalize hW4 : w3.setCell ⟨b, 3 + i, none⟩ (.slice A3 (0 + 0) c3) = W4 at *
        have K4 : Hid (Bk W4 b 49 (cs.setIfInBounds (3 + i) (.slice A3 (0 + 0) c3))) := by rw [← hW4]; exact K3.out.put _ _
        have K34 : Hid (Kp (· = b) w3 W4) := by rw [← hW4]; exact (Kp.refl _ w3).set1 _ _
        have D4 := Lib.hid (D3.out.kp K34.out nbc)
        have E4 := Lib.hid (E3.out.kp K34.out nbe)
        have HW4 := Lib.hid (HW3.out.kp K34.out (fun k e => by rw [e]; exact HSb.out))
        have hsz := HC.out.size
        have r2 : W4.cell? ⟨b, i, none⟩ = some (.int .i64 (h.a i)) := (K4.out.cell i).trans ((set_at _ _ _ _ (by omega)).trans ((if_neg (by omega)).trans (HC.out.app i hi)))
        have r3 := K4.out.free i
        clear hW4 r0 r1 p0 p1 p2 p3 p4 p5 hsz s0 s1 s2
        obtain ⟨⟨p0, p1, p2, p3, p4, p5⟩, _⟩ := bk6 D4.out
        go_wp2_with (fail)
        go_region
        generalize hW5 : (W4.setCell ⟨b, i, none⟩ (.int .i64 (h.a i + 1))).drew = W5 at *
        have K5 : Hid (Bk W5 b 49 ((cs.setIfInBounds (3 + i) (.slice A3 (0 + 0) c3)).setIfInBounds i (.int .i64 (h.a i + 1)))) := by rw [← hW5]; exact K4.out.put _ _
        have K45 : Hid (Kp (· = b) W4 W5) := by rw [← hW5]; exact ((Kp.refl _ W4).set1 _ _).drew
        have D5 := Lib.hid (D4.out.kp K45.out nbc)
        have E5 := Lib.hid (E4.out.kp K45.out nbe)
        have HW5 := Lib.hid (HW4.out.kp K45.out (fun k e => by rw [e]; exact HSb.out))
        clear hW5 r2 r3 p0 p1 p2 p3 p4 p5
        obtain ⟨⟨p0, p1, p2, p3, p4, p5⟩, _⟩ := bk6 D5.out
        obtain ⟨⟨e0, e1, e2, e3, e4, e5⟩, g0, g1, g2, g3, g4, g5⟩ := bk6 E5.out
        go_wp2_with (fail)
        have hG := set6_bk E5.out (.int .i64 i) (.int .i64 s) (.int .i64 d0) (.int .i64 d1) (.int .i64 d2) (.slice A ws.length c)
        have K56 : Kp (· = w.heap.size) W5 (set6 W5 w.heap.size (.int .i64 i) (.int .i64 s) (.int .i64 d0) (.int .i64 d1) (.int .i64 d2) (.slice A ws.length c)) := set6_kp (S := (· = w.heap.size)) (Kp.refl _ W5) (.inl rfl) _ _ _ _ _ _
        obtain ⟨⟨z0, z1, z2, z3, z4, z5⟩, _⟩ := bk6 hG
        unfold set6 at z0 z1 z2 z3 z4 z5
        clear e0 e1 e2 e3 e4 e5 g0 g1 g2 g3 g4 g5 p0 p1 p2 p3 p4 p5
        refine bodyPost_ret (v := .tuple #[.agg #[.int .i64 i, .int .i64 s, .int .i64 d0, .int .i64 d1, .int .i64 d2, .slice A ws.length c], .bool true]) (by simp only [results, Try.results13]; simp [go_sem, z0, z1, z2, z3, z4, z5]) rfl ?_
        exact rtk_some (t := ⟨i, s, d0, d1, d2, ws⟩) (L := LL) (w3 := w3) (B := W2.heap.size) hi HPk.out HQ.out HSb.out HC.out HLM.out HLW.out (B2.out.trans (HB3.out.mono B2.out.size)) (by have := HO3.out; exact this) K34.out K45.out K56 (by omega) (by have := B2.out.size; omega) (K5.out.kp K56 (by omega)) (rpk_wk HW5.out E5.out K56) HTS.out HS.out B2.out.size
    · rw [if_neg hc1] at hv9
      have h1r : (1 : Int) ≤ (rest.length : Int) + 1 := by omega
      injection hv9 with hA9 hv9a hv9b
      have HRd : Hid (Rd W2 (some ⟨g, o + 6, none⟩) (txs LL)) := by rw [hA9]; exact hs9.rd.below B2.out
      clear hbk2 hv1 hv2 hTl hx D22 hm9 hw9 hs9 hA9 hc9 hv9a hv9b
      go_region_law (refine step_app rfl (.tmp 15) (.tmp 23) 44 rfl W2.heap.size 36 i0 _ 6 64 Try.underlying44 hi0 hz0 hz1 hz2 rfl (by decide) (.slice (some ⟨W2.heap.size, 0, none⟩) 0 0) 0 [] (by simp [Act.eval, Act.put]) (by exact hown.out) (some ⟨g, o + 6, none⟩) rest.length (c1 - 1) (txs LL) (by simp [Act.eval, Act.put]) (fun e => by cases e) HLen.out (by exact HRd.out.below (below_like HAl.out rfl rfl rfl rfl)) (txs_one _) (by simp only [maxLen]; omega) (by omega) (by simp) ?_; intro A3 c3 w3 hown3 hgrow3; have HB3 := Lib.hid (app_new hgrow3 HAl.out (fun g hg => (own_ge hown.out g hg).1) rfl rfl rfl rfl); have HO3 := Lib.hid hown3; have K3 := Lib.hid (K2.out.below HB3.out K2.out.lt); have s0 := (K3.out.cell (3 + i)).trans HV.out; have s1 := K3.out.free (3 + i); have s2 := (D2.out.below HB3.out D2.out.lt).cell 0; simp only [List.getElem?_toArray, List.getElem?_cons_zero] at s2; clear hown3 hgrow3)
      all_goals
        have D3 := Lib.hid (D2.out.below HB3.out D2.out.lt)
        have E3 := Lib.hid (E2.out.below HB3.out E2.out.lt)
        have HW3 := Lib.hid (HW2.out.below HB3.out)
        generalize hW4 : w3.setCell ⟨b, 3 + i, none⟩ (.slice A3 rest.length c3) = W4 at *
        have K4 : Hid (Bk W4 b 49 (cs.setIfInBounds (3 + i) (.slice A3 rest.length c3))) := by rw [← hW4]; exact K3.out.put _ _
        have K34 : Hid (Kp (· = b) w3 W4) := by rw [← hW4]; exact (Kp.refl _ w3).set1 _ _
        have D4 := Lib.hid (D3.out.kp K34.out nbc)
        have E4 := Lib.hid (E3.out.kp K34.out nbe)
        have HW4 := Lib.hid (HW3.out.kp K34.out (fun k e => by rw [e]; exact HSb.out))
        have hsz := HC.out.size
        have r2 : W4.cell? ⟨b, i, none⟩ = some (.int .i64 (h.a i)) := (K4.out.cell i).trans ((set_at _ _ _ _ (by omega)).trans ((if_neg (by omega)).trans (HC.out.app i hi)))
        have r3 := K4.out.free i
        clear hW4 r0 r1 p0 p1 p2 p3 p4 p5 hsz s0 s1 s2
        obtain ⟨⟨p0, p1, p2, p3, p4, p5⟩, _⟩ := bk6 D4.out
        go_wp2_with (fail)
        go_region
        generalize hW5 : (W4.setCell ⟨b, i, none⟩ (.int .i64 (h.a i + 1))).drew = W5 at *
        have K5 : Hid (Bk W5 b 49 ((cs.setIfInBounds (3 + i) (.slice A3 rest.length c3)).setIfInBounds i (.int .i64 (h.a i + 1)))) := by rw [← hW5]; exact K4.out.put _ _
        have K45 : Hid (Kp (· = b) W4 W5) := by rw [← hW5]; exact ((Kp.refl _ W4).set1 _ _).drew
        have D5 := Lib.hid (D4.out.kp K45.out nbc)
        have E5 := Lib.hid (E4.out.kp K45.out nbe)
        have HW5 := Lib.hid (HW4.out.kp K45.out (fun k e => by rw [e]; exact HSb.out))
        clear hW5 r2 r3 p0 p1 p2 p3 p4 p5
        obtain ⟨⟨p0, p1, p2, p3, p4, p5⟩, _⟩ := bk6 D5.out
        obtain ⟨⟨e0, e1, e2, e3, e4, e5⟩, g0, g1, g2, g3, g4, g5⟩ := bk6 E5.out
        go_wp2_with (fail)
        have hG := set6_bk E5.out (.int .i64 i) (.int .i64 s) (.int .i64 d0) (.int .i64 d1) (.int .i64 d2) (.slice A ws.length c)
        have K56 : Kp (· = w.heap.size) W5 (set6 W5 w.heap.size (.int .i64 i) (.int .i64 s) (.int .i64 d0) (.int .i64 d1) (.int .i64 d2) (.slice A ws.length c)) := set6_kp (S := (· = w.heap.size)) (Kp.refl _ W5) (.inl rfl) _ _ _ _ _ _
        obtain ⟨⟨z0, z1, z2, z3, z4, z5⟩, _⟩ := bk6 hG
        unfold set6 at z0 z1 z2 z3 z4 z5
        clear e0 e1 e2 e3 e4 e5 g0 g1 g2 g3 g4 g5 p0 p1 p2 p3 p4 p5
        refine bodyPost_ret (v := .tuple #[.agg #[.int .i64 i, .int .i64 s, .int .i64 d0, .int .i64 d1, .int .i64 d2, .slice A ws.length c], .bool true]) (by simp only [results, Try.results13]; simp [go_sem, z0, z1, z2, z3, z4, z5]) rfl ?_
        exact rtk_some (t := ⟨i, s, d0, d1, d2, ws⟩) (L := LL) (w3 := w3) (B := W2.heap.size) hi HPk.out HQ.out HSb.out HC.out HLM.out HLW.out (B2.out.trans (HB3.out.mono B2.out.size)) (by have := HO3.out; rw [Nat.zero_add] at this; exact this) K34.out K45.out K56 (by omega) (by have := B2.out.size; omega) (K5.out.kp K56 (by omega)) (rpk_wk HW5.out E5.out K56) HTS.out HS.out B2.out.size

theorem rtake_any {S : Nat → Prop} (b : Nat) (h : Hk) (w : World) (H : HAt 49 S w b h) (hS : ∀ k, S k → k < w.heap.size) (hok : h.ok) :
    Calls Try.prog 13 #[.pointer (some ⟨b, 0, none⟩)] w (TkPost 49 S b h w) := by
  by_cases hp : h.peek = none
  · exact rtake_none b h w H hS hok hp
  · exact rtake_some b h w H hS hok hp
end Go.Proofs.Ytiomdclelbjmmaa
