/-
  What holds of every hold; Take.
-/
import Derived.Test.YtiomdclelbjmmaaHoldRPeek
import Derived.BigRegion
set_option linter.unusedVariables false
set_option linter.unusedSimpArgs false
namespace Go.Proofs.Ytiomdclelbjmmaa
open Go.RowKit

/-- What holds of every hold. -/
structure Hk.ok (h : Hk) : Prop where
  a : ∀ i, i < 3 → okn (h.a i)
  n : ∀ i, i < 3 → (h.q i).length ≤ 8
  q : ∀ i, i < 3 → ∀ j (hj : j < (h.q i).length), (h.q i)[j].o = i ∧ (h.q i)[j].s = h.a i + j + 1 ∧ (h.q i)[j].check = 0

theorem check_ok {t : Tx} (h : t.check = 0) : 0 ≤ t.o ∧ t.o < 3 ∧ 1 ≤ t.s ∧ t.s ≤ 4611686018427387903 ∧ t.okd ∧ t.dep t.o = t.s - 1 ∧ t.ws.length ≤ 16 := by
  unfold Tx.check at h
  split at h
  · cases h
  · rename_i h1
    split at h
    · cases h
    · rename_i h2
      split at h
      · cases h
      · rename_i h3
        split at h
        · cases h
        · rename_i h4
          refine ⟨by omega, by omega, ?_, ?_, ?_, Decidable.not_not.mp h3, ?_⟩
          · by_cases c : t.s < 1
            · exact absurd (.inl c) h2
            · omega
          · by_cases c : 4611686018427387903 < t.s
            · exact absurd (.inr (.inl c)) h2
            · omega
          · by_cases c : t.okd
            · exact c
            · exact absurd (.inr (.inr c)) h2
          · by_cases c : 16 < t.ws.length
            · exact absurd (.inl c) h4
            · omega

theorem Hk.ok.ws {h : Hk} (H : h.ok) : ∀ i, i < 3 → ∀ t ∈ h.q i, t.ws.length ≤ 1000000 := by
  intro i hi t ht
  obtain ⟨j, hj, rfl⟩ := List.mem_iff_getElem.mp ht
  have := (check_ok (H.q i hi j hj).2.2).2.2.2.2.2.2
  omega

theorem Hk.ok.len {h : Hk} (H : h.ok) : ∀ i, i < 3 → (h.q i).length ≤ 1000000 := fun i hi => by have := H.n i hi; omega

/-- The hold behind what was taken of origin i. -/
def Hk.took (h : Hk) (i : Nat) (rest : List Tx) (s : Int) : Hk := { a := upd h.a i s, q := upd h.q i rest }

theorem Hk.ok.took {h : Hk} (H : h.ok) {i : Nat} (hi : i < 3) {t : Tx} {rest : List Tx} (hq : h.q i = t :: rest) : (h.took i rest t.s).ok ∧ t.o = i ∧ t.s = h.a i + 1 := by
  have h0 := H.q i hi 0 (by rw [hq]; simp)
  have e0 : (h.q i)[0]'(by rw [hq]; simp) = t := by simp [hq]
  rw [e0] at h0
  obtain ⟨ho, hs, hc⟩ := h0
  have hs' : t.s = h.a i + 1 := by simpa using hs
  refine ⟨⟨?_, ?_, ?_⟩, ho, hs'⟩
  · intro k hk
    unfold Hk.took upd
    dsimp only
    split
    · have := check_ok hc
      exact ⟨by omega, this.2.2.2.1⟩
    · exact H.a k hk
  · intro k hk
    unfold Hk.took upd
    dsimp only
    split
    · have := H.n i hi
      rw [hq] at this
      simp at this
      omega
    · exact H.n k hk
  · intro k hk
    by_cases e : k = i
    · subst e
      have eq : (h.took k rest t.s).q k = rest := by simp [Hk.took, upd]
      have ea : (h.took k rest t.s).a k = t.s := by simp [Hk.took, upd]
      rw [ea]
      intro j hj
      have hj' : j < rest.length := by rw [eq] at hj; exact hj
      have h1 := H.q k hk (j + 1) (by rw [hq]; simp; omega)
      have e1 : (h.q k)[j + 1]'(by rw [hq]; simp; omega) = rest[j] := by simp [hq]
      have e2 : ((h.took k rest t.s).q k)[j] = rest[j] := by simp [eq]
      rw [e1] at h1
      rw [e2]
      exact ⟨h1.1, by rw [h1.2.1, hs']; push_cast; omega, h1.2.2⟩
    · have eq : (h.took i rest t.s).q k = h.q k := by simp [Hk.took, upd, e]
      have ea : (h.took i rest t.s).a k = h.a k := by simp [Hk.took, upd, e]
      rw [ea]
      intro j hj
      have hj' : j < (h.q k).length := by rw [eq] at hj; exact hj
      have e2 : ((h.took i rest t.s).q k)[j] = (h.q k)[j] := by simp [eq]
      rw [e2]
      exact H.q k hk j hj'

/-- What Take leaves. -/
def TkPost (T : TypeId) (S : Nat → Prop) (b : Nat) (h : Hk) (w : World) (e : Ending) (w' : World) : Prop :=
  Kp (· = b) w w' ∧ ((h.peek = none ∧ e = .returned (.tuple #[.agg #[.int .i64 0, .int .i64 0, .int .i64 0, .int .i64 0, .int .i64 0, .slice none 0 0], .bool false]) ∧ HAt T S w' b h) ∨
    ∃ i t rest A c, i < 3 ∧ h.peek = some i ∧ h.q i = t :: rest ∧ e = .returned (.tuple #[.agg #[.int .i64 t.o, .int .i64 t.s, .int .i64 t.d0, .int .i64 t.d1, .int .i64 t.d2, .slice A t.ws.length c], .bool true]) ∧ Wk S w' ⟨t, A, c⟩ ∧ HAt T S w' b (h.took i rest t.s))

theorem tk_none {T : TypeId} {S : Nat → Prop} {h : Hk} {w W : World} {b : Nat} (H : HAt T S w b h) (hp : h.peek = none) (hb : Below w.heap.size w W) : TkPost T S b h w (.returned (.tuple #[.agg #[.int .i64 0, .int .i64 0, .int .i64 0, .int .i64 0, .int .i64 0, .slice none 0 0], .bool false])) W :=
  ⟨(Kp.of_below hb).mono (fun i hi (h : w.heap.size ≤ i) => absurd hi (by omega)), .inl ⟨hp, rfl, H.below hb⟩⟩

set_option maxRecDepth 100000 in
set_option maxHeartbeats 1000000 in
theorem take_none {S : Nat → Prop} (b : Nat) (h : Hk) (w : World) (H : HAt 61 S w b h) (hS : ∀ k, S k → k < w.heap.size) (hok : h.ok) (hp : h.peek = none) :
    Calls Try.prog 12 #[.pointer (some ⟨b, 0, none⟩)] w (TkPost 61 S b h w) := by
  have hlt := H.lt
  have HH := Lib.hid H
  have HS := Lib.hid hS
  have HO := Lib.hid hok
  have HP := Lib.hid hp
  have E0 := Lib.hid (Bk.new w 36 #[.int .i64 0, .int .i64 0, .int .i64 0, .int .i64 0, .int .i64 0, .slice none 0 0])
  have B0 := Lib.hid ((Below.refl w.heap.size w).alloc (Nat.le_refl _) (.cells #[.int .i64 0, .int .i64 0, .int .i64 0, .int .i64 0, .int .i64 0, .slice none 0 0] 36))
  have H0 := Lib.hid (H.below B0.out)
  have HS0 : Hid (∀ k, S k → k < (w.alloc (.cells #[.int .i64 0, .int .i64 0, .int .i64 0, .int .i64 0, .int .i64 0, .slice none 0 0] 36)).heap.size) := fun k hk => Nat.lt_of_lt_of_le (hS k hk) B0.out.size
  clear H hS hok hp
  go_enter Try.func12, Try.ntmps12
  go_wp2_with (fail)
  refine (peek_any b h _ H0.out HS0.out HO.out.ws HO.out.len).mono ?_
  rintro e w1 ⟨hb, ⟨hp, rfl⟩ | ⟨i, t, rest, A, c, hi, hp, hq, rfl, hwk⟩⟩
  · have E1 := Lib.hid (E0.out.below hb E0.out.lt)
    have B1 := Lib.hid (B0.out.trans (hb.mono B0.out.size))
    clear hb H0 E0 B0 HS0 hp
    obtain ⟨⟨e0, e1, e2, e3, e4, e5⟩, g0, g1, g2, g3, g4, g5⟩ := bk6 E1.out
    have hlt2 := E1.out.lt
    have hne : w.heap.size ≠ w1.heap.size := by omega
    go_wp2_with (fail)
    have hG := (set6_bk E1.out (.int .i64 0) (.int .i64 0) (.int .i64 0) (.int .i64 0) (.int .i64 0) (.slice none 0 0)).alloc (.cells #[.int .i64 0, .int .i64 0, .int .i64 0, .int .i64 0, .int .i64 0, .slice none 0 0] 36)
    have hB := (set6_below B1.out (Nat.le_refl _) (.int .i64 0) (.int .i64 0) (.int .i64 0) (.int .i64 0) (.int .i64 0) (.slice none 0 0)).alloc (by have := (set6_below B1.out (Nat.le_refl _) (.int .i64 0) (.int .i64 0) (.int .i64 0) (.int .i64 0) (.int .i64 0) (.slice none 0 0)).size; exact this) (.cells #[.int .i64 0, .int .i64 0, .int .i64 0, .int .i64 0, .int .i64 0, .slice none 0 0] 36)
    obtain ⟨⟨z0, z1, z2, z3, z4, z5⟩, _⟩ := bk6 hG
    unfold set6 at z0 z1 z2 z3 z4 z5
    clear e0 e1 e2 e3 e4 e5 g0 g1 g2 g3 g4 g5
    refine bodyPost_ret (v := .tuple #[.agg #[.int .i64 0, .int .i64 0, .int .i64 0, .int .i64 0, .int .i64 0, .slice none 0 0], .bool false]) (by simp only [results, Try.results12]; simp [go_sem, z0, z1, z2, z3, z4, z5]) rfl ?_
    exact tk_none HH.out HP.out hB
  · rw [HP.out] at hp
    cases hp

theorem tk_kp {w W2 W3 W4 W5 : World} {b : Nat} (h : Below w.heap.size w W2) (k1 : Kp (· = b) W2 W3) (k2 : Kp (· = b) W3 W4) (k3 : Kp (· = w.heap.size) W4 W5) : Kp (· = b) w W5 := by
  have a : Kp (fun k => k = b ∨ w.heap.size ≤ k) w W2 := (Kp.of_below h).mono (fun i _ h => .inr h)
  have b1 := a.trans k1 (fun i _ e => .inl e)
  have b2 := b1.trans k2 (fun i _ e => .inl e)
  have b3 := b2.trans k3 (fun i _ e => .inr (Nat.le_of_eq e.symm))
  refine b3.mono (fun i hi e => ?_)
  rcases e with e | e
  · exact e
  · omega

theorem tk_some {T : TypeId} {S : Nat → Prop} {h : Hk} {w W : World} {b i : Nat} {t : Tx} {rest : List Tx} {A : Option Addr} {c : Nat} {cs : Array Value} {v : Value} (hi : i < 3) (hp : h.peek = some i) (hq : h.q i = t :: rest) (hSb : S b) (hcs : Hs S w h cs) (hv : Ts S w v rest)
    (hk : Kp (· = b) w W) (hbk : Bk W b T ((cs.setIfInBounds (3 + i) v).setIfInBounds i (.int .i64 t.s))) (hwk : Wk S W ⟨t, A, c⟩) :
    TkPost T S b h w (.returned (.tuple #[.agg #[.int .i64 t.o, .int .i64 t.s, .int .i64 t.d0, .int .i64 t.d1, .int .i64 t.d2, .slice A t.ws.length c], .bool true])) W := by
  refine ⟨hk, .inr ⟨i, t, rest, A, c, hi, hp, hq, rfl, hwk, hSb, _, hbk, ?_⟩⟩
  exact Hs.kp (Hs.putA (Hs.putQ hcs hi hv) hi t.s) hk (fun k e => by rw [e]; exact hSb)

set_option maxRecDepth 100000 in
set_option maxHeartbeats 4000000 in
theorem take_some {S : Nat → Prop} (b : Nat) (h : Hk) (w : World) (H : HAt 61 S w b h) (hS : ∀ k, S k → k < w.heap.size) (hok : h.ok) (hp0 : h.peek ≠ none) :
    Calls Try.prog 12 #[.pointer (some ⟨b, 0, none⟩)] w (TkPost 61 S b h w) := by
  have hlt := H.lt
  obtain ⟨cs, hbk, hcs⟩ := H.row
  have HH := Lib.hid H
  have HK := Lib.hid hbk
  have HC := Lib.hid hcs
  have HS := Lib.hid hS
  have HO := Lib.hid hok
  have HP := Lib.hid hp0
  have E0 := Lib.hid (Bk.new w 36 #[.int .i64 0, .int .i64 0, .int .i64 0, .int .i64 0, .int .i64 0, .slice none 0 0])
  have B0 := Lib.hid ((Below.refl w.heap.size w).alloc (Nat.le_refl _) (.cells #[.int .i64 0, .int .i64 0, .int .i64 0, .int .i64 0, .int .i64 0, .slice none 0 0] 36))
  have H0 := Lib.hid (H.below B0.out)
  have HS0 : Hid (∀ k, S k → k < (w.alloc (.cells #[.int .i64 0, .int .i64 0, .int .i64 0, .int .i64 0, .int .i64 0, .slice none 0 0] 36)).heap.size) := fun k hk => Nat.lt_of_lt_of_le (hS k hk) B0.out.size
  clear H hS hok hp0 hbk hcs
  go_enter Try.func12, Try.ntmps12
  go_wp2_with (fail)
  refine (peek_any b h _ H0.out HS0.out HO.out.ws HO.out.len).mono ?_
  rintro e w1 ⟨hb, ⟨hp, rfl⟩ | ⟨i, t, rest, A, c, hi, hp, hq, rfl, hwk⟩⟩
  · exact absurd hp HP.out
  · obtain ⟨_, hto, hts⟩ := HO.out.took hi hq
    obtain ⟨o, s, d0, d1, d2, ws⟩ := t
    dsimp only at hto hts
    subst hto
    have E1 := Lib.hid (E0.out.below hb E0.out.lt)
    have B1 := Lib.hid (B0.out.trans (hb.mono B0.out.size))
    have HPk := Lib.hid hp
    have HQ := Lib.hid hq
    have HWk := Lib.hid hwk
    have L1 := E1.out.lt
    clear hb H0 E0 B0 HS0 hp hq hwk hts
    have D2 := Lib.hid (Bk.new w1 36 #[.int .i64 i, .int .i64 s, .int .i64 d0, .int .i64 d1, .int .i64 d2, .slice A ws.length c])
    have E2 := Lib.hid (E1.out.alloc (.cells #[.int .i64 i, .int .i64 s, .int .i64 d0, .int .i64 d1, .int .i64 d2, .slice A ws.length c] 36))
    have BX := (Below.refl w1.heap.size w1).alloc (Nat.le_refl _) (.cells #[.int .i64 i, .int .i64 s, .int .i64 d0, .int .i64 d1, .int .i64 d2, .slice A ws.length c] 36)
    have HW2 := Lib.hid (HWk.out.below BX)
    have B2 := Lib.hid (B1.out.trans (BX.mono B1.out.size))
    clear BX E1 B1 HWk
    go_wp2_with (fail)
    generalize w1.alloc (.cells #[.int .i64 i, .int .i64 s, .int .i64 d0, .int .i64 d1, .int .i64 d2, .slice A ws.length c] 36) = W2 at *
    have L2 := D2.out.lt
    generalize hcc : w1.heap.size = cc at *
    clear hcc
    obtain ⟨v, hv1, hv2⟩ := HC.out.que i hi
    rw [HQ.out] at hv2
    obtain ⟨A1, c1, L, rfl, hlc, _⟩ := hv2.row
    simp only [List.length_cons] at hlc hv1 hv2
    obtain ⟨x, g, o, hx, rfl, hg, _, _, _, _, _, _, _⟩ := ts_head hv2
    have hTl := ts_tail hv2 rfl
    have hbk2 := HK.out.below B2.out hlt
    have r0 : W2.cell? ⟨b, 3 + i, none⟩ = some (.slice (some ⟨g, o, none⟩) (rest.length + 1) c1) := (hbk2.cell _).trans hv1
    have r1 := hbk2.free (3 + i)
    have K2 := Lib.hid hbk2
    obtain ⟨⟨p0, p1, p2, p3, p4, p5⟩, _⟩ := bk6 D2.out
    have hi3 : (i : Int) < 3 := by omega
    have nbc : cc ≠ b := by omega
    have nbc2 : b ≠ cc := by omega
    have HTl := Lib.hid hTl
    have HSb : Hid (S b) := HH.out.mem
    clear hbk2 hv1 hv2 hTl hx
    have nbe : w.heap.size ≠ b := by omega
    by_cases hc1 : c1 = 1
    · subst hc1
      obtain rfl : rest = [] := List.eq_nil_of_length_eq_zero (by omega)
      rw [if_pos rfl] at HTl
      simp only [List.length_nil, Nat.zero_add] at r0
      replace HTl : Hid (Ts S w (.slice (some ⟨g, o, none⟩) 0 0) []) := HTl
      go_region
      generalize hW3 : (W2.setCell ⟨b, 3 + i, none⟩ (.slice (some ⟨g, o, none⟩) 0 0)).drew = W3 at *
      have K3 : Hid (Bk W3 b 61 (cs.setIfInBounds (3 + i) (.slice (some ⟨g, o, none⟩) 0 0))) := by rw [← hW3]; exact K2.out.put _ _
      have K23 : Hid (Kp (· = b) W2 W3) := by rw [← hW3]; exact ((Kp.refl _ W2).set1 _ _).drew
      have D3 := Lib.hid (D2.out.kp K23.out nbc)
      have E3 := Lib.hid (E2.out.kp K23.out nbe)
      have HW3 := Lib.hid (HW2.out.kp K23.out (fun k e => by rw [e]; exact HSb.out))
      have hsz := HC.out.size
      have r2 : W3.cell? ⟨b, i, none⟩ = some (.int .i64 (h.a i)) := (K3.out.cell i).trans ((set_at _ _ _ _ (by omega)).trans ((if_neg (by omega)).trans (HC.out.app i hi)))
      have r3 := K3.out.free i
      clear hW3 r0 r1 p0 p1 p2 p3 p4 p5 hsz
      obtain ⟨⟨p0, p1, p2, p3, p4, p5⟩, _⟩ := bk6 D3.out
      go_wp2_with (fail)
      go_region
      generalize hW4 : (W3.setCell ⟨b, i, none⟩ (.int .i64 s)).drew = W4 at *
      have K4 : Hid (Bk W4 b 61 ((cs.setIfInBounds (3 + i) (.slice (some ⟨g, o, none⟩) 0 0)).setIfInBounds i (.int .i64 s))) := by rw [← hW4]; exact K3.out.put _ _
      have K34 : Hid (Kp (· = b) W3 W4) := by rw [← hW4]; exact ((Kp.refl _ W3).set1 _ _).drew
      have D4 := Lib.hid (D3.out.kp K34.out nbc)
      have E4 := Lib.hid (E3.out.kp K34.out nbe)
      have HW4 := Lib.hid (HW3.out.kp K34.out (fun k e => by rw [e]; exact HSb.out))
      clear hW4 r2 r3 p0 p1 p2 p3 p4 p5
      obtain ⟨⟨p0, p1, p2, p3, p4, p5⟩, _⟩ := bk6 D4.out
      obtain ⟨⟨e0, e1, e2, e3, e4, e5⟩, g0, g1, g2, g3, g4, g5⟩ := bk6 E4.out
      go_wp2_with (fail)
      have hG := set6_bk E4.out (.int .i64 i) (.int .i64 s) (.int .i64 d0) (.int .i64 d1) (.int .i64 d2) (.slice A ws.length c)
      have K45 : Kp (· = w.heap.size) W4 (set6 W4 w.heap.size (.int .i64 i) (.int .i64 s) (.int .i64 d0) (.int .i64 d1) (.int .i64 d2) (.slice A ws.length c)) := set6_kp (S := (· = w.heap.size)) (Kp.refl _ W4) (.inl rfl) _ _ _ _ _ _
      obtain ⟨⟨z0, z1, z2, z3, z4, z5⟩, _⟩ := bk6 hG
      unfold set6 at z0 z1 z2 z3 z4 z5
      clear e0 e1 e2 e3 e4 e5 g0 g1 g2 g3 g4 g5 p0 p1 p2 p3 p4 p5
      refine bodyPost_ret (v := .tuple #[.agg #[.int .i64 i, .int .i64 s, .int .i64 d0, .int .i64 d1, .int .i64 d2, .slice A ws.length c], .bool true]) (by simp only [results, Try.results12]; simp [go_sem, z0, z1, z2, z3, z4, z5]) rfl ?_
      exact tk_some (t := ⟨i, s, d0, d1, d2, ws⟩) hi HPk.out HQ.out HSb.out HC.out HTl.out (tk_kp B2.out K23.out K34.out K45) (K4.out.kp K45 (by omega)) (rpk_wk HW4.out E4.out K45)
    · rw [if_neg hc1] at HTl
      go_region
      generalize hW3 : (W2.setCell ⟨b, 3 + i, none⟩ (.slice (some ⟨g, o + 6, none⟩) rest.length (c1 - 1))).drew = W3 at *
      have K3 : Hid (Bk W3 b 61 (cs.setIfInBounds (3 + i) (.slice (some ⟨g, o + 6, none⟩) rest.length (c1 - 1)))) := by rw [← hW3]; exact K2.out.put _ _
      have K23 : Hid (Kp (· = b) W2 W3) := by rw [← hW3]; exact ((Kp.refl _ W2).set1 _ _).drew
      have D3 := Lib.hid (D2.out.kp K23.out nbc)
      have E3 := Lib.hid (E2.out.kp K23.out nbe)
      have HW3 := Lib.hid (HW2.out.kp K23.out (fun k e => by rw [e]; exact HSb.out))
      have hsz := HC.out.size
      have r2 : W3.cell? ⟨b, i, none⟩ = some (.int .i64 (h.a i)) := (K3.out.cell i).trans ((set_at _ _ _ _ (by omega)).trans ((if_neg (by omega)).trans (HC.out.app i hi)))
      have r3 := K3.out.free i
      clear hW3 r0 r1 p0 p1 p2 p3 p4 p5 hsz
      obtain ⟨⟨p0, p1, p2, p3, p4, p5⟩, _⟩ := bk6 D3.out
      go_wp2_with (fail)
      go_region
      generalize hW4 : (W3.setCell ⟨b, i, none⟩ (.int .i64 s)).drew = W4 at *
      have K4 : Hid (Bk W4 b 61 ((cs.setIfInBounds (3 + i) (.slice (some ⟨g, o + 6, none⟩) rest.length (c1 - 1))).setIfInBounds i (.int .i64 s))) := by rw [← hW4]; exact K3.out.put _ _
      have K34 : Hid (Kp (· = b) W3 W4) := by rw [← hW4]; exact ((Kp.refl _ W3).set1 _ _).drew
      have D4 := Lib.hid (D3.out.kp K34.out nbc)
      have E4 := Lib.hid (E3.out.kp K34.out nbe)
      have HW4 := Lib.hid (HW3.out.kp K34.out (fun k e => by rw [e]; exact HSb.out))
      clear hW4 r2 r3 p0 p1 p2 p3 p4 p5
      obtain ⟨⟨p0, p1, p2, p3, p4, p5⟩, _⟩ := bk6 D4.out
      obtain ⟨⟨e0, e1, e2, e3, e4, e5⟩, g0, g1, g2, g3, g4, g5⟩ := bk6 E4.out
      go_wp2_with (fail)
      have hG := set6_bk E4.out (.int .i64 i) (.int .i64 s) (.int .i64 d0) (.int .i64 d1) (.int .i64 d2) (.slice A ws.length c)
      have K45 : Kp (· = w.heap.size) W4 (set6 W4 w.heap.size (.int .i64 i) (.int .i64 s) (.int .i64 d0) (.int .i64 d1) (.int .i64 d2) (.slice A ws.length c)) := set6_kp (S := (· = w.heap.size)) (Kp.refl _ W4) (.inl rfl) _ _ _ _ _ _
      obtain ⟨⟨z0, z1, z2, z3, z4, z5⟩, _⟩ := bk6 hG
      unfold set6 at z0 z1 z2 z3 z4 z5
      clear e0 e1 e2 e3 e4 e5 g0 g1 g2 g3 g4 g5 p0 p1 p2 p3 p4 p5
      refine bodyPost_ret (v := .tuple #[.agg #[.int .i64 i, .int .i64 s, .int .i64 d0, .int .i64 d1, .int .i64 d2, .slice A ws.length c], .bool true]) (by simp only [results, Try.results12]; simp [go_sem, z0, z1, z2, z3, z4, z5]) rfl ?_
      exact tk_some (t := ⟨i, s, d0, d1, d2, ws⟩) hi HPk.out HQ.out HSb.out HC.out HTl.out (tk_kp B2.out K23.out K34.out K45) (K4.out.kp K45 (by omega)) (rpk_wk HW4.out E4.out K45)

theorem take_any {S : Nat → Prop} (b : Nat) (h : Hk) (w : World) (H : HAt 61 S w b h) (hS : ∀ k, S k → k < w.heap.size) (hok : h.ok) :
    Calls Try.prog 12 #[.pointer (some ⟨b, 0, none⟩)] w (TkPost 61 S b h w) := by
  by_cases hp : h.peek = none
  · exact take_none b h w H hS hok hp
  · exact take_some b h w H hS hok hp
end Go.Proofs.Ytiomdclelbjmmaa
