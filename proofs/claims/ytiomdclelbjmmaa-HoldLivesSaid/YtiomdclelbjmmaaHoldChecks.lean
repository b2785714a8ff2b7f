/-
  txn.Check.
-/
import Derived.Test.YtiomdclelbjmmaaHoldCheck
set_option linter.unusedVariables false
set_option linter.unusedSimpArgs false
namespace Go.Proofs.Ytiomdclelbjmmaa
open Go.RowKit

def Tx.dep (t : Tx) (i : Int) : Int := if i = 0 then t.d0 else if i = 1 then t.d1 else t.d2
def Tx.okd (t : Tx) : Prop := okn t.d0 ∧ okn t.d1 ∧ okn t.d2
instance (t : Tx) : Decidable t.okd := by unfold Tx.okd; infer_instance

/-- Why a transaction may not be. -/
def Tx.check (t : Tx) : Int :=
  if t.o < 0 ∨ 3 ≤ t.o then 9 else if t.s < 1 ∨ 4611686018427387903 < t.s ∨ ¬ t.okd then 1 else if t.dep t.o ≠ t.s - 1 then 11
  else if 16 < t.ws.length ∨ t.ws.any longB = true then 4 else if t.ws.any badB = true then 3 else 0

def txc (x : Tv) : Array Value := #[.int .i64 x.t.o, .int .i64 x.t.s, .int .i64 x.t.d0, .int .i64 x.t.d1, .int .i64 x.t.d2, .slice x.A x.t.ws.length x.c]

theorem any_false {α : Type} {p : α → Bool} {l : List α} (h : ¬ l.any p = true) : ∀ k (h : k < l.length), p l[k] = false := by
  intro k hk
  cases e : p l[k] with
  | false => rfl
  | true => exact absurd (List.any_eq_true.mpr ⟨l[k], List.getElem_mem hk, e⟩) h

theorem any_true {α : Type} {p : α → Bool} {l : List α} (h : l.any p = true) : ∃ k, ∃ (h : k < l.length), p l[k] = true := by
  obtain ⟨x, hx, hp⟩ := List.any_eq_true.mp h
  obtain ⟨k, hk, rfl⟩ := List.mem_iff_getElem.mp hx
  exact ⟨k, hk, hp⟩

theorem below_dq {B : Nat} {w w1 : World} (h : Below B w w1) (n : Nat) : Below B w (w1.drewN n) := ⟨h.os, h.tape, h.output, h.size, h.block⟩

/-- What a function that only computes leaves. -/
def Says (v : Value) (w : World) (e : Ending) (w' : World) : Prop := e = .returned v ∧ Below w.heap.size w w'

set_option maxRecDepth 100000 in
theorem check_pre (x : Tv) (w : World) (h : x.t.o < 0 ∨ 3 ≤ x.t.o ∨ (0 ≤ x.t.o ∧ x.t.o < 3 ∧ (x.t.s < 1 ∨ 4611686018427387903 < x.t.s))) :
    Calls Try.prog 29 #[.agg #[.int .i64 x.t.o, .int .i64 x.t.s, .int .i64 x.t.d0, .int .i64 x.t.d1, .int .i64 x.t.d2, .slice x.A x.t.ws.length x.c]] w (Says (.int .i64 x.t.check) w) := by
  obtain ⟨⟨o, s, d0, d1, d2, ws⟩, A, c⟩ := x
  unfold Tx.check
  dsimp only at *
  rcases h with h | h | ⟨ha, hb, h | h⟩
  · rw [if_pos (by omega)]
    go_enter Try.func29, Try.ntmps29
    go_wp2_with (fail)
    go_ret
    exact ⟨rfl, (Below.refl _ _).alloc (Nat.le_refl _) _⟩
  · rw [if_pos (by omega)]
    have h1 : ¬ o < 0 := by omega
    go_enter Try.func29, Try.ntmps29
    go_wp2_with (fail)
    go_ret
    exact ⟨rfl, (Below.refl _ _).alloc (Nat.le_refl _) _⟩
  · rw [if_neg (by omega), if_pos (by omega)]
    have h1 : ¬ o < 0 := by omega
    have h2 : ¬ 3 ≤ o := by omega
    go_enter Try.func29, Try.ntmps29
    go_wp2_with (fail)
    go_ret
    exact ⟨rfl, (Below.refl _ _).alloc (Nat.le_refl _) _⟩
  · rw [if_neg (by omega), if_pos (by omega)]
    have h1 : ¬ o < 0 := by omega
    have h2 : ¬ 3 ≤ o := by omega
    have h3 : ¬ s < 1 := by omega
    go_enter Try.func29, Try.ntmps29
    go_wp2_with (fail)
    go_ret
    exact ⟨rfl, (Below.refl _ _).alloc (Nat.le_refl _) _⟩

theorem code_eq {a b : Int} (h : a = b) : Ending.returned (.int .i64 a) = Ending.returned (.int .i64 b) := by rw [h]

set_option maxRecDepth 100000 in
set_option maxHeartbeats 2000000 in
theorem check_arg (i : Nat) (hi : i < 3) (s d0 d1 d2 : Int) (A : Option Addr) (n c : Nat) (w : World) (s1 : 1 ≤ s) (sm : s ≤ 4611686018427387903) (hk : ¬ (okn d0 ∧ okn d1 ∧ okn d2)) :
    Calls Try.prog 29 #[.agg #[.int .i64 i, .int .i64 s, .int .i64 d0, .int .i64 d1, .int .i64 d2, .slice A n c]] w (Says (.int .i64 1) w) := by
  have B0 := Lib.hid ((Below.refl w.heap.size w).alloc (Nat.le_refl _) (.cells #[.int .i64 i, .int .i64 s, .int .i64 d0, .int .i64 d1, .int .i64 d2, .slice A n c] 36))
  have h1 : ¬ (i : Int) < 0 := by omega
  have h2 : ¬ 3 ≤ (i : Int) := by omega
  have h3 : ¬ s < 1 := by omega
  have h4 : ¬ 4611686018427387903 < s := by omega
  have HK := Lib.hid hk
  clear hk
  go_enter Try.func29, Try.ntmps29
  go_wp2_with (fail)
  refine (right_no d0 d1 d2 HK.out _).mono ?_
  rintro e w1 ⟨rfl, hb⟩
  have B1 := Lib.hid (B0.out.trans (hb.mono B0.out.size))
  clear hb
  go_wp2_with (fail)
  go_ret
  exact ⟨rfl, B1.out⟩

set_option maxRecDepth 100000 in
set_option maxHeartbeats 2000000 in
theorem check_rest (i : Nat) (hi : i < 3) (s d0 d1 d2 di r : Int) (A : Option Addr) (c : Nat) (ws : List Wr) (w : World) (hr : Rd w A (wrs ws)) (hn : ws.length ≤ 9223372036854775807) (s1 : 1 ≤ s) (sm : s ≤ 4611686018427387903) (k0 : okn d0) (k1 : okn d1) (k2 : okn d2)
    (hdi : (#[Value.int .i64 i, .int .i64 s, .int .i64 d0, .int .i64 d1, .int .i64 d2, .slice A ws.length c] : Array Value)[2 + i]? = some (.int .i64 di)) (hres : (if di ≠ s - 1 then 11 else if 16 < ws.length ∨ ws.any longB = true then 4 else if ws.any badB = true then 3 else 0) = r) :
    Calls Try.prog 29 #[.agg #[.int .i64 i, .int .i64 s, .int .i64 d0, .int .i64 d1, .int .i64 d2, .slice A ws.length c]] w (Says (.int .i64 r) w) := by
  have HR := Lib.hid hr
  have D0 := Lib.hid (Bk.new w 36 #[.int .i64 i, .int .i64 s, .int .i64 d0, .int .i64 d1, .int .i64 d2, .slice A ws.length c])
  have B0 := Lib.hid ((Below.refl w.heap.size w).alloc (Nat.le_refl _) (.cells #[.int .i64 i, .int .i64 s, .int .i64 d0, .int .i64 d1, .int .i64 d2, .slice A ws.length c] 36))
  have HRES := Lib.hid hres
  have HDI := Lib.hid hdi
  have HK0 := Lib.hid k0
  have HK1 := Lib.hid k1
  have HK2 := Lib.hid k2
  have h1 : ¬ (i : Int) < 0 := by omega
  have h2 : ¬ 3 ≤ (i : Int) := by omega
  have h3 : ¬ s < 1 := by omega
  have h4 : ¬ 4611686018427387903 < s := by omega
  clear hr hres hdi k0 k1 k2
  go_enter Try.func29, Try.ntmps29
  go_wp2_with (fail)
  refine (right_yes d0 d1 d2 HK0.out HK1.out HK2.out _).mono ?_
  rintro e w1 ⟨rfl, hb⟩
  have D1 := Lib.hid (D0.out.below hb D0.out.lt)
  have B1 := Lib.hid (B0.out.trans (hb.mono B0.out.size))
  clear hb D0 B0
  have p0 : w1.cell? ⟨w.heap.size, 0, none⟩ = some (.int .i64 i) := D1.out.cell 0
  have p1 : w1.cell? ⟨w.heap.size, 1, none⟩ = some (.int .i64 s) := D1.out.cell 1
  have p2 : w1.cell? ⟨w.heap.size, 2 + i, none⟩ = some (.int .i64 di) := (D1.out.cell (2 + i)).trans HDI.out
  have p5 : w1.cell? ⟨w.heap.size, 5, none⟩ = some (.slice A ws.length c) := D1.out.cell 5
  have hi2 : (i : Int) < 3 := by omega
  by_cases hd : di = s - 1
  · have t0 : (di != s - 1) = false := by simp [hd]
    by_cases h16 : 16 < ws.length
    · have HX : Hid (4 = r) := by
        have := HRES.out
        rwa [if_neg (by simp [hd]), if_pos (.inl h16)] at this
      have t1 : decide ((16 : Int) < (ws.length : Int)) = true := by simp; omega
      clear hd HRES h16
      go_wp2_with (fail)
      go_quiet (fail)
      go_wp2_with (fail)
      go_ret
      exact ⟨code_eq HX.out, below_dq B1.out _⟩
    · have t1 : decide ((16 : Int) < (ws.length : Int)) = false := by simp; omega
      have HN : Hid (¬ 16 < ws.length) := h16
      have HE := Lib.hid hd
      clear hd h16
      go_wp2_with (fail)
      go_quiet (fail)
      go_wp2_with (fail)
      have HR1 : Hid (Rd (w1.drewN nq) A (wrs ws)) := HR.out.below (below_dq B1.out nq)
      have DQ : Hid (Bk (w1.drewN nq) w.heap.size 36 #[.int .i64 i, .int .i64 s, .int .i64 d0, .int .i64 d1, .int .i64 d2, .slice A ws.length c]) := D1.out
      have BQ : Hid (Below w.heap.size w (w1.drewN nq)) := below_dq B1.out nq
      clear D1 B1
      generalize w1.drewN nq = W at *
      by_cases hl : ws.any longB = true
      · have HX : Hid (4 = r) := by
          have := HRES.out
          rwa [if_neg (by simp [HE.out]), if_pos (.inr hl)] at this
        refine (has_some 37 longB cf_long long_any A c ws _ HR1.out hn (any_true hl)).mono ?_
        rintro e w2 ⟨rfl, hb⟩
        have B2 := Lib.hid (BQ.out.trans (hb.mono BQ.out.size))
        clear hb HRES hl
        go_wp2_with (fail)
        go_ret
        exact ⟨code_eq HX.out, B2.out⟩
      · refine (has_none 37 longB cf_long long_any A c ws _ HR1.out hn (any_false hl)).mono ?_
        rintro e w2 ⟨rfl, hb⟩
        have HLL := Lib.hid hl
        have B2 := Lib.hid (BQ.out.trans (hb.mono BQ.out.size))
        have HR2 := Lib.hid (HR.out.below B2.out)
        have D2 := DQ.out.below hb DQ.out.lt
        have p5 : w2.cell? ⟨w.heap.size, 5, none⟩ = some (.slice A ws.length c) := D2.cell 5
        clear hb hl D2 BQ DQ
        go_wp2_with (fail)
        by_cases hb : ws.any badB = true
        · have HX : Hid (3 = r) := by
            have := HRES.out
            rwa [if_neg (by simp [HE.out]), if_neg (fun h => by rcases h with h | h; exact HN.out h; exact HLL.out h), if_pos hb] at this
          refine (has_some 38 badB cf_bad bad_any A c ws _ HR2.out hn (any_true hb)).mono ?_
          rintro e w3 ⟨rfl, hb3⟩
          have B3 := Lib.hid (B2.out.trans (hb3.mono B2.out.size))
          clear hb3 hb HRES
          go_wp2_with (fail)
          go_ret
          exact ⟨code_eq HX.out, B3.out⟩
        · have HX : Hid (0 = r) := by
            have := HRES.out
            rwa [if_neg (by simp [HE.out]), if_neg (fun h => by rcases h with h | h; exact HN.out h; exact HLL.out h), if_neg hb] at this
          refine (has_none 38 badB cf_bad bad_any A c ws _ HR2.out hn (any_false hb)).mono ?_
          rintro e w3 ⟨rfl, hb3⟩
          have B3 := Lib.hid (B2.out.trans (hb3.mono B2.out.size))
          clear hb3 hb HRES
          go_wp2_with (fail)
          go_ret
          exact ⟨code_eq HX.out, B3.out⟩
  · have t0 : (di != s - 1) = true := by simpa using hd
    have HX : Hid (11 = r) := by
      have := HRES.out
      rwa [if_pos hd] at this
    clear hd HRES
    go_wp2_with (fail)
    go_quiet (fail)
    go_wp2_with (fail)
    go_ret
    exact ⟨code_eq HX.out, below_dq B1.out _⟩

theorem check_any (x : Tv) (w : World) (hr : Rd w x.A (wrs x.t.ws)) (hn : x.t.ws.length ≤ 9223372036854775807) :
    Calls Try.prog 29 #[.agg #[.int .i64 x.t.o, .int .i64 x.t.s, .int .i64 x.t.d0, .int .i64 x.t.d1, .int .i64 x.t.d2, .slice x.A x.t.ws.length x.c]] w (Says (.int .i64 x.t.check) w) := by
  by_cases hp : x.t.o < 0 ∨ 3 ≤ x.t.o ∨ (0 ≤ x.t.o ∧ x.t.o < 3 ∧ (x.t.s < 1 ∨ 4611686018427387903 < x.t.s))
  · exact check_pre x w hp
  · obtain ⟨i, hi⟩ : ∃ i : Nat, x.t.o = (i : Int) := ⟨x.t.o.toNat, by omega⟩
    obtain ⟨⟨o, s, d0, d1, d2, ws⟩, A, c⟩ := x
    dsimp only at *
    subst hi
    have hi3 : i < 3 := by omega
    have s1 : 1 ≤ s := by omega
    have sm : s ≤ 4611686018427387903 := by omega
    unfold Tx.check
    dsimp only
    rw [if_neg (by omega)]
    by_cases hk : okn d0 ∧ okn d1 ∧ okn d2
    · rw [if_neg (fun h => by rcases h with h | h | h; omega; omega; exact h hk)]
      have hc : i = 0 ∨ i = 1 ∨ i = 2 := by omega
      refine check_rest i hi3 s d0 d1 d2 (Tx.dep ⟨i, s, d0, d1, d2, ws⟩ i) _ A c ws w hr hn s1 sm hk.1 hk.2.1 hk.2.2 ?_ rfl
      rcases hc with rfl | rfl | rfl <;> rfl
    · rw [if_pos (.inr (.inr hk))]
      exact check_arg i hi3 s d0 d1 d2 A ws.length c w s1 sm hk
end Go.Proofs.Ytiomdclelbjmmaa
