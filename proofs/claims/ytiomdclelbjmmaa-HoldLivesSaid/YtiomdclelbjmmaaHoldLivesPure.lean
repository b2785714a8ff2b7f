/-
  Transactions made one behind the other: put in by their origins in any order, all are applied at last. Plain.
-/
import Derived.Test.YtiomdclelbjmmaaHoldRun
set_option linter.unusedVariables false
set_option linter.unusedSimpArgs false
namespace Go.Proofs.Ytiomdclelbjmmaa
open Go.RowKit

/-- How many of these numbers are o. -/
def cntO (l : List Nat) (o : Nat) : Nat := l.countP (fun k => k == o)

theorem cntO_snoc (l : List Nat) (k o : Nat) : cntO (l ++ [k]) o = cntO l o + if k = o then 1 else 0 := by
  unfold cntO
  rw [List.countP_append]
  by_cases h : k = o <;> simp [h]

theorem cntO_nil (o : Nat) : cntO [] o = 0 := rfl

theorem cntO_le (l : List Nat) (o : Nat) : cntO l o ≤ l.length := List.countP_le_length

theorem cntO_take (l : List Nat) (r o : Nat) (hr : r < l.length) : cntO (l.take (r + 1)) o = cntO (l.take r) o + if l[r] = o then 1 else 0 := by
  rw [List.take_succ_eq_append_getElem hr, cntO_snoc]

theorem cntO_take_le (l : List Nat) (r o : Nat) : cntO (l.take r) o ≤ cntO l o := by
  unfold cntO
  exact (List.take_sublist r l).countP_le

theorem cntO_take_lt (l : List Nat) (r : Nat) (hr : r < l.length) : cntO (l.take r) l[r] < cntO l l[r] := by
  have h1 := cntO_take l r l[r] hr
  have h2 := cntO_take_le l (r + 1) l[r]
  rw [if_pos rfl] at h1
  omega

/-- The rows that are made of these origins, each depending on no more than was there. -/
structure Made (l : List Nat) (R : Nat → List Tx) : Prop where
  len : ∀ o, o < 3 → (R o).length = cntO l o
  one : ∀ o, o < 3 → ∀ j (hj : j < (R o).length), (R o)[j].o = o ∧ (R o)[j].s = (j : Int) + 1 ∧ (R o)[j].check = 0 ∧ (R o)[j].ws = []
  dep : ∀ r (hr : r < l.length), l[r] < 3 → ∀ (hj : cntO (l.take r) l[r] < (R l[r]).length), (R l[r])[cntO (l.take r) l[r]].d0 ≤ cntO (l.take r) 0 ∧ (R l[r])[cntO (l.take r) l[r]].d1 ≤ cntO (l.take r) 1 ∧ (R l[r])[cntO (l.take r) l[r]].d2 ≤ cntO (l.take r) 2

theorem Made.nil : Made [] (fun _ => []) := ⟨fun _ _ => rfl, fun _ _ j hj => by simp at hj, fun r hr => by simp at hr⟩

theorem Made.snoc {l : List Nat} {R : Nat → List Tx} (h : Made l R) {o : Nat} (ho : o < 3) {t : Tx} (h1 : t.o = o) (h2 : t.s = (cntO l o : Int) + 1) (h3 : t.check = 0) (h4 : t.ws = [])
    (d0 : t.d0 ≤ cntO l 0) (d1 : t.d1 ≤ cntO l 1) (d2 : t.d2 ≤ cntO l 2) : Made (l ++ [o]) (upd R o (R o ++ [t])) := by
  have hl := h.len o ho
  have hup : upd R o (R o ++ [t]) o = R o ++ [t] := by simp [upd]
  have hne : ∀ k, k ≠ o → upd R o (R o ++ [t]) k = R k := fun k hk => by simp [upd, hk]
  refine ⟨fun k hk => ?_, fun k hk j hj => ?_, fun r hr hr3 hj => ?_⟩
  · rw [cntO_snoc]
    by_cases e : k = o
    · subst e
      rw [hup, List.length_append, if_pos rfl, hl]
      rfl
    · rw [hne k e, if_neg (fun e2 => e e2.symm), h.len k hk]
      rfl
  · by_cases e : k = o
    · subst e
      have ex : (upd R k (R k ++ [t]) k)[j] = (R k ++ [t])[j]'(by rw [hup] at hj; exact hj) := by simp [hup]
      have hj' : j < (R k ++ [t]).length := by rw [hup] at hj; exact hj
      rw [ex]
      rw [List.length_append] at hj'
      simp at hj'
      by_cases hlt : j < (R k).length
      · rw [List.getElem_append_left hlt]
        exact h.one k hk j hlt
      · have : j = (R k).length := by omega
        subst this
        rw [List.getElem_append_right (Nat.le_refl _)]
        simp only [Nat.sub_self, List.getElem_cons_zero]
        exact ⟨h1, by rw [hl]; exact h2, h3, h4⟩
    · have ex : (upd R o (R o ++ [t]) k)[j] = (R k)[j]'(by rw [hne k e] at hj; exact hj) := by simp [hne k e]
      rw [ex]
      exact h.one k hk j _
  · by_cases hlt : r < l.length
    · have eg : (l ++ [o])[r] = l[r] := List.getElem_append_left hlt
      have et : (l ++ [o]).take r = l.take r := List.take_append_of_le_length (by omega)
      simp only [eg, et] at hr3 hj ⊢
      have hc := cntO_take_lt l r hlt
      have hjo : cntO (l.take r) l[r] < (R l[r]).length := by rw [h.len _ hr3]; exact hc
      have ex : (upd R o (R o ++ [t]) l[r])[cntO (l.take r) l[r]] = (R l[r])[cntO (l.take r) l[r]] := by
        by_cases e : l[r] = o
        · have : upd R o (R o ++ [t]) l[r] = R l[r] ++ [t] := by simp [upd, e]
          simp only [this]
          rw [List.getElem_append_left hjo]
        · simp only [hne _ e]
      rw [ex]
      exact h.dep r hlt hr3 hjo
    · have hr' : r = l.length := by
        rw [List.length_append] at hr
        simp at hr
        omega
      subst hr'
      have eg : (l ++ [o])[l.length] = o := by simp
      have et : (l ++ [o]).take l.length = l := by simp
      simp only [eg, et] at hr3 hj ⊢
      have ex : (upd R o (R o ++ [t]) o)[cntO l o] = t := by
        simp only [hup]
        rw [List.getElem_append_right (by omega)]
        simp [hl]
      rw [ex]
      exact ⟨d0, d1, d2⟩

/-- A hold, and what is still to be put in: together with what is applied it is all that was made. -/
structure Live (R Rm : Nat → List Tx) (h : Hk) : Prop where
  ok : h.ok
  at_ : ∀ o, o < 3 → ∃ n : Nat, h.a o = n ∧ n ≤ (R o).length ∧ (R o).drop n = h.q o ++ Rm o

section
variable {l : List Nat} {R Rm : Nat → List Tx} {h h' : Hk}

theorem Live.start (hR : Made l R) : Live R R (Hk.new 0 0 0) :=
  ⟨⟨fun i hi => by
      have hc : i = 0 ∨ i = 1 ∨ i = 2 := by omega
      rcases hc with rfl | rfl | rfl <;> exact ⟨by decide, by decide⟩, fun i hi => by simp [Hk.new], fun i hi j hj => by simp [Hk.new] at hj⟩,
   fun o ho => ⟨0, by
      have hc : o = 0 ∨ o = 1 ∨ o = 2 := by omega
      rcases hc with rfl | rfl | rfl <;> rfl, Nat.zero_le _, rfl⟩⟩

theorem drop_head {α : Type} {l r : List α} {n : Nat} {t : α} (h : l.drop n = t :: r) : ∃ hn : n < l.length, l[n] = t ∧ l.drop (n + 1) = r := by
  have hn : n < l.length := by
    rcases Nat.lt_or_ge n l.length with h1 | h1
    · exact h1
    · rw [List.drop_eq_nil_of_le h1] at h; cases h
  rw [List.drop_eq_getElem_cons hn] at h
  injection h with h1 h2
  exact ⟨hn, h1, h2⟩

theorem drop_at {α : Type} {l q r : List α} {n : Nat} {t : α} (h : l.drop n = q ++ t :: r) : ∃ hn : n + q.length < l.length, l[n + q.length] = t := by
  have h2 := congrArg (fun x => x.drop q.length) h
  simp only [List.drop_drop, List.drop_left] at h2
  obtain ⟨hn, h3, _⟩ := drop_head h2
  exact ⟨hn, h3⟩

/-- What is put in is taken, or nothing changes; where none waits it is taken. -/
theorem Live.put (hR : Made l R) (H : Live R Rm h) {o : Nat} (ho : o < 3) {t : Tx} {rest : List Tx} (hm : Rm o = t :: rest) :
    ((h.put t).2 = 0 ∧ Live R (upd Rm o rest) (h.put t).1 ∧ (h.put t).1 = { h with q := upd h.q o (h.q o ++ [t]) }) ∨ ((h.put t).2 ≠ 0 ∧ (h.put t).1 = h ∧ h.q o ≠ []) := by
  obtain ⟨n, ha, hn, hd⟩ := H.at_ o ho
  rw [hm] at hd
  obtain ⟨hlt, hg⟩ := drop_at hd
  obtain ⟨t1, t2, t3, t4⟩ := hR.one o ho _ hlt
  rw [hg] at t1 t2 t3 t4
  have hto : t.o.toNat = o := by rw [t1]; exact Int.toNat_natCast o
  unfold Hk.put
  rw [hto, if_neg (by rw [t3]; exact fun e => e rfl), if_neg (by rw [t2, ha]; push_cast; omega)]
  by_cases hf : 8 ≤ (h.q o).length
  · rw [if_pos hf]
    exact .inr ⟨(fun e => by cases e), rfl, (fun e => by rw [e] at hf; simp at hf)⟩
  · rw [if_neg hf]
    refine .inl ⟨rfl, ⟨?_, fun k hk => ?_⟩, rfl⟩
    · have := H.ok.put t
      unfold Hk.put at this
      rw [hto, if_neg (by rw [t3]; exact fun e => e rfl), if_neg (by rw [t2, ha]; push_cast; omega), if_neg hf] at this
      exact this
    · by_cases e : k = o
      · subst e
        exact ⟨n, ha, hn, by simp [upd, hd]⟩
      · obtain ⟨n', a1, a2, a3⟩ := H.at_ k hk
        exact ⟨n', a1, a2, by simp [upd, e, a3]⟩

theorem Live.run {L : List Tx} (r : Run h L h') (H : Live R Rm h) (hR : Made l R) : Live R Rm h' ∧ ∀ o, o < 3 → h.a o ≤ h'.a o := by
  induction r with
  | nil => exact ⟨H, fun o _ => Int.le_refl _⟩
  | @snoc h1 l i t rest hr hi hp hq ih =>
    obtain ⟨H1, hm⟩ := ih
    obtain ⟨hok, e1, e2⟩ := H1.ok.took hi hq
    refine ⟨⟨hok, fun o ho => ?_⟩, fun o ho => ?_⟩
    · obtain ⟨n, a1, a2, a3⟩ := H1.at_ o ho
      by_cases e : o = i
      · subst e
        rw [hq] at a3
        obtain ⟨hlt, hg, hd⟩ := drop_head (by simpa using a3)
        exact ⟨n + 1, by simp [Hk.took, upd]; omega, hlt, by simp [Hk.took, upd, hd]⟩
      · exact ⟨n, by simp [Hk.took, upd, e, a1], a2, by simp [Hk.took, upd, e, a3]⟩
    · have := hm o ho
      by_cases e : o = i
      · subst e
        simp [Hk.took, upd]
        omega
      · simp [Hk.took, upd, e]
        exact this

/-- Of each origin one waits, or none is left to be put in. -/
def Fed (Rm : Nat → List Tx) (h : Hk) (o : Nat) : Prop := h.q o ≠ [] ∨ Rm o = []

/-- Behind a round all of the first r + 1 are applied, if the first r were. -/
theorem Live.round {L : List Tx} (hR : Made l R) (H : Live R Rm h) (hf : ∀ o, o < 3 → Fed Rm h o) (r : Run h L h') (hp : h'.peek = none) (n : Nat) (h3 : ∀ o ∈ l, o < 3)
    (ha : ∀ o, o < 3 → (cntO (l.take n) o : Int) ≤ h.a o) : ∀ o, o < 3 → (cntO (l.take (n + 1)) o : Int) ≤ h'.a o := by
  obtain ⟨H', hm⟩ := H.run r hR
  intro o ho
  rcases Nat.lt_or_ge n l.length with hn | hn
  · rw [cntO_take l n o hn]
    by_cases e : l[n] = o
    · rw [if_pos e]
      obtain ⟨a0, p1, p2, p3⟩ := H.at_ o ho
      obtain ⟨a1, q1, q2, q3⟩ := H'.at_ o ho
      have ha' := ha o ho
      have hm' := hm o ho
      rcases Nat.lt_or_ge (cntO (l.take n) o) a1 with h1 | h1
      · push_cast; omega
      · exfalso
        have hc := cntO_take_lt l n hn
        rw [e] at hc
        have hlen := hR.len o ho
        have ea : a0 = a1 := by omega
        subst ea
        have ec : cntO (l.take n) o = a0 := by omega
        have hq : h'.q o ≠ [] := by
          intro hq
          rw [hq, List.nil_append] at q3
          rcases hf o ho with h4 | h4
          · rw [p3] at q3
            have h5 := congrArg List.length q3
            rw [List.length_append] at h5
            exact h4 (List.eq_nil_of_length_eq_zero (by omega))
          · rw [h4] at q3
            have h5 := congrArg List.length q3
            rw [List.length_drop] at h5
            simp at h5
            omega
        obtain ⟨t, rest, hq⟩ : ∃ t rest, h'.q o = t :: rest := by
          cases hx : h'.q o with
          | nil => exact absurd hx hq
          | cons t rest => exact ⟨t, rest, rfl⟩
        rw [hq] at q3
        obtain ⟨hlt, hg, _⟩ := drop_head (by simpa using q3)
        have hdep := hR.dep n hn (by rw [e]; exact ho)
        simp only [e, ec] at hdep
        obtain ⟨d0, d1, d2⟩ := hdep hlt
        rw [hg] at d0 d1 d2
        have hmay : h'.mayB o = true := by
          unfold Hk.mayB
          rw [hq]
          have b0 := ha 0 (by omega)
          have b1 := ha 1 (by omega)
          have b2 := ha 2 (by omega)
          have c0 := hm 0 (by omega)
          have c1 := hm 1 (by omega)
          have c2 := hm 2 (by omega)
          simp only [decide_eq_true_eq]
          omega
        have hno : h'.mayB o = false := by
          unfold Hk.peek at hp
          have hc : o = 0 ∨ o = 1 ∨ o = 2 := by omega
          cases m0 : h'.mayB 0 with
          | true => rw [m0] at hp; simp at hp
          | false =>
            cases m1 : h'.mayB 1 with
            | true => rw [m0, m1] at hp; simp at hp
            | false =>
              cases m2 : h'.mayB 2 with
              | true => rw [m0, m1, m2] at hp; simp at hp
              | false => rcases hc with rfl | rfl | rfl <;> assumption
        rw [hmay] at hno
        cases hno
    · rw [if_neg e]
      have ha' := ha o ho
      have hm' := hm o ho
      push_cast
      omega
  · have e1 : l.take (n + 1) = l.take n := by rw [List.take_of_length_le (by omega), List.take_of_length_le hn]
    rw [e1]
    have ha' := ha o ho
    have hm' := hm o ho
    omega

/-- All are applied. -/
theorem Live.all (hR : Made l R) (H : Live R Rm h) (n : Nat) (hn : l.length ≤ n) (ha : ∀ o, o < 3 → (cntO (l.take n) o : Int) ≤ h.a o) : ∀ o, o < 3 → h.a o = cntO l o := by
  intro o ho
  obtain ⟨a0, p1, p2, p3⟩ := H.at_ o ho
  have := ha o ho
  rw [List.take_of_length_le hn] at this
  rw [hR.len o ho] at p2
  omega
end
end Go.Proofs.Ytiomdclelbjmmaa
