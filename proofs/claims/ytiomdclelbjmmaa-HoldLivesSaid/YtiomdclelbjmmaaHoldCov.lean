/-
  What HoldCovered keeps on its way; what was put covers what is taken. Plain.
-/
import Derived.Test.YtiomdclelbjmmaaHoldUni
set_option linter.unusedVariables false
set_option linter.unusedSimpArgs false
namespace Go.Proofs.Ytiomdclelbjmmaa
open Go.RowKit

/-- Which blocks change: the hold, the clock of what is applied, the row of what was put. -/
def S3 (v : Value) (g nb : Nat) (k : Nat) : Prop := k = g ∨ k = nb ∨ v.ownBlock = some k

/-- Where the law stands: the hold h at g, the clock n at nb, what was put in a row of the call's own. -/
structure Cov (w : World) (g nb : Nat) (A : Option Addr) (l : List Act) (S : Nat → Prop) (v : Value) (P : List Tv) (h : Hk) (n : Nat → Int) (W : World) : Prop where
  x : HAt 61 S W g h
  now : Bk W nb 23 #[.int .i64 (n 0), .int .i64 (n 1), .int .i64 (n 2)]
  own : W.ownsRow w.heap.size 36 6 v P.length (txs P)
  wk : ∀ x ∈ P, Wk S W x
  acts : ActsAt S W A l
  l : Below w.heap.size w W
  lg : w.heap.size ≤ g
  ln : w.heap.size ≤ nb
  ne : g ≠ nb
  sn : S nb
  sv : ∀ k, v.ownBlock = some k → S k
  lt : ∀ k, S k → k < W.heap.size

section
variable {w W W1 W2 : World} {g nb : Nat} {A : Option Addr} {l : List Act} {S T : Nat → Prop} {v : Value} {P : List Tv} {h h' : Hk} {n : Nat → Int}

theorem Cov.vg (m : Cov w g nb A l S v P h n W) : v.ownBlock ≠ some g := by
  obtain ⟨cs, hk, _⟩ := m.x.row
  exact own_ne_bk m.own hk (by decide)
theorem Cov.vn (m : Cov w g nb A l S v P h n W) : v.ownBlock ≠ some nb := own_ne_bk m.own m.now (by decide)

/-- A step that leaves the hold, the clock and the row as they are; other blocks may be named from here on. -/
theorem Cov.ext (m : Cov w g nb A l S v P h n W) {K : Nat → Prop} (k : Kp K W W1) (hK : ∀ i, i < W.heap.size → K i → S i ∧ w.heap.size ≤ i) (kg : ¬ K g) (kn : ¬ K nb) (kv : ∀ b, v.ownBlock = some b → ¬ K b)
    (hS : ∀ i, T i → S i ∨ W.heap.size ≤ i) (tg : T g) (tn : T nb) (tv : ∀ k, v.ownBlock = some k → T k) (tl : ∀ i, T i → i < W1.heap.size) : Cov w g nb A l T v P h n W1 := by
  have hK1 : ∀ i, i < W.heap.size → K i → S i := fun i hi hk => (hK i hi hk).1
  refine ⟨m.x.ext k hK1 kg hS tg, m.now.kp k kn, own_kp m.own k kv, fun x hx => (m.wk x hx).ext k hK1 hS, m.acts.ext k hK1 hS, ?_, m.lg, m.ln, m.ne, tn, tv, tl⟩
  refine m.l.trans (k.below (B := w.heap.size) (fun i hi hk => ?_) m.l.size)
  have := (hK i (Nat.lt_of_lt_of_le hi m.l.size) hk).2
  omega

theorem Cov.quiet (m : Cov w g nb A l S v P h n W) (hb : Below W.heap.size W W1) : Cov w g nb A l S v P h n W1 :=
  m.ext (Kp.of_below hb) (fun i hi (e : W.heap.size ≤ i) => absurd hi (by omega)) (fun e : W.heap.size ≤ g => by have := m.x.lt; omega) (fun e : W.heap.size ≤ nb => by have := m.now.lt; omega) (fun b hb' (e : W.heap.size ≤ b) => by have := (own_ge m.own b hb').2; omega)
    (fun i hi => .inl hi) m.x.mem m.sn m.sv (fun i hi => Nat.lt_of_lt_of_le (m.lt i hi) hb.size)

theorem Cov.drew (m : Cov w g nb A l S v P h n W) : Cov w g nb A l S v P h n W.drew := m.quiet ⟨rfl, rfl, rfl, Nat.le_refl _, fun _ _ => rfl⟩

/-- Fewer blocks are named. -/
theorem Cov.less (m : Cov w g nb A l S v P h n W) : Cov w g nb A l (S3 v g nb) v P h n W := by
  have hS : ∀ i, S3 v g nb i → S i := by
    intro i hi
    rcases hi with rfl | rfl | hi
    · exact m.x.mem
    · exact m.sn
    · exact m.sv i hi
  exact m.ext (Kp.refl (fun _ => False) W) (fun i _ e => e.elim) id id (fun _ _ => id) (fun i hi => .inl (hS i hi)) (.inl rfl) (.inr (.inl rfl)) (fun k hk => .inr (.inr hk)) (fun i hi => m.lt i (hS i hi))

/-- The hold changes. -/
theorem Cov.stepH (m : Cov w g nb A l S v P h n W) (k : Kp (· = g) W W1) (hh : HAt 61 S W1 g h') : Cov w g nb A l S v P h' n W1 := by
  have hK1 : ∀ i, i < W.heap.size → i = g → S i := fun i _ e => by rw [e]; exact m.x.mem
  have hI : ∀ i, S i → S i ∨ W.heap.size ≤ i := fun i hi => .inl hi
  refine ⟨hh, m.now.kp k (fun e => m.ne e.symm), own_kp m.own k (fun b hb e => m.vg (by rw [hb, e])), fun x hx => (m.wk x hx).ext k hK1 hI, m.acts.ext k hK1 hI, ?_, m.lg, m.ln, m.ne, m.sn, m.sv, fun i hi => Nat.lt_of_lt_of_le (m.lt i hi) k.size⟩
  exact m.l.trans (k.below (B := w.heap.size) (fun i hi e => by have := m.lg; omega) m.l.size)

/-- The clock changes. -/
theorem Cov.stepN (m : Cov w g nb A l S v P h n W) {i : Nat} (hi : i < 3) (x : Int) : Cov w g nb A l S v P h (upd n i x) (W.setCell ⟨nb, i, none⟩ (.int .i64 x)) := by
  have k : Kp (· = nb) W (W.setCell ⟨nb, i, none⟩ (.int .i64 x)) := (Kp.refl (· = nb) W).set1 i _
  have hK1 : ∀ i, i < W.heap.size → i = nb → S i := fun i _ e => by rw [e]; exact m.sn
  have hI : ∀ i, S i → S i ∨ W.heap.size ≤ i := fun i hi => .inl hi
  have hb := m.now.put i (.int .i64 x)
  refine ⟨m.x.ext k hK1 m.ne hI m.x.mem, ?_, own_kp m.own k (fun b hb e => m.vn (by rw [hb, e])), fun x hx => (m.wk x hx).ext k hK1 hI, m.acts.ext k hK1 hI, ?_, m.lg, m.ln, m.ne, m.sn, m.sv, fun i hi => Nat.lt_of_lt_of_le (m.lt i hi) k.size⟩
  · have hc : i = 0 ∨ i = 1 ∨ i = 2 := by omega
    rcases hc with rfl | rfl | rfl <;> exact hb
  · exact m.l.trans (k.below (B := w.heap.size) (fun i hi e => by have := m.ln; omega) m.l.size)

/-- One more was put. -/
theorem Cov.stepP (m : Cov w g nb A l (S3 v g nb) v P h n W) {x : Tv} (hx : Wk (S3 v g nb) W x) {v' : Value} (hw : W.grownBy W2 v.ownBlock) (ho : W2.ownsRow w.heap.size 36 6 v' (P.length + 1) (txs P ++ x.cells)) (hv : v'.ownBlock = v.ownBlock ∨ v'.ownBlock = some W.heap.size) :
    Cov w g nb A l (S3 v' g nb) v' (P ++ [x]) h n W2 := by
  have k : Kp (fun k => v.ownBlock = some k) W W2 := (Kp.of_grown hw).mono (fun i _ e => e.symm)
  have hK1 : ∀ i, i < W.heap.size → v.ownBlock = some i → S3 v g nb i := fun i _ e => .inr (.inr e)
  have hS : ∀ i, S3 v' g nb i → S3 v g nb i ∨ W.heap.size ≤ i := by
    intro i hi
    rcases hi with rfl | rfl | hi
    · exact .inl (.inl rfl)
    · exact .inl (.inr (.inl rfl))
    · rcases hv with e | e
      · rw [e] at hi; exact .inl (.inr (.inr hi))
      · rw [e] at hi; injection hi with hi; exact .inr (by omega)
  have hcells : txs P ++ x.cells = txs (P ++ [x]) := by rw [txs_append]; simp [txs]
  rw [hcells] at ho
  refine ⟨m.x.ext k hK1 m.vg hS (.inl rfl), m.now.kp k m.vn, by rw [List.length_append]; exact ho, fun y hy => ?_, m.acts.ext k hK1 hS, ?_, m.lg, m.ln, m.ne, .inr (.inl rfl), fun k hk => .inr (.inr hk), fun i hi => ?_⟩
  · rcases List.mem_append.mp hy with hy | hy
    · exact (m.wk y hy).ext k hK1 hS
    · have : y = x := by simpa using hy
      subst this
      exact hx.ext k hK1 hS
  · exact m.l.trans (k.below (B := w.heap.size) (fun i hi e => by have := (own_ge m.own i e).1; omega) m.l.size)
  · rcases hi with rfl | rfl | hi
    · exact Nat.lt_of_lt_of_le m.x.lt k.size
    · exact Nat.lt_of_lt_of_le m.now.lt k.size
    · exact (own_ge ho i hi).2

theorem Cov.cells (m : Cov w g nb A l S v P h n W) : W.cell? ⟨nb, 0, none⟩ = some (.int .i64 (n 0)) ∧ W.cell? ⟨nb, 1, none⟩ = some (.int .i64 (n 1)) ∧ W.cell? ⟨nb, 2, none⟩ = some (.int .i64 (n 2)) :=
  ⟨m.now.cell 0, m.now.cell 1, m.now.cell 2⟩

theorem Cov.at_ (m : Cov w g nb A l S v P h n W) {i : Nat} (hi : i < 3) : W.cell? ⟨nb, i, none⟩ = some (.int .i64 (n i)) := by
  obtain ⟨a, b, c⟩ := m.cells
  have hc : i = 0 ∨ i = 1 ∨ i = 2 := by omega
  rcases hc with rfl | rfl | rfl <;> assumption
end

theorem ts_empty {S : Nat → Prop} {W : World} (ad : Addr) : Ts S W (.slice (some ad) 0 0) [] :=
  ⟨_, 0, [], rfl, Nat.le_refl _, (fun e => by cases e), rfl, fun j u hj => by simp [txs] at hj, fun x hx => by cases hx⟩

/-- All that wait were put. -/
def Sub (P : List Tv) (h : Hk) : Prop := (∀ x ∈ P, x.t.ws.length ≤ 1000000) ∧ ∀ i, i < 3 → ∀ t ∈ h.q i, t ∈ P.map Tv.t

theorem Sub.put {P : List Tv} {h : Hk} (H : Sub P h) (x : Tv) (hw : x.t.ws.length ≤ 1000000) (he : (h.put x.t).2 = 0) : Sub (P ++ [x]) (h.put x.t).1 := by
  refine ⟨fun y hy => ?_, ?_⟩
  · rcases List.mem_append.mp hy with hy | hy
    · exact H.1 y hy
    · have hy := List.mem_singleton.mp hy
      subst hy
      exact hw
  have H := H.2
  unfold Hk.put at he ⊢
  split at he
  · rename_i h1
    exact absurd he h1
  · rename_i h1
    rw [if_neg h1]
    split at he
    · cases he
    · rename_i h2
      rw [if_neg h2]
      split at he
      · cases he
      · rename_i h3
        rw [if_neg h3]
        intro i hi t ht
        rw [List.map_append]
        by_cases e : i = x.t.o.toNat
        · subst e
          simp only [upd, if_pos] at ht
          rcases List.mem_append.mp ht with ht | ht
          · exact List.mem_append.mpr (.inl (H _ hi t ht))
          · have ht := List.mem_singleton.mp ht
            subst ht
            exact List.mem_append.mpr (.inr (by simp))
        · simp only [upd, if_neg e] at ht
          exact List.mem_append.mpr (.inl (H i hi t ht))

theorem put_same {h : Hk} {t : Tx} (he : (h.put t).2 ≠ 0) : (h.put t).1 = h := by
  unfold Hk.put at he ⊢
  split at he
  · rename_i h1
    rw [if_pos h1]
  · rename_i h1
    rw [if_neg h1]
    split at he
    · rename_i h2
      rw [if_pos h2]
    · rename_i h2
      rw [if_neg h2]
      split at he
      · rename_i h3
        rw [if_pos h3]
      · exact absurd rfl he

theorem Run.sub {P : List Tv} {h h' : Hk} {l : List Tx} (r : Run h l h') (H : Sub P h) : (∀ t ∈ l, t ∈ P.map Tv.t) ∧ Sub P h' := by
  induction r with
  | nil => exact ⟨(fun t ht => by cases ht), H⟩
  | snoc hr hi hp hq ih =>
    rename_i h1 l i t rest
    obtain ⟨i1, i0, i2⟩ := ih
    refine ⟨fun u hu => ?_, i0, fun k hk u hu => ?_⟩
    · rcases List.mem_append.mp hu with hu | hu
      · exact i1 u hu
      · have hu := List.mem_singleton.mp hu
        subst hu
        exact i2 i hi u (by rw [hq]; simp)
    · by_cases e : k = i
      · subst e
        simp only [Hk.took, upd, if_pos] at hu
        exact i2 k hk u (by rw [hq]; simp [hu])
      · simp only [Hk.took, upd, if_neg e] at hu
        exact i2 k hk u hu

/-- What is taken as the k-th: where the hold stood, and what it told. -/
theorem Run.nth {h h' : Hk} {l : List Tx} (r : Run h l h') : ∀ (k : Nat) (hk : k < l.length), ∃ h1 i rest, Run h (l.take k) h1 ∧ i < 3 ∧ h1.peek = some i ∧ h1.q i = l[k] :: rest ∧ Run h (l.take (k + 1)) (h1.took i rest l[k].s) := by
  induction r with
  | nil => intro k hk; simp at hk
  | snoc hr hi hp hq ih =>
    rename_i h1 l i t rest
    intro k hk
    by_cases e : k < l.length
    · obtain ⟨h2, i2, rest2, r2, hi2, p2, q2, r3⟩ := ih k e
      have eg : (l ++ [t])[k] = l[k] := List.getElem_append_left e
      have e1 : (l ++ [t]).take k = l.take k := List.take_append_of_le_length (by omega)
      have e2 : (l ++ [t]).take (k + 1) = l.take (k + 1) := List.take_append_of_le_length (by omega)
      rw [eg, e1, e2]
      exact ⟨h2, i2, rest2, r2, hi2, p2, q2, r3⟩
    · have hk' : k = l.length := by
        rw [List.length_append] at hk
        simp at hk
        omega
      subst hk'
      have eg : (l ++ [t])[l.length] = t := by simp
      have e1 : (l ++ [t]).take l.length = l := by simp
      have e2 : (l ++ [t]).take (l.length + 1) = l ++ [t] := List.take_of_length_le (by simp)
      rw [eg, e1, e2]
      exact ⟨h1, i, rest, hr, hi, hp, hq, Run.snoc hr hi hp hq⟩

theorem Run.same {h h1 h2 : Hk} {l : List Tx} (r : Run h l h1) (r2 : Run h l h2) : h1 = h2 := (r.alike r2 rfl).2

/-- What is told by peek is covered, and comes next. -/
theorem peek_says {h : Hk} (H : h.ok) {i : Nat} (hi : i < 3) (hp : h.peek = some i) {t : Tx} {rest : List Tx} (hq : h.q i = t :: rest) : t.o = i ∧ t.s = h.a i + 1 ∧ t.d0 ≤ h.a 0 ∧ t.d1 ≤ h.a 1 ∧ t.d2 ≤ h.a 2 ∧ 0 ≤ h.a i ∧ t.s ≤ 4611686018427387903 ∧ t.ws.length ≤ 1000000 := by
  obtain ⟨_, h1, h2⟩ := H.took hi hq
  have hm := (peek_lt hp).2
  unfold Hk.mayB at hm
  rw [hq] at hm
  simp only [decide_eq_true_eq] at hm
  have h3 := (H.took hi hq).1.a i hi
  simp only [Hk.took, upd, if_pos] at h3
  exact ⟨h1, h2, hm.1, hm.2.1, hm.2.2, (H.a i hi).1, h3.2, H.ws i hi t (by rw [hq]; simp)⟩

/-- Between two statements: what was put lies in v8, what was taken in v11. -/
def MidC (w : World) (g nb : Nat) (A : Option Addr) (l : List Act) (k : Nat) (v8 v11 : Value) (W : World) : Prop :=
  ∃ (P : List Tv) (hA hB : Hk) (L : List Tx) (A1 : Option Addr) (c1 : Nat), v11 = .slice A1 L.length c1 ∧ Ts (S3 v8 g nb) W (.slice A1 L.length c1) L ∧ Run hA L hB ∧ hA.ok ∧ Sub P hA ∧ P.length ≤ k + 1 ∧ Cov w g nb A l (S3 v8 g nb) v8 P hB hA.a W

/-- The law's round over what was taken. -/
structure CovT (w : World) (g nb : Nat) (A : Option Addr) (l : List Act) (v : Value) (P : List Tv) (h : Hk) (n : Nat → Int) (A1 : Option Addr) (c1 : Nat) (L : List Tx) (W : World) : Prop where
  c : Cov w g nb A l (S3 v g nb) v P h n W
  t : Ts (S3 v g nb) W (.slice A1 L.length c1) L

section
variable {w W W1 : World} {g nb : Nat} {A A1 : Option Addr} {l : List Act} {v : Value} {P : List Tv} {h : Hk} {n : Nat → Int} {c1 : Nat} {L : List Tx}
theorem CovT.quiet (m : CovT w g nb A l v P h n A1 c1 L W) (hb : Below W.heap.size W W1) : CovT w g nb A l v P h n A1 c1 L W1 := ⟨m.c.quiet hb, m.t.below hb⟩
theorem CovT.drew (m : CovT w g nb A l v P h n A1 c1 L W) : CovT w g nb A l v P h n A1 c1 L W.drew := m.quiet ⟨rfl, rfl, rfl, Nat.le_refl _, fun _ _ => rfl⟩
theorem CovT.stepN (m : CovT w g nb A l v P h n A1 c1 L W) {i : Nat} (hi : i < 3) (x : Int) : CovT w g nb A l v P h (upd n i x) A1 c1 L (W.setCell ⟨nb, i, none⟩ (.int .i64 x)) :=
  ⟨m.c.stepN hi x, m.t.kp ((Kp.refl (· = nb) W).set1 i _) (fun i e => .inr (.inl e))⟩
end

/-- .. and a box with what is looked at. -/
structure CovB (w : World) (g nb : Nat) (A : Option Addr) (l : List Act) (v : Value) (P : List Tv) (h : Hk) (n : Nat → Int) (A1 : Option Addr) (c1 : Nat) (L : List Tx) (cc : Nat) (x : Tv) (W : World) : Prop where
  c : CovT w g nb A l v P h n A1 c1 L W
  b : Bk W cc 36 (txc x)
  k : Wk (S3 v g nb) W x

section
variable {w W W1 : World} {g nb cc : Nat} {A A1 : Option Addr} {l : List Act} {v : Value} {P : List Tv} {h : Hk} {n : Nat → Int} {c1 : Nat} {L : List Tx} {x : Tv}
theorem CovB.quiet (m : CovB w g nb A l v P h n A1 c1 L cc x W) (hb : Below W.heap.size W W1) : CovB w g nb A l v P h n A1 c1 L cc x W1 := ⟨m.c.quiet hb, m.b.below hb m.b.lt, m.k.below hb⟩
theorem CovB.drew (m : CovB w g nb A l v P h n A1 c1 L cc x W) : CovB w g nb A l v P h n A1 c1 L cc x W.drew := m.quiet ⟨rfl, rfl, rfl, Nat.le_refl _, fun _ _ => rfl⟩
theorem CovB.cells (m : CovB w g nb A l v P h n A1 c1 L cc x W) {i : Nat} (hi : i < 3) : W.cell? ⟨cc, 0, none⟩ = some (.int .i64 x.t.o) ∧ W.cell? ⟨cc, 1, none⟩ = some (.int .i64 x.t.s) ∧ W.cell? ⟨cc, 2, none⟩ = some (.int .i64 x.t.d0) ∧ W.cell? ⟨cc, 3, none⟩ = some (.int .i64 x.t.d1) ∧ W.cell? ⟨cc, 4, none⟩ = some (.int .i64 x.t.d2) ∧ W.cell? ⟨cc, 5, none⟩ = some (.slice x.A x.t.ws.length x.c) ∧
    W.cell? ⟨nb, 0, none⟩ = some (.int .i64 (n 0)) ∧ W.cell? ⟨nb, 1, none⟩ = some (.int .i64 (n 1)) ∧ W.cell? ⟨nb, 2, none⟩ = some (.int .i64 (n 2)) ∧ W.cell? ⟨nb, i, none⟩ = some (.int .i64 (n i)) :=
  ⟨m.b.cell 0, m.b.cell 1, m.b.cell 2, m.b.cell 3, m.b.cell 4, m.b.cell 5, m.c.c.cells.1, m.c.c.cells.2.1, m.c.c.cells.2.2, m.c.c.at_ hi⟩
end

/-- Was one of the first m just this? -/
def Seen (P : List Tv) (m : Nat) (t : Tx) (bb : Bool) : Prop := ∀ q (hq : q < P.length), q < m → P[q].t = t → bb = true

theorem Seen.next {P : List Tv} {m : Nat} {t : Tx} {bb : Bool} (h : Seen P m t bb) (hm : m < P.length) (b2 : Bool) (h1 : bb = true → b2 = true) (h2 : P[m].t = t → b2 = true) : Seen P (m + 1) t b2 := by
  intro q hq hlt e
  by_cases e2 : q = m
  · subst e2; exact h2 e
  · exact h1 (h q hq (by omega) e)

theorem Seen.all {P : List Tv} {m : Nat} {t : Tx} {bb : Bool} (h : Seen P m t bb) (hm : P.length ≤ m) (ht : t ∈ P.map Tv.t) : bb = true := by
  obtain ⟨x, hx, rfl⟩ := List.mem_map.mp ht
  obtain ⟨q, hq, rfl⟩ := List.mem_iff_getElem.mp hx
  exact h q hq (by omega) rfl

/-- The j-th transaction of a slice. -/
theorem ts_at {S : Nat → Prop} {w : World} {A : Option Addr} {c : Nat} {L : List Tx} (h : Ts S w (.slice A L.length c) L) {j : Nat} (hj : j < L.length) :
    ∃ (x : Tv) (g o : Nat), x.t = L[j] ∧ A = some ⟨g, o, none⟩ ∧ w.cell? ⟨g, o + j * 6, none⟩ = some (.int .i64 x.t.o) ∧ w.cell? ⟨g, o + j * 6 + 1, none⟩ = some (.int .i64 x.t.s) ∧ w.cell? ⟨g, o + j * 6 + 2, none⟩ = some (.int .i64 x.t.d0) ∧
      w.cell? ⟨g, o + j * 6 + 3, none⟩ = some (.int .i64 x.t.d1) ∧ w.cell? ⟨g, o + j * 6 + 4, none⟩ = some (.int .i64 x.t.d2) ∧ w.cell? ⟨g, o + j * 6 + 5, none⟩ = some (.slice x.A x.t.ws.length x.c) ∧ Wk S w x := by
  obtain ⟨A', c', L', e1, _, _, rfl, s1, k1⟩ := h.row
  obtain ⟨rfl, -, rfl⟩ : A = A' ∧ True ∧ c = c' := by injection e1 with a b d; exact ⟨a, trivial, d⟩
  have hj' : j < L'.length := by simpa using hj
  obtain ⟨g, o, e, hl, q0, q1, q2, q3, q4, q5⟩ := tx_cells s1.rd hj'
  exact ⟨L'[j], g, o, by simp, e, q0, q1, q2, q3, q4, q5, k1 _ (List.getElem_mem hj')⟩

theorem put_a (h : Hk) (t : Tx) : (h.put t).1.a = h.a := by
  unfold Hk.put
  split
  · rfl
  · split
    · rfl
    · split <;> rfl
end Go.Proofs.Ytiomdclelbjmmaa
