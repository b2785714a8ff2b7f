/-
  All: what it takes; the document's All.
-/
import Derived.Test.YtiomdclelbjmmaaHoldRPut
set_option linter.unusedVariables false
set_option linter.unusedSimpArgs false
namespace Go.Proofs.Ytiomdclelbjmmaa
open Go.RowKit

theorem run_app2 {P : Program} (w : World) (base : Nat) (t ty e : TypeId) (i : TypeInfo) (z : Value) (size bytes : Nat) (ht : P.underlying t = some (.slice e)) (hi : P.info? e = some i) (hz : i.zero = some z)
    (hsize : i.size = size) (hby : i.bytes = bytes) (hzs : z.cells.size = size) (hsz : 0 < size) (v : Value) (n : Nat) (xs : List Value) (hown : w.ownsRow base e size v n xs)
    (A : Option Addr) (m c : Nat) (news : List Value) (hA : A = none → m = 0) (hl : news.length = m * size) (hnews : Rd w A news) (h1 : ∀ u ∈ news, u.oneCell' = true)
    (h63 : n + m ≤ maxLen) (hbytes : (n + m) * bytes ≤ 140737488355328) (hbase : base ≤ w.heap.size) :
    ∃ A' c' w', (Builtin.append_ #[t, t] ty #[v, .slice A m c]).run P w = .ok (.slice A' (n + m) c') w' ∧ w'.ownsRow base e size (.slice A' (n + m) c') (n + m) (xs ++ news) ∧ w.grownBy w' v.ownBlock ∧ ((Value.slice A' (n + m) c').ownBlock = v.ownBlock ∨ (Value.slice A' (n + m) c').ownBlock = some w.heap.size) := by
  cases A with
  | none =>
    obtain rfl := hA rfl
    obtain rfl : news = [] := List.eq_nil_of_length_eq_zero (by simpa using hl)
    obtain ⟨A', c', rfl⟩ := own_shape hown
    have hc : n ≤ c' := by
      rcases own_form hown with ⟨_, e1, _⟩ | ⟨g, cap, hv, _, _, e2, _⟩
      · omega
      · injection hv with _ _ hv; omega
    exact ⟨A', c', w, run_append_none w t e ty i ht hi A' n c' c hc, by simpa using hown, World.grownBy.refl w _, .inl rfl⟩
  | some ad =>
    obtain ⟨v', w', hrun, h2, h3, _, h5⟩ := run_append_own_at (P := P) w base t ty e i z size bytes ht hi hz hsize hby hzs hsz v n xs hown ad m c news hl hnews.news h1 h63 hbytes hbase
    obtain ⟨A', c', rfl⟩ := own_shape h2
    exact ⟨A', c', w', hrun, h2, h3, h5⟩

theorem wp_app2 {P : Program} {w : World} {o : Oper} {a : Act} {K : Act → World → Prop} {Q : Exit → Act → World → Prop} (s x : Operand) (t : TypeId)
    (ho : o.op = .call { callee := .builtin .append, args := #[s, x], argTypes := #[t, t] })
    (base : Nat) (e : TypeId) (i : TypeInfo) (z : Value) (size bytes : Nat) (ht : P.underlying t = some (.slice e)) (hi : P.info? e = some i) (hz : i.zero = some z)
    (hsize : i.size = size) (hby : i.bytes = bytes) (hzs : z.cells.size = size) (hsz : 0 < size) (v : Value) (n : Nat) (xs : List Value) (hs : a.eval s = v) (hown : w.ownsRow base e size v n xs)
    (A : Option Addr) (m c : Nat) (news : List Value) (hx : a.eval x = .slice A m c) (hA : A = none → m = 0) (hl : news.length = m * size) (hnews : Rd w A news) (h1 : ∀ u ∈ news, u.oneCell' = true)
    (h63 : n + m ≤ maxLen) (hbytes : (n + m) * bytes ≤ 140737488355328) (hbase : base ≤ w.heap.size)
    (h : ∀ A' c' w', w'.ownsRow base e size (.slice A' (n + m) c') (n + m) (xs ++ news) → w.grownBy w' v.ownBlock → ((Value.slice A' (n + m) c').ownBlock = v.ownBlock ∨ (Value.slice A' (n + m) c').ownBlock = some w.heap.size) → K (a.put o.dst (.slice A' (n + m) c')) w') : o.wp P a w K Q := by
  obtain ⟨A', c', w', hrun, h2, h3, h5⟩ := run_app2 (P := P) w base t o.type e i z size bytes ht hi hz hsize hby hzs hsz v n xs hown A m c news hA hl hnews h1 h63 hbytes hbase
  unfold Oper.wp execOp
  simp only [ho, resolve, invoke, builtin, Sem.run_bind, Sem.run_pure, Result.andThen_ok, List.map_toArray, List.map_cons, List.map_nil, hs, hx, hrun]
  exact h A' c' w' h2 h3 h5

theorem wpList_app2 {P : Program} {w : World} {ops : Array Oper} {rest : List Oper} {o : Oper} {a : Act} {Q : Exit → Act → World → Prop} (hgd : o.guard = none) (s x : Operand) (t : TypeId)
    (ho : o.op = .call { callee := .builtin .append, args := #[s, x], argTypes := #[t, t] })
    (base : Nat) (e : TypeId) (i : TypeInfo) (z : Value) (size bytes : Nat) (ht : P.underlying t = some (.slice e)) (hi : P.info? e = some i) (hz : i.zero = some z)
    (hsize : i.size = size) (hby : i.bytes = bytes) (hzs : z.cells.size = size) (hsz : 0 < size) (v : Value) (n : Nat) (xs : List Value) (hs : a.eval s = v) (hown : w.ownsRow base e size v n xs)
    (A : Option Addr) (m c : Nat) (news : List Value) (hx : a.eval x = .slice A m c) (hA : A = none → m = 0) (hl : news.length = m * size) (hnews : Rd w A news) (h1 : ∀ u ∈ news, u.oneCell' = true)
    (h63 : n + m ≤ maxLen) (hbytes : (n + m) * bytes ≤ 140737488355328) (hbase : base ≤ w.heap.size)
    (h : ∀ A' c' w', w'.ownsRow base e size (.slice A' (n + m) c') (n + m) (xs ++ news) → w.grownBy w' v.ownBlock → ((Value.slice A' (n + m) c').ownBlock = v.ownBlock ∨ (Value.slice A' (n + m) c').ownBlock = some w.heap.size) → wpList P ops Q rest (a.put o.dst (.slice A' (n + m) c')) w') : wpList P ops Q (o :: rest) a w :=
  wpList_plain hgd fun _ hK => wp_app2 s x t ho base e i z size bytes ht hi hz hsize hby hzs hsz v n xs hs hown A m c news hx hA hl hnews h1 h63 hbytes hbase fun A' c' w' h2 h3 h5 => hK _ _ (h A' c' w' h2 h3 h5)


/-- From one hold to another one by taking these, one behind the other. -/
inductive Run : Hk → List Tx → Hk → Prop
  | nil (h : Hk) : Run h [] h
  | snoc {h h1 : Hk} {l : List Tx} {i : Nat} {t : Tx} {rest : List Tx} (hr : Run h l h1) (hi : i < 3) (hp : h1.peek = some i) (hq : h1.q i = t :: rest) : Run h (l ++ [t]) (h1.took i rest t.s)

theorem Run.ok {h h' : Hk} {l : List Tx} (r : Run h l h') (H : h.ok) : h'.ok := by
  induction r with
  | nil => exact H
  | snoc hr hi hp hq ih => exact (ih.took hi hq).1

def Hk.cnt (h : Hk) : Nat := (h.q 0).length + (h.q 1).length + (h.q 2).length

theorem cnt_took {h : Hk} {i : Nat} {t : Tx} {rest : List Tx} {s : Int} (hi : i < 3) (hq : h.q i = t :: rest) : (h.took i rest s).cnt + 1 = h.cnt := by
  unfold Hk.cnt Hk.took upd
  have hc : i = 0 ∨ i = 1 ∨ i = 2 := by omega
  rcases hc with rfl | rfl | rfl
  · rw [hq]; simp; omega
  · rw [hq]; simp; omega
  · rw [hq]; simp; omega

theorem Run.cnt {h h' : Hk} {l : List Tx} (r : Run h l h') : l.length + h'.cnt = h.cnt := by
  induction r with
  | nil => simp
  | snoc hr hi hp hq ih =>
    rename_i h1 l i t rest
    have h2 := cnt_took (s := t.s) hi hq
    rw [List.length_append]
    simp only [List.length_cons, List.length_nil]
    omega

theorem cnt_le {h : Hk} (H : h.ok) : h.cnt ≤ 24 := by
  have a := H.n 0 (by omega)
  have b := H.n 1 (by omega)
  have c := H.n 2 (by omega)
  unfold Hk.cnt
  omega

/-- How long the slice in a cell is. -/
def cellLen (w : World) (b o : Nat) : Nat := match w.cell? ⟨b, o, none⟩ with
  | some (.slice _ n _) => n
  | _ => 0

def lens (w : World) (b : Nat) : Nat := cellLen w b 3 + cellLen w b 4 + cellLen w b 5

theorem lens_eq {T : TypeId} {S : Nat → Prop} {w : World} {b : Nat} {h : Hk} (H : HAt T S w b h) : lens w b = h.cnt := by
  obtain ⟨A0, c0, q0⟩ := H.qu (i := 0) (by omega)
  obtain ⟨A1, c1, q1⟩ := H.qu (i := 1) (by omega)
  obtain ⟨A2, c2, q2⟩ := H.qu (i := 2) (by omega)
  unfold lens cellLen Hk.cnt
  simp only [Nat.add_zero, Nat.reduceAdd] at q0 q1 q2
  rw [q0, q1, q2]

section
variable {S1 S2 K : Nat → Prop} {w1 w2 : World}
theorem Sh.ext {A : Option Addr} {xs : List Value} (h : Sh S1 w1 A xs) (k : Kp K w1 w2) (hK : ∀ i, i < w1.heap.size → K i → S1 i) (hS : ∀ i, S2 i → S1 i ∨ w1.heap.size ≤ i) : Sh S2 w2 A xs := fun j u hj => by
  obtain ⟨b, o, rfl, hl, hn, hc⟩ := h j u hj
  refine ⟨b, o, rfl, Nat.lt_of_lt_of_le hl k.size, fun h2 => ?_, (k.cell (p := ⟨b, o + j, none⟩) hl (fun ht => hn (hK _ hl ht))).trans hc⟩
  rcases hS b h2 with h3 | h3
  · exact hn h3
  · omega

theorem Wk.ext {x : Tv} (h : Wk S1 w1 x) (k : Kp K w1 w2) (hK : ∀ i, i < w1.heap.size → K i → S1 i) (hS : ∀ i, S2 i → S1 i ∨ w1.heap.size ≤ i) : Wk S2 w2 x := ⟨h.sh.ext k hK hS, h.nil⟩

theorem Ts.ext {v : Value} {Q : List Tx} (h : Ts S1 w1 v Q) (k : Kp K w1 w2) (hK : ∀ i, i < w1.heap.size → K i → S1 i) (hS : ∀ i, S2 i → S1 i ∨ w1.heap.size ≤ i) : Ts S2 w2 v Q := by
  obtain ⟨A, c, L, h1, h2, h3, h4, h5, h6⟩ := h.row
  exact ⟨A, c, L, h1, h2, h3, h4, h5.ext k hK hS, fun x hx => (h6 x hx).ext k hK hS⟩

/-- Other blocks may be named as such that change, if they are new. -/
theorem HAt.ext {T : TypeId} {b : Nat} {h : Hk} (H : HAt T S1 w1 b h) (k : Kp K w1 w2) (hK : ∀ i, i < w1.heap.size → K i → S1 i) (hb : ¬ K b) (hS : ∀ i, S2 i → S1 i ∨ w1.heap.size ≤ i) (h2 : S2 b) : HAt T S2 w2 b h := by
  obtain ⟨cs, hk, hc⟩ := H.row
  exact ⟨h2, cs, hk.kp k hb, hc.size, hc.app, fun i hi => by obtain ⟨v, a, b⟩ := hc.que i hi; exact ⟨v, a, b.ext k hK hS⟩⟩
end

def isOne (v : Value) : Nat := match v with
  | .bool true => 1
  | _ => 0

/-- What All leaves. -/
def AlPost (T : TypeId) (S : Nat → Prop) (b : Nat) (h : Hk) (w : World) (e : Ending) (w' : World) : Prop :=
  Kp (· = b) w w' ∧ ∃ l h' A c, Run h l h' ∧ h'.peek = none ∧ e = .returned (.slice A l.length c) ∧ Ts S w' (.slice A l.length c) l ∧ HAt T S w' b h'

/-- Which blocks change on the way. -/
def Sx (S : Nat → Prop) (v : Value) (g : Nat) (k : Nat) : Prop := S k ∨ v.ownBlock = some k ∨ k = g

/-- Where All stands: what was taken lies in a row, the last one that was taken in a box. -/
structure AlSt (T : TypeId) (S : Nat → Prop) (b : Nat) (h : Hk) (w : World) (v : Value) (g : Nat) (is : Bool) (W : World) : Prop where
  kp : Kp (· = b) w W
  ge : w.heap.size ≤ g
  row : ∃ pre L h1 cs, W.ownsRow w.heap.size 36 6 v L.length (txs L) ∧ L.map Tv.t = pre ∧ (∀ x ∈ L, Wk (Sx S v g) W x) ∧ v.ownBlock ≠ some g ∧ HAt T (Sx S v g) W b h1 ∧ h1.ok ∧ Bk W g 36 cs ∧
    (is = false → Run h pre h1 ∧ h1.peek = none) ∧ (is = true → ∃ x, cs = txc x ∧ Wk (Sx S v g) W x ∧ Run h (pre ++ [x.t]) h1)

theorem txc_cells (x : Tv) : (txc x).toList = x.cells := rfl

/-- A transaction's cells, wherever they lie. -/
theorem al_first {T : TypeId} {S : Nat → Prop} {b : Nat} {h h1 : Hk} {w W W1 : World} {v : Value} {L : List Tv} {g0 : Nat} {cs : Array Value} {is : Bool} (hT : 36 ≠ T) (hkp : Kp (· = b) w W) (hbw : b < w.heap.size) (ho : W.ownsRow w.heap.size 36 6 v L.length (txs L)) (hLw : ∀ x ∈ L, Wk (Sx S v g0) W x)
    (hg0 : v.ownBlock = some g0 ∨ S g0 ∨ g0 < W.heap.size) (hSlt : ∀ k, S k → k < w.heap.size) (hk1 : Kp (· = b) W W1) (hh : HAt T (Sx S v g0) W1 b h1) (hSb : S b) (hok : h1.ok) (hHW : HAt T (Sx S v g0) W b h)
    (hf : is = false → Run h (L.map Tv.t) h1 ∧ h1.peek = none) (ht : is = true → ∃ x, cs = txc x ∧ Wk (Sx S v g0) W1 x ∧ Run h (L.map Tv.t ++ [x.t]) h1) :
    AlSt T S b h w v W1.heap.size is (W1.alloc (.cells cs 36)) := by
  obtain ⟨csb, hbk, _⟩ := hHW.row
  have ho1 := own_kp ho hk1 (fun g hg e => own_ne_bk ho hbk hT (by rw [hg, e]))
  have ho2 := own_new ho1 ((Below.refl _ W1).alloc (Nat.le_refl _) (.cells cs 36))
  have kA : Kp (fun _ => False) W1 (W1.alloc (.cells cs 36)) := (Kp.refl _ W1).alloc _
  have hS2 : ∀ i, Sx S v W1.heap.size i → Sx S v g0 i ∨ W1.heap.size ≤ i := by
    intro i hi
    rcases hi with hi | hi | hi
    · exact .inl (.inl hi)
    · exact .inl (.inr (.inl hi))
    · exact .inr (Nat.le_of_eq hi.symm)
  refine ⟨(hkp.tr hk1).alloc _, Nat.le_trans hkp.size hk1.size, L.map Tv.t, L, h1, cs, ho2, rfl, fun x hx => ?_, fun e => ?_, ?_, hok, Bk.new W1 _ _, hf, fun e => ?_⟩
  · have h1 := (hLw x hx).ext hk1 (fun i _ e => by rw [e]; exact .inl hSb) (fun i hi => .inl hi) (S2 := Sx S v g0)
    exact h1.ext kA (fun i _ e => e.elim) hS2
  · have := (own_ge ho1 _ e).2
    omega
  · exact hh.ext kA (fun i _ e => e.elim) id hS2 (.inl hSb)
  · obtain ⟨x, hx, hw, hr⟩ := ht e
    exact ⟨x, hx, hw.ext kA (fun i _ e => e.elim) hS2, hr⟩

/-- Where All stands ahead of its next Take. -/
structure AlMid (T : TypeId) (S : Nat → Prop) (b : Nat) (h : Hk) (w : World) (v : Value) (g : Nat) (L : List Tv) (h1 : Hk) (cs : Array Value) (W : World) : Prop where
  kp : Kp (· = b) w W
  ge : w.heap.size ≤ g
  own : W.ownsRow w.heap.size 36 6 v L.length (txs L)
  wk : ∀ x ∈ L, Wk (Sx S v g) W x
  ne : v.ownBlock ≠ some g
  at_ : HAt T (Sx S v g) W b h1
  ok : h1.ok
  bk : Bk W g 36 cs
  run : Run h (L.map Tv.t) h1

theorem al_mid {T : TypeId} {S : Nat → Prop} {b : Nat} {h h1 : Hk} {w W Wc w2 : World} {v v' : Value} {g : Nat} {L : List Tv} {x : Tv} (hT : 36 ≠ T) (hSb : S b) (hkp : Kp (· = b) w W) (hge : w.heap.size ≤ g) (ho : W.ownsRow w.heap.size 36 6 v L.length (txs L)) (hLw : ∀ y ∈ L, Wk (Sx S v g) W y) (hne : v.ownBlock ≠ some g)
    (hh : HAt T (Sx S v g) W b h1) (hok : h1.ok) (hbk : Bk W g 36 (txc x)) (hx : Wk (Sx S v g) W x) (hr : Run h (L.map Tv.t ++ [x.t]) h1)
    (hc : Kp (fun _ => False) W Wc) (hcs : W.heap.size ≤ Wc.heap.size) (hg : Wc.grownBy w2 v.ownBlock) (ho' : w2.ownsRow w.heap.size 36 6 v' (L.length + 1) (txs L ++ x.cells)) (hv' : v'.ownBlock = v.ownBlock ∨ v'.ownBlock = some Wc.heap.size) :
    AlMid T S b h w v' w2.heap.size (L ++ [x]) h1 (txc x) (w2.alloc (.cells (txc x) 36)) ∧ Bk w2 g 36 (txc x) := by
  obtain ⟨csb, hbk2, _⟩ := hh.row
  have hnb : v.ownBlock ≠ some b := own_ne_bk ho hbk2 hT
  have k2 : Kp (fun k => v.ownBlock = some k) Wc w2 := by
    have := Kp.of_grown hg
    exact this.mono (fun i _ e => e.symm)
  have k3 : Kp (fun k => v.ownBlock = some k) W w2 := (hc.mono (fun i _ e => e.elim)).tr k2
  have k4 : Kp (fun k => v.ownBlock = some k) W (w2.alloc (.cells (txc x) 36)) := k3.alloc _
  have hs2 := hg.size
  have hS2 : ∀ i, Sx S v' w2.heap.size i → Sx S v g i ∨ W.heap.size ≤ i := by
    intro i hi
    rcases hi with hi | hi | hi
    · exact .inl (.inl hi)
    · rcases hv' with e | e
      · rw [e] at hi; exact .inl (.inr (.inl hi))
      · rw [e] at hi
        injection hi with hi
        exact .inr (by omega)
    · exact .inr (by omega)
  have hb2 := hbk.kp k3 hne
  have hcells : txs L ++ x.cells = txs (L ++ [x]) := by rw [txs_append]; simp [txs]
  rw [hcells] at ho'
  have ho2 := own_new ho' ((Below.refl _ w2).alloc (Nat.le_refl _) (.cells (txc x) 36))
  refine ⟨⟨?_, ?_, ?_, fun y hy => ?_, fun e => ?_, ?_, hok, Bk.new w2 _ _, ?_⟩, hb2⟩
  · have a : Kp (fun k => k = b ∨ w.heap.size ≤ k) w W := hkp.mono (fun i _ e => .inl e)
    have a2 := a.trans k4 (fun i hi e => .inr (own_ge ho i e).1)
    exact a2.mono (fun i hi e => by rcases e with e | e; exact e; omega)
  · have := hkp.size; omega
  · rw [List.length_append]; exact ho2
  · rcases List.mem_append.mp hy with hy | hy
    · exact (hLw y hy).ext k4 (fun i _ e => .inr (.inl e)) hS2
    · have : y = x := by simpa using hy
      subst this
      exact hx.ext k4 (fun i _ e => .inr (.inl e)) hS2
  · have := (own_ge ho' _ e).2
    omega
  · exact hh.ext k4 (fun i _ e => .inr (.inl e)) hnb hS2 (.inl hSb)
  · rw [List.map_append]; exact hr

theorem al_next {T : TypeId} {S : Nat → Prop} {b : Nat} {h h1 h2 : Hk} {w W W1 W2 : World} {v : Value} {g : Nat} {L : List Tv} {cs cs' : Array Value} {is : Bool} (hT : 36 ≠ T) (hSb : S b) (m : AlMid T S b h w v g L h1 cs W) (hk1 : Kp (· = b) W W1) (hgb : g ≠ b) (hh : HAt T (Sx S v g) W1 b h2) (hok : h2.ok) (k2 : Kp (· = g) W1 W2) (hbk : Bk W2 g 36 cs')
    (hf : is = false → Run h (L.map Tv.t) h2 ∧ h2.peek = none) (ht : is = true → ∃ x, cs' = txc x ∧ Wk (Sx S v g) W1 x ∧ Run h (L.map Tv.t ++ [x.t]) h2) :
    AlSt T S b h w v g is W2 := by
  obtain ⟨csb, hbk2, _⟩ := m.at_.row
  have ho1 := own_kp m.own hk1 (fun k hk e => own_ne_bk m.own hbk2 hT (by rw [hk, e]))
  have ho2 := own_kp ho1 k2 (fun k hk e => m.ne (by rw [hk, e]))
  have hI : ∀ i, Sx S v g i → Sx S v g i ∨ W.heap.size ≤ i := fun i hi => .inl hi
  have hI1 : ∀ i, Sx S v g i → Sx S v g i ∨ W1.heap.size ≤ i := fun i hi => .inl hi
  have kb : ∀ i, i < W.heap.size → i = b → Sx S v g i := fun i _ e => by rw [e]; exact .inl hSb
  have kg : ∀ i, i < W1.heap.size → i = g → Sx S v g i := fun i _ e => .inr (.inr e)
  refine ⟨?_, m.ge, L.map Tv.t, L, h2, cs', ho2, rfl, fun x hx => ((m.wk x hx).ext hk1 kb hI).ext k2 kg hI1, m.ne, hh.ext k2 kg (fun e => hgb e.symm) hI1 (.inl hSb), hok, hbk, hf, fun e => ?_⟩
  · have a := m.kp.tr hk1
    have a' : Kp (fun k => k = b ∨ w.heap.size ≤ k) w W1 := a.mono (fun i _ e => .inl e)
    have a2 := a'.trans k2 (fun i _ e => .inr (by rw [e]; exact m.ge))
    exact a2.mono (fun i hi e => by rcases e with e | e; exact e; omega)
  · obtain ⟨x, hx, hw, hr⟩ := ht e
    exact ⟨x, hx, hw.ext k2 kg hI1, hr⟩

theorem al_lt {T : TypeId} {S : Nat → Prop} {b : Nat} {h h1 : Hk} {w W : World} {v : Value} {g : Nat} {L : List Tv} {cs : Array Value} (hSlt : ∀ k, S k → k < w.heap.size) (m : AlMid T S b h w v g L h1 cs W) : ∀ k, Sx S v g k → k < W.heap.size := by
  intro k hk
  rcases hk with hk | hk | hk
  · exact Nat.lt_of_lt_of_le (hSlt k hk) m.kp.size
  · exact (own_ge m.own k hk).2
  · rw [hk]; exact m.bk.lt

theorem al_post {T : TypeId} {S : Nat → Prop} {b : Nat} {h : Hk} {w W : World} {v : Value} {g : Nat} (hSb : S b) (hSlt : ∀ k, S k → k < w.heap.size) (m : AlSt T S b h w v g false W) : AlPost T S b h w (.returned v) W := by
  obtain ⟨pre, L, h1, cs, ho, hm, hw, hne, hh, hok, hbk, hf, _⟩ := m.row
  obtain ⟨hr, hp⟩ := hf rfl
  obtain ⟨A, c, rfl⟩ := own_shape ho
  have hT : ∀ i, S i → Sx S (.slice A L.length c) g i ∨ W.heap.size ≤ i := fun i hi => .inl (.inl hi)
  have hts := ts_of_own (S := S) ho hSlt (fun x hx => (hw x hx).ext (Kp.refl (fun _ => False) W) (fun i _ e => e.elim) hT)
  rw [hm] at hts
  have hl : L.length = pre.length := by rw [← hm, List.length_map]
  rw [hl] at hts ⊢
  exact ⟨m.kp, pre, h1, A, c, hr, hp, rfl, hts, hh.ext (Kp.refl (fun _ => False) W) (fun i _ e => e.elim) id hT hSb⟩

theorem al_take {T : TypeId} {S : Nat → Prop} {b : Nat} {h h1 : Hk} {pre : List Tx} {w : World} {e : Ending} {w' : World} (hr : Run h pre h1) (hok : h1.ok) (H : TkPost T S b h1 w e w') :
    Kp (· = b) w w' ∧ ((e = .returned (.tuple #[.agg #[.int .i64 0, .int .i64 0, .int .i64 0, .int .i64 0, .int .i64 0, .slice none 0 0], .bool false]) ∧ HAt T S w' b h1 ∧ Run h pre h1 ∧ h1.peek = none) ∨
      ∃ (x : Tv) (h2 : Hk), e = .returned (.tuple #[.agg #[.int .i64 x.t.o, .int .i64 x.t.s, .int .i64 x.t.d0, .int .i64 x.t.d1, .int .i64 x.t.d2, .slice x.A x.t.ws.length x.c], .bool true]) ∧ HAt T S w' b h2 ∧ Wk S w' x ∧ Run h (pre ++ [x.t]) h2 ∧ h2.ok ∧ h2.cnt + 1 = h1.cnt) := by
  obtain ⟨hk, ⟨hp, he, hh⟩ | ⟨i, t, rest, A, c, hi, hp, hq, he, hw, hh⟩⟩ := H
  · exact ⟨hk, .inl ⟨he, hh, hr, hp⟩⟩
  · exact ⟨hk, .inr ⟨⟨t, A, c⟩, _, he, hh, hw, Run.snoc hr hi hp hq, (hok.took hi hq).1, cnt_took hi hq⟩⟩

set_option maxRecDepth 100000 in
set_option maxHeartbeats 4000000 in
theorem rall_any {S : Nat → Prop} (b : Nat) (h : Hk) (w : World) (H : HAt 49 S w b h) (hS : ∀ k, S k → k < w.heap.size) (hok : h.ok) :
    Calls Try.prog 17 #[.pointer (some ⟨b, 0, none⟩)] w (AlPost 49 S b h w) := by
  have hlt := H.lt
  have HSb : Hid (S b) := H.mem
  have HS := Lib.hid hS
  have HO := Lib.hid hok
  obtain ⟨i0, hi0, hz0, hz1, hz2⟩ := info_parts Try.infoTx
  have BA : Hid (Below w.heap.size w (w.alloc (.cells #[] 36))) := (Below.refl _ _).alloc (Nat.le_refl _) _
  have nA : Hid ((w.alloc (.cells #[] 36)).ownsRow w.heap.size 36 6 (.slice (some ⟨w.heap.size, 0, none⟩) 0 0) 0 (txs [])) := World.ownsRow_lit w #[] 0 (Nat.le_refl _) (by simp) rfl
  have hSx0 : ∀ i, Sx S (.slice (some ⟨w.heap.size, 0, none⟩) 0 0) w.heap.size i → S i ∨ w.heap.size ≤ i := by
    intro i hi
    rcases hi with hi | hi | hi
    · exact .inl hi
    · have : w.heap.size = i := by simpa [Value.ownBlock] using hi
      exact .inr (by omega)
    · exact .inr (by omega)
  have HA : Hid (HAt 49 (Sx S (.slice (some ⟨w.heap.size, 0, none⟩) 0 0) w.heap.size) (w.alloc (.cells #[] 36)) b h) := H.ext (Kp.of_below BA.out) (fun i hi (e : w.heap.size ≤ i) => absurd hi (by omega)) (fun e : w.heap.size ≤ b => by omega) hSx0 (.inl H.mem)
  have HSA : Hid (∀ k, Sx S (.slice (some ⟨w.heap.size, 0, none⟩) 0 0) w.heap.size k → k < (w.alloc (.cells #[] 36)).heap.size) := by
    intro k hk
    rw [World.size_alloc]
    rcases hk with hk | hk | hk
    · have := hS k hk; omega
    · have : w.heap.size = k := by simpa [Value.ownBlock] using hk
      omega
    · omega
  have KA : Hid (Kp (· = b) w (w.alloc (.cells #[] 36))) := (Kp.refl _ w).alloc _
  clear H hS hok hSx0
  go_enter Try.func17, Try.ntmps17
  go_wp2_with (fail)
  refine (rtake_any b h _ HA.out HSA.out HO.out).mono ?_
  rintro e w1 hp
  obtain ⟨hk1, ⟨rfl, hh, hr, hpn⟩ | ⟨x, h2, rfl, hh, hw, hr, hok2, hcnt⟩⟩ := al_take (Run.nil (h := h)) HO.out hp
  · have M := Lib.hid (al_first (L := []) (is := false) (g0 := w.heap.size) (cs := #[.int .i64 0, .int .i64 0, .int .i64 0, .int .i64 0, .int .i64 0, .slice none 0 0]) (by decide) KA.out hlt nA.out (fun x hx => by cases hx) (.inl rfl) HS.out hk1 hh HSb.out HO.out HA.out (fun _ => ⟨hr, hpn⟩) (fun e => by cases e))
    clear hp hk1 hh hr hpn
    go_wp2_with (fail)
    generalize w1.alloc (.cells #[.int .i64 0, .int .i64 0, .int .i64 0, .int .i64 0, .int .i64 0, .slice none 0 0] 36) = W1 at *
    go_loopw [3, 5] (fun o is wr => o = .slice (some ⟨w.heap.size, 0, none⟩) 0 0 ∧ is = .bool false ∧ wr = W1) (fun _ _ _ => 0)
    case atStart => exact ⟨rfl, rfl, rfl⟩
    case round =>
      obtain ⟨rfl, rfl, rfl⟩ := hrel
      go_wp2_with (fail)
      go_ret
      exact al_post HSb.out HS.out M.out
  · have M := Lib.hid (al_first (L := []) (is := true) (g0 := w.heap.size) (cs := txc x) (by decide) KA.out hlt nA.out (fun x hx => by cases hx) (.inl rfl) HS.out hk1 hh HSb.out hok2 HA.out (fun e => by cases e) (fun _ => ⟨x, rfl, hw, hr⟩))
    have LN := Lib.hid (lens_eq (hh.below ((Below.refl _ _).alloc (Nat.le_refl _) (.cells (txc x) 36))))
    have HC := Lib.hid (cnt_le HO.out)
    clear hp hk1 hh hr hcnt hw
    go_wp2_with (fail)
    generalize hW1 : w1.alloc (.cells #[.int .i64 x.t.o, .int .i64 x.t.s, .int .i64 x.t.d0, .int .i64 x.t.d1, .int .i64 x.t.d2, .slice x.A x.t.ws.length x.c] 36) = W1 at *
    replace M : Hid (AlSt 49 S b h w (.slice (some ⟨w.heap.size, 0, none⟩) 0 0) w1.heap.size true W1) := by rw [← hW1]; exact M.out
    clear hW1 LN
    go_loopw [3, 4, 5] (fun o p is wr => ∃ (v : Value) (g : Nat) (t : Bool), o = v ∧ p = .pointer (some ⟨g, 0, none⟩) ∧ is = .bool t ∧ AlSt 49 S b h w v g t wr) (fun _ _ is wr => lens wr b + isOne is)
    case atStart => exact ⟨_, _, true, rfl, rfl, rfl, M.out⟩
    case round =>
      obtain ⟨v, g, t, rfl, rfl, rfl, hm⟩ := hrel
      cases t with
      | false =>
        have M2 := Lib.hid hm
        clear hm M
        go_wp2_with (fail)
        go_ret
        exact al_post HSb.out HS.out M2.out
      | true =>
        obtain ⟨pre, L, h1, cs, ho, hm1, hw1, hne, hh1, hok1, hbk, _, ht⟩ := hm.row
        obtain ⟨y, rfl, hy, hry⟩ := ht rfl
        have hcl := Run.cnt hry
        have hL24 : L.length ≤ 24 := by
          have h24 := HC.out
          rw [List.length_append, ← hm1, List.length_map] at hcl
          omega
        have HLN := Lib.hid (lens_eq hh1)
        obtain ⟨A, c, rfl⟩ := own_shape ho
        obtain ⟨⟨p0, p1, p2, p3, p4, p5⟩, _⟩ := bk6 hbk
        have HKp := Lib.hid hm.kp
        have HGe := Lib.hid hm.ge
        have HOw := Lib.hid ho
        have HLw := Lib.hid hw1
        have HNe := Lib.hid hne
        have HH1 := Lib.hid hh1
        have HO1 := Lib.hid hok1
        have HBk := Lib.hid hbk
        have HY := Lib.hid hy
        have HR : Hid (Run h (L.map Tv.t ++ [y.t]) h1) := by rw [hm1]; exact hry
        have hown2 : Hid ((wr.alloc (.cells (txc y) 36)).ownsRow w.heap.size 36 6 (.slice A L.length c) L.length (txs L)) := own_new ho ((Below.refl _ _).alloc (Nat.le_refl _) _)
        have hcy : Hid (Rd (wr.alloc (.cells (txc y) 36)) (some ⟨wr.heap.size, 0, none⟩) y.cells) := bk_rd (Bk.new wr 36 (txc y))
        have hsz := Nat.le_trans hm.kp.size (Nat.le_refl _)
        clear hm ho hm1 hw1 hne hh1 hok1 hbk hy hry ht hcl M
        go_wp2_with (at_builtin; refine wpList_app2 rfl (.tmp 18) (.tmp 20) 44 rfl w.heap.size 36 i0 _ 6 64 Try.underlying44 hi0 hz0 hz1 hz2 rfl (by decide) (.slice A L.length c) L.length (txs L) rfl hown2.out (some ⟨wr.heap.size, 0, none⟩) 1 1 y.cells rfl (fun e => by cases e) rfl hcy.out (by intro u hu; simp [Tv.cells] at hu; rcases hu with rfl | rfl | rfl | rfl | rfl | rfl <;> rfl) (by simp only [maxLen]; omega) (by omega) (by simp; omega) ?_; intro A2 c2 w2 ho2 hg2 hv2; have hAM := al_mid (Wc := wr.alloc (.cells (txc y) 36)) (by decide) HSb.out HKp.out HGe.out HOw.out HLw.out HNe.out HH1.out HO1.out HBk.out HY.out HR.out ((Kp.refl _ wr).alloc _) (by simp) hg2 ho2 hv2; have HM2 := Lib.hid hAM.1; obtain ⟨⟨p0, p1, p2, p3, p4, p5⟩, _⟩ := bk6 hAM.2; clear hAM ho2 hg2 hv2)
        have HLt := Lib.hid (al_lt HS.out HM2.out)
        have HCl := Lib.hid (Run.cnt HR.out)
        generalize hW3 : w2.alloc (.cells #[.int .i64 y.t.o, .int .i64 y.t.s, .int .i64 y.t.d0, .int .i64 y.t.d1, .int .i64 y.t.d2, .slice y.A y.t.ws.length y.c] 36) = W3 at *
        replace HM2 : Hid (AlMid 49 S b h w (.slice A2 (L.length + 1) c2) w2.heap.size (L ++ [y]) h1 (txc y) W3) := by rw [← hW3]; exact HM2.out
        replace HLt : Hid (∀ k, Sx S (.slice A2 (L.length + 1) c2) w2.heap.size k → k < W3.heap.size) := by rw [← hW3]; exact HLt.out
        clear hW3
        generalize w2.heap.size = g2 at *
        refine (rtake_any b h1 _ HM2.out.at_ HLt.out HO1.out).mono ?_
        rintro e w5 hp
        have E5 : Hid (Bk w5 g2 36 (txc y)) := HM2.out.bk.kp hp.1 (by have := HM2.out.ge; omega)
        have hgb : g2 ≠ b := by have := HM2.out.ge; omega
        obtain ⟨⟨e0, e1, e2, e3, e4, e5⟩, g0', g1', g2', g3', g4', g5'⟩ := bk6 E5.out
        obtain ⟨hk5, ⟨rfl, hh, hr, hpn⟩ | ⟨z, h2, rfl, hh, hw, hr, hok2, hcnt⟩⟩ := al_take HM2.out.run HO1.out hp
        · have K5 : Hid (Kp (· = g2) w5 (set6 w5 g2 (.int .i64 0) (.int .i64 0) (.int .i64 0) (.int .i64 0) (.int .i64 0) (.slice none 0 0))) := set6_kp (S := (· = g2)) (Kp.refl _ w5) (.inl rfl) _ _ _ _ _ _
          have Bk5 := Lib.hid (set6_bk E5.out (.int .i64 0) (.int .i64 0) (.int .i64 0) (.int .i64 0) (.int .i64 0) (.slice none 0 0))
          have M5 := Lib.hid (al_next (is := false) (by decide) HSb.out HM2.out hk5 hgb hh HO1.out K5.out Bk5.out (fun _ => ⟨hr, hpn⟩) (fun e => by cases e))
          have LN5 := Lib.hid (lens_eq (hh.ext (S2 := Sx S (.slice A2 (L.length + 1) c2) g2) K5.out (fun i _ e => .inr (.inr e)) (fun e => hgb e.symm) (fun i hi => .inl hi) (.inl HSb.out)))
          unfold set6 at M5 LN5
          clear hp hk5 hh hr hpn K5 Bk5
          go_wp2_with (fail)
          go_roundw
          case rel => exact ⟨_, _, false, rfl, rfl, rfl, M5.out⟩
          case measure => rw [LN5.out, HLN.out]; simp [isOne]
        · have K5 : Hid (Kp (· = g2) w5 (set6 w5 g2 (.int .i64 z.t.o) (.int .i64 z.t.s) (.int .i64 z.t.d0) (.int .i64 z.t.d1) (.int .i64 z.t.d2) (.slice z.A z.t.ws.length z.c))) := set6_kp (S := (· = g2)) (Kp.refl _ w5) (.inl rfl) _ _ _ _ _ _
          have Bk5 := Lib.hid (set6_bk E5.out (.int .i64 z.t.o) (.int .i64 z.t.s) (.int .i64 z.t.d0) (.int .i64 z.t.d1) (.int .i64 z.t.d2) (.slice z.A z.t.ws.length z.c))
          have M5 := Lib.hid (al_next (is := true) (by decide) HSb.out HM2.out hk5 hgb hh hok2 K5.out Bk5.out (fun e => by cases e) (fun _ => ⟨z, rfl, hw, hr⟩))
          have LN5 := Lib.hid (lens_eq (hh.ext (S2 := Sx S (.slice A2 (L.length + 1) c2) g2) K5.out (fun i _ e => .inr (.inr e)) (fun e => hgb e.symm) (fun i hi => .inl hi) (.inl HSb.out)))
          have HCn := Lib.hid hcnt
          unfold set6 at M5 LN5
          clear hp hk5 hh hr hw hcnt K5 Bk5
          go_wp2_with (fail)
          go_roundw
          case rel => exact ⟨_, _, true, rfl, rfl, rfl, M5.out⟩
          case measure => rw [LN5.out, HLN.out]; have := HCn.out; simp [isOne]; omega
end Go.Proofs.Ytiomdclelbjmmaa
