/-
  HoldLives: where its rows lie while they are made, and while they are put in. Plain.
-/
import Derived.Test.YtiomdclelbjmmaaHoldLivesPure
import Derived.Test.YtiomdclelbjmmaaHoldCov
set_option linter.unusedVariables false
set_option linter.unusedSimpArgs false
namespace Go.Proofs.Ytiomdclelbjmmaa
open Go.RowKit

/-- A transaction that writes nothing, as it lies. -/
def tv0 (t : Tx) : Tv := ⟨t, none, 0⟩

/-- Bytes, as they lie. -/
def bys (l : List Nat) : List Value := l.map fun (m : Nat) => .int .u8 (m : Int)

/-- Of which origin each is. -/
def origs (l : List Nat) : List Nat := l.map (· % 3)

theorem origs_lt (l : List Nat) : ∀ o ∈ origs l, o < 3 := by
  intro o ho
  obtain ⟨m, _, rfl⟩ := List.mem_map.mp ho
  exact Nat.mod_lt _ (by decide)

theorem bits_le (m : Nat) (h : m < 256) : ∃ q : Nat, q ≤ 3 ∧ bits BinOp.and IntKind.u8 ((m : Int) / 4) 3 = (q : Int) := by
  have hd : ∀ x : Fin 256, 0 ≤ bits BinOp.and IntKind.u8 ((x.val : Int) / 4) 3 ∧ bits BinOp.and IntKind.u8 ((x.val : Int) / 4) 3 ≤ 3 := by decide +kernel
  obtain ⟨h0, h1⟩ := hd ⟨m, h⟩
  dsimp only at h0 h1
  exact ⟨(bits BinOp.and IntKind.u8 ((m : Int) / 4) 3).toNat, by omega, by omega⟩

theorem dep_le (nn q : Nat) (hn : nn ≤ 20) (hq : q ≤ 3) : ∃ x : Int, wrap64 ((nn : Int) - wrap64 ((wrap64 ((nn : Int) * (q : Int))).tdiv 3)) = x ∧ 0 ≤ x ∧ x ≤ nn := by
  have hd : ∀ (a : Fin 21) (b : Fin 4), 0 ≤ wrap64 ((a.val : Int) - wrap64 ((wrap64 ((a.val : Int) * (b.val : Int))).tdiv 3)) ∧ wrap64 ((a.val : Int) - wrap64 ((wrap64 ((a.val : Int) * (b.val : Int))).tdiv 3)) ≤ a.val := by decide +kernel
  exact ⟨_, rfl, hd ⟨nn, by omega⟩ ⟨q, by omega⟩⟩

theorem origs_snoc (l : List Nat) (k : Nat) (h : k < l.length) : origs (l.take (k + 1)) = origs (l.take k) ++ [l[k] % 3] := by
  rw [List.take_succ_eq_append_getElem h]
  unfold origs
  rw [List.map_append]
  rfl

/-- While the rows are made: the rows' slices at rb, what is there at tb. -/
structure Mkg (w : World) (rb tb : Nat) (R : Nat → List Tx) (n : Nat → Int) (V : Nat → Value) (W : World) : Prop where
  rows : Bk W rb 47 #[V 0, V 1, V 2]
  own : ∀ i, i < 3 → W.ownsRow w.heap.size 36 6 (V i) (R i).length (txs ((R i).map tv0))
  there : Bk W tb 23 #[.int .i64 (n 0), .int .i64 (n 1), .int .i64 (n 2)]
  far : ∀ i j, i < 3 → j < 3 → i ≠ j → ∀ k, (V i).ownBlock = some k → (V j).ownBlock ≠ some k
  l : Below w.heap.size w W
  lr : w.heap.size ≤ rb
  lt : w.heap.size ≤ tb
  ne : rb ≠ tb

section
variable {w W W1 W2 : World} {rb tb : Nat} {R : Nat → List Tx} {n : Nat → Int} {V : Nat → Value}

theorem Mkg.cells (m : Mkg w rb tb R n V W) {i : Nat} (hi : i < 3) : W.cell? ⟨rb, i, none⟩ = some (V i) ∧ W.cell? ⟨tb, i, none⟩ = some (.int .i64 (n i)) := by
  have hc : i = 0 ∨ i = 1 ∨ i = 2 := by omega
  rcases hc with rfl | rfl | rfl
  · exact ⟨m.rows.cell 0, m.there.cell 0⟩
  · exact ⟨m.rows.cell 1, m.there.cell 1⟩
  · exact ⟨m.rows.cell 2, m.there.cell 2⟩

theorem Mkg.vr (m : Mkg w rb tb R n V W) {i : Nat} (hi : i < 3) : (V i).ownBlock ≠ some rb := own_ne_bk (m.own i hi) m.rows (by decide)
theorem Mkg.vt (m : Mkg w rb tb R n V W) {i : Nat} (hi : i < 3) : (V i).ownBlock ≠ some tb := own_ne_bk (m.own i hi) m.there (by decide)

theorem Mkg.quiet (m : Mkg w rb tb R n V W) (hb : Below W.heap.size W W1) : Mkg w rb tb R n V W1 :=
  ⟨m.rows.below hb m.rows.lt, fun i hi => own_new (m.own i hi) hb, m.there.below hb m.there.lt, m.far, m.l.trans (hb.mono m.l.size), m.lr, m.lt, m.ne⟩

/-- A block beside these changes. -/
theorem Mkg.beside (m : Mkg w rb tb R n V W) {g : Nat} (k : Kp (· = g) W W1) (hg : w.heap.size ≤ g) (h1 : g ≠ rb) (h2 : g ≠ tb) (h3 : ∀ i, i < 3 → (V i).ownBlock ≠ some g) : Mkg w rb tb R n V W1 :=
  ⟨m.rows.kp k (fun e => h1 e.symm), fun i hi => own_kp (m.own i hi) k (fun b hb e => h3 i hi (by rw [hb, e])), m.there.kp k (fun e => h2 e.symm), m.far, m.l.trans (k.below (B := w.heap.size) (fun i hi e => by omega) m.l.size), m.lr, m.lt, m.ne⟩

/-- What is there changes. -/
theorem Mkg.stepN (m : Mkg w rb tb R n V W) {i : Nat} (hi : i < 3) (x : Int) : Mkg w rb tb R (upd n i x) V (W.setCell ⟨tb, i, none⟩ (.int .i64 x)) := by
  have k : Kp (· = tb) W (W.setCell ⟨tb, i, none⟩ (.int .i64 x)) := (Kp.refl (· = tb) W).set1 i _
  have hb := m.there.put i (.int .i64 x)
  refine ⟨m.rows.kp k m.ne, fun j hj => own_kp (m.own j hj) k (fun b hb e => m.vt hj (by rw [hb, e])), ?_, m.far, m.l.trans (k.below (B := w.heap.size) (fun i hi e => by have := m.lt; omega) m.l.size), m.lr, m.lt, m.ne⟩
  have hc : i = 0 ∨ i = 1 ∨ i = 2 := by omega
  rcases hc with rfl | rfl | rfl <;> exact hb

/-- One more is made: its row has grown, and the slice is stored. -/
theorem Mkg.stepR (m : Mkg w rb tb R n V W) {i : Nat} (hi : i < 3) {t : Tx} (ht : t.ws = []) {v' : Value} (hw : W.grownBy W2 (V i).ownBlock) (ho : W2.ownsRow w.heap.size 36 6 v' ((R i).length + 1) (txs ((R i).map tv0) ++ (tv0 t).cells)) (hv : v'.ownBlock = (V i).ownBlock ∨ v'.ownBlock = some W.heap.size) :
    Mkg w rb tb (upd R i (R i ++ [t])) n (upd V i v') (W2.setCell ⟨rb, i, none⟩ v') := by
  have k2 : Kp (fun k => (V i).ownBlock = some k) W W2 := (Kp.of_grown hw).mono (fun j _ e => e.symm)
  have hb2 := m.rows.kp k2 (m.vr hi)
  have k3 : Kp (· = rb) W2 (W2.setCell ⟨rb, i, none⟩ v') := (Kp.refl (· = rb) W2).set1 i _
  have hsz := k2.size
  have hcells : txs ((R i).map tv0) ++ (tv0 t).cells = txs ((R i ++ [t]).map tv0) := by rw [List.map_append, txs_append]; simp [txs]
  rw [hcells] at ho
  have hnew : v'.ownBlock ≠ some rb := own_ne_bk ho hb2 (by decide)
  have hvn : ∀ j, j < 3 → j ≠ i → ∀ k, v'.ownBlock = some k → (V j).ownBlock ≠ some k := by
    intro j hj hji k hk e
    rcases hv with e2 | e2
    · rw [e2] at hk
      exact m.far i j hi hj (fun e => hji e.symm) k hk e
    · rw [e2] at hk
      injection hk with hk
      have := (own_ge (m.own j hj) k e).2
      omega
  have hpos : ∀ j, j < 3 → upd V i v' j = if j = i then v' else V j := fun j _ => rfl
  refine ⟨?_, fun j hj => ?_, (m.there.kp k2 (m.vt hi)).kp k3 (fun e => m.ne e.symm), fun j j2 hj hj2 hne k hk e => ?_, ?_, m.lr, m.lt, m.ne⟩
  · have h := hb2.put i v'
    have hc : i = 0 ∨ i = 1 ∨ i = 2 := by omega
    rcases hc with rfl | rfl | rfl <;> exact h
  · by_cases e : j = i
    · subst e
      have e1 : upd R j (R j ++ [t]) j = R j ++ [t] := by simp [upd]
      have e2 : upd V j v' j = v' := by simp [upd]
      rw [e1, e2, List.length_append]
      exact own_kp ho k3 (fun b hb e => hnew (by rw [hb, e]))
    · have e1 : upd R i (R i ++ [t]) j = R j := by simp [upd, e]
      have e2 : upd V i v' j = V j := by simp [upd, e]
      rw [e1, e2]
      exact own_kp (own_kp (m.own j hj) k2 (fun b hb e3 => m.far j i hj hi e b hb e3)) k3 (fun b hb e3 => m.vr hj (by rw [hb, e3]))
  · rw [hpos j hj] at hk
    rw [hpos j2 hj2] at e
    by_cases c1 : j = i
    · rw [if_pos c1] at hk
      rw [if_neg (fun c2 => hne (c1.trans c2.symm))] at e
      exact hvn j2 hj2 (fun c2 => hne (c1.trans c2.symm)) k hk e
    · rw [if_neg c1] at hk
      by_cases c2 : j2 = i
      · rw [if_pos c2] at e
        exact hvn j hj c1 k e hk
      · rw [if_neg c2] at e
        exact m.far j j2 hj hj2 hne k hk e
  · refine (m.l.trans (k2.below (B := w.heap.size) (fun j hj e => by have := (own_ge (m.own i hi) j e).1; omega) m.l.size)).trans (k3.below (B := w.heap.size) (fun j hj e => by have := m.lr; omega) ?_)
    exact Nat.le_trans m.l.size hsz
end

theorem step_app2 {P : Program} {w : World} {ops : Array Oper} {o : Oper} {a : Go.Act} {K : Go.Act → World → Prop} {Q : Exit → Go.Act → World → Prop} {E : Prop} (hgd : o.guard = none) (s x : Operand) (t : TypeId)
    (ho : o.op = .call { callee := .builtin .append, args := #[s, x], argTypes := #[t, t] })
    (base : Nat) (e : TypeId) (i : TypeInfo) (z : Value) (size bytes : Nat) (ht : P.underlying t = some (.slice e)) (hi : P.info? e = some i) (hz : i.zero = some z)
    (hsize : i.size = size) (hby : i.bytes = bytes) (hzs : z.cells.size = size) (hsz : 0 < size) (v : Value) (n : Nat) (xs : List Value) (hs : a.eval s = v) (hown : w.ownsRow base e size v n xs)
    (A : Option Addr) (m c : Nat) (news : List Value) (hx : a.eval x = .slice A m c) (hA : A = none → m = 0) (hl : news.length = m * size) (hnews : Rd w A news) (h1 : ∀ u ∈ news, u.oneCell' = true)
    (h63 : n + m ≤ maxLen) (hbytes : (n + m) * bytes ≤ 140737488355328) (hbase : base ≤ w.heap.size)
    (h : ∀ A' c' w', w'.ownsRow base e size (.slice A' (n + m) c') (n + m) (xs ++ news) → w.grownBy w' v.ownBlock → ((Value.slice A' (n + m) c').ownBlock = v.ownBlock ∨ (Value.slice A' (n + m) c').ownBlock = some w.heap.size) → K (a.put o.dst (.slice A' (n + m) c')) w') :
    if Region.wanted o (yielded ops a.tmps) = true then Oper.wp P o a w K Q else E := by
  have hw : Region.wanted o (yielded ops a.tmps) = true := by simp [Region.wanted, hgd]
  rw [if_pos hw]
  exact wp_app2 s x t ho base e i z size bytes ht hi hz hsize hby hzs hsz v n xs hs hown A m c news hx hA hl hnews h1 h63 hbytes hbase h

/-- A transaction of the law's is well formed. -/
theorem check_zero (o s d0 d1 d2 : Int) (o0 : 0 ≤ o) (o3 : o < 3) (s1 : 1 ≤ s) (s2 : s ≤ 4611686018427387903) (k0 : okn d0) (k1 : okn d1) (k2 : okn d2) (hd : (if o = 0 then d0 else if o = 1 then d1 else d2) = s - 1) : Tx.check ⟨o, s, d0, d1, d2, []⟩ = 0 := by
  unfold Tx.check
  rw [if_neg (by dsimp only; omega), if_neg, if_neg, if_neg]
  · simp
  · simp
  · intro h
    exact h (by unfold Tx.dep; exact hd)
  · dsimp only
    intro h
    rcases h with h | h | h
    · omega
    · omega
    · exact h ⟨k0, k1, k2⟩

/-- While they are put in: the hold, and the slices of what is left. -/
def Sgr (g rb k : Nat) : Prop := k = g ∨ k = rb

structure Liv (w : World) (g rb tb : Nat) (Rm : Nat → List Tx) (n : Nat → Int) (h : Hk) (A : Option Addr) (TL : List Nat) (W : World) : Prop where
  x : HAt 61 (Sgr g rb) W g h
  rows : ∃ U : Nat → Value, Bk W rb 47 #[U 0, U 1, U 2] ∧ ∀ i, i < 3 → Ts (Sgr g rb) W (U i) (Rm i)
  there : Bk W tb 23 #[.int .i64 (n 0), .int .i64 (n 1), .int .i64 (n 2)]
  turn : Sh (Sgr g rb) W A (bys TL)
  l : Below w.heap.size w W
  lg : w.heap.size ≤ g
  lr : w.heap.size ≤ rb

section
variable {w W W1 : World} {g rb tb : Nat} {Rm : Nat → List Tx} {n : Nat → Int} {h h' : Hk} {A : Option Addr} {TL : List Nat}

theorem Liv.ne (m : Liv w g rb tb Rm n h A TL W) : g ≠ rb ∧ tb ≠ g ∧ tb ≠ rb ∧ rb < W.heap.size := by
  obtain ⟨cs, hk, _⟩ := m.x.row
  obtain ⟨U, hr, _⟩ := m.rows
  exact ⟨hk.ne hr (by decide), m.there.ne hk (by decide), m.there.ne hr (by decide), hr.lt⟩

theorem Liv.lt (m : Liv w g rb tb Rm n h A TL W) : ∀ k, Sgr g rb k → k < W.heap.size := by
  intro k hk
  rcases hk with rfl | rfl
  · exact m.x.lt
  · exact m.ne.2.2.2

theorem Liv.quiet (m : Liv w g rb tb Rm n h A TL W) (hb : Below W.heap.size W W1) : Liv w g rb tb Rm n h A TL W1 := by
  obtain ⟨U, hr, hu⟩ := m.rows
  exact ⟨m.x.below hb, ⟨U, hr.below hb hr.lt, fun i hi => (hu i hi).below hb⟩, m.there.below hb m.there.lt, m.turn.below hb, m.l.trans (hb.mono m.l.size), m.lg, m.lr⟩

theorem Liv.drew (m : Liv w g rb tb Rm n h A TL W) : Liv w g rb tb Rm n h A TL W.drew := m.quiet ⟨rfl, rfl, rfl, Nat.le_refl _, fun _ _ => rfl⟩

/-- The hold changes. -/
theorem Liv.stepH (m : Liv w g rb tb Rm n h A TL W) (k : Kp (· = g) W W1) (hh : HAt 61 (Sgr g rb) W1 g h') : Liv w g rb tb Rm n h' A TL W1 := by
  obtain ⟨U, hr, hu⟩ := m.rows
  have hn := m.ne
  exact ⟨hh, ⟨U, hr.kp k (fun e => hn.1 e.symm), fun i hi => (hu i hi).kp k (fun _ e => .inl e)⟩, m.there.kp k hn.2.1, m.turn.kp k (fun _ e => .inl e), m.l.trans (k.below (B := w.heap.size) (fun i hi e => by have := m.lg; omega) m.l.size), m.lg, m.lr⟩

/-- A row's slice is stored. -/
theorem Liv.stepU (m : Liv w g rb tb Rm n h A TL W) {i : Nat} (hi : i < 3) {v : Value} {Q : List Tx} (hv : Ts (Sgr g rb) W v Q) : Liv w g rb tb (upd Rm i Q) n h A TL (W.setCell ⟨rb, i, none⟩ v) := by
  obtain ⟨U, hr, hu⟩ := m.rows
  have hn := m.ne
  have k : Kp (· = rb) W (W.setCell ⟨rb, i, none⟩ v) := (Kp.refl (· = rb) W).set1 i v
  have hT : ∀ j, j = rb → Sgr g rb j := fun _ e => .inr e
  have hb := hr.put i v
  refine ⟨m.x.kp k hT hn.1, ⟨upd U i v, ?_, fun j hj => ?_⟩, m.there.kp k hn.2.2.1, m.turn.kp k hT, m.l.trans (k.below (B := w.heap.size) (fun i hi e => by have := m.lr; omega) m.l.size), m.lg, m.lr⟩
  · have hc : i = 0 ∨ i = 1 ∨ i = 2 := by omega
    rcases hc with rfl | rfl | rfl <;> exact hb
  · by_cases e : j = i
    · subst e
      simp only [upd, if_pos]
      exact hv.kp k hT
    · simp only [upd, if_neg e]
      exact (hu j hj).kp k hT

theorem Liv.row (m : Liv w g rb tb Rm n h A TL W) {i : Nat} (hi : i < 3) : ∃ (A1 : Option Addr) (c1 : Nat), W.cell? ⟨rb, i, none⟩ = some (.slice A1 (Rm i).length c1) ∧ Ts (Sgr g rb) W (.slice A1 (Rm i).length c1) (Rm i) ∧ W.frozen? ⟨rb, i, none⟩ = false := by
  obtain ⟨U, hr, hu⟩ := m.rows
  have hc : W.cell? ⟨rb, i, none⟩ = some (U i) := by
    have hc : i = 0 ∨ i = 1 ∨ i = 2 := by omega
    rcases hc with rfl | rfl | rfl
    · exact hr.cell 0
    · exact hr.cell 1
    · exact hr.cell 2
  have ht := hu i hi
  obtain ⟨A1, c1, L, e, _⟩ := ht.row
  rw [e] at hc ht
  exact ⟨A1, c1, hc, ht, hr.free i⟩

theorem Liv.cells (m : Liv w g rb tb Rm n h A TL W) : W.cell? ⟨tb, 0, none⟩ = some (.int .i64 (n 0)) ∧ W.cell? ⟨tb, 1, none⟩ = some (.int .i64 (n 1)) ∧ W.cell? ⟨tb, 2, none⟩ = some (.int .i64 (n 2)) :=
  ⟨m.there.cell 0, m.there.cell 1, m.there.cell 2⟩

/-- From the rows as they were made to the rows as they are put in. -/
theorem Liv.start {R : Nat → List Tx} {V : Nat → Value} (m : Mkg w rb tb R n V W) (hx : HAt 61 (Sgr g rb) W g h) (lg : w.heap.size ≤ g) (ht : Sh (Sgr g rb) W A (bys TL)) (hws : ∀ i, i < 3 → ∀ t ∈ R i, t.ws = []) : Liv w g rb tb R n h A TL W := by
  refine ⟨hx, ⟨V, m.rows, fun i hi => ?_⟩, m.there, ht, m.l, lg, m.lr⟩
  have ho := m.own i hi
  obtain ⟨A1, c1, e⟩ := own_shape ho
  obtain ⟨cs, hk, _⟩ := hx.row
  have h1 : (V i).ownBlock ≠ some g := own_ne_bk ho hk (by decide)
  have h2 := m.vr hi
  rw [e] at ho h1 h2
  rw [e]
  have hl : ((R i).map tv0).length = (R i).length := List.length_map _
  refine ⟨A1, c1, (R i).map tv0, rfl, ?_, fun ea => ?_, ?_, Sh.of_rd (own_rd ho) (fun g' o hA _ hs => ?_), fun x hx => ?_⟩
  · rcases own_form ho with ⟨e2, h0, _⟩ | ⟨g', cap, e2, _, _, hc, _⟩
    · rw [h0]; exact Nat.zero_le _
    · injection e2 with _ _ e2; omega
  · rcases own_form ho with ⟨e2, h0, _⟩ | ⟨g', cap, e2, _⟩
    · injection e2 with _ _ e2; exact ⟨h0, e2⟩
    · injection e2 with e2; rw [ea] at e2; cases e2
  · rw [List.map_map]
    exact List.map_id' _
  · subst hA
    have hob : (Value.slice (some ⟨g', o, none⟩) (R i).length c1).ownBlock = some g' := rfl
    rcases hs with rfl | rfl
    · exact h1 hob
    · exact h2 hob
  · obtain ⟨t, ht, rfl⟩ := List.mem_map.mp hx
    have hw := hws i hi t ht
    exact ⟨fun j u hj => by simp [tv0, hw, wrs] at hj, fun _ => by simp [tv0, hw]⟩
end

theorem Made.ws {l : List Nat} {R : Nat → List Tx} (h : Made l R) : ∀ i, i < 3 → ∀ t ∈ R i, t.ws = [] := by
  intro i hi t ht
  obtain ⟨j, hj, rfl⟩ := List.mem_iff_getElem.mp ht
  exact (h.one i hi j hj).2.2.2

theorem Live.ws {l : List Nat} {R Rm : Nat → List Tx} {h : Hk} (hR : Made l R) (H : Live R Rm h) {o : Nat} (ho : o < 3) {t : Tx} {rest : List Tx} (hm : Rm o = t :: rest) : t.ws.length ≤ 1000000 := by
  obtain ⟨n, _, _, hd⟩ := H.at_ o ho
  rw [hm] at hd
  obtain ⟨hlt, hg⟩ := drop_at hd
  have := hR.ws o ho t (by rw [← hg]; exact List.getElem_mem hlt)
  rw [this]
  simp

/-- Who is fed stays so, whatever else is put in. -/
theorem Fed.step {Rm : Nat → List Tx} {h : Hk} {o o' : Nat} {t : Tx} {rest : List Tx} (H : Fed Rm h o') : Fed (upd Rm o rest) { h with q := upd h.q o (h.q o ++ [t]) } o' := by
  by_cases e : o' = o
  · subst e
    exact .inl (by simp [upd])
  · unfold Fed at H ⊢
    simp only [upd, if_neg e]
    exact H

theorem Fed.new {Rm : Nat → List Tx} {h : Hk} {o : Nat} {t : Tx} {rest : List Tx} : Fed (upd Rm o rest) { h with q := upd h.q o (h.q o ++ [t]) } o := .inl (by simp [upd])

/-- Of each of the first j turns one is fed. -/
def FedTo (TL : List Nat) (j : Nat) (Rm : Nat → List Tx) (h : Hk) : Prop := ∀ q (hq : q < TL.length), q < j → Fed Rm h (TL[q] % 3)

theorem FedTo.next {TL : List Nat} {j : Nat} {Rm : Nat → List Tx} {h : Hk} (H : FedTo TL j Rm h) (hj : j < TL.length) (Rm2 : Nat → List Tx) (h2 : Hk) (f : ∀ o, Fed Rm h o → Fed Rm2 h2 o) (hn : Fed Rm2 h2 (TL[j] % 3)) : FedTo TL (j + 1) Rm2 h2 := by
  intro q hq hlt
  by_cases e : q = j
  · subst e; exact hn
  · exact f _ (H q hq (by omega))

theorem FedTo.all {tl : List Nat} {j : Nat} {Rm : Nat → List Tx} {h : Hk} (H : FedTo (tl ++ [0, 1, 2]) j Rm h) (hj : tl.length + 3 ≤ j) : ∀ o, o < 3 → Fed Rm h o := by
  intro o ho
  have hl : (tl ++ [0, 1, 2]).length = tl.length + 3 := by simp
  have h1 := H (tl.length + o) (by rw [hl]; omega) (by omega)
  have e : (tl ++ [0, 1, 2])[tl.length + o]'(by rw [hl]; omega) % 3 = o := by
    rw [List.getElem_append_right (by omega)]
    have hc : o = 0 ∨ o = 1 ∨ o = 2 := by omega
    rcases hc with rfl | rfl | rfl <;> simp
  rw [e] at h1
  exact h1

theorem bys_append (a b : List Nat) : bys (a ++ b) = bys a ++ bys b := by simp [bys]
theorem bys_one : ∀ l, ∀ u ∈ bys l, u.oneCell' = true := by
  intro l u hu
  obtain ⟨m, _, rfl⟩ := List.mem_map.mp hu
  rfl
theorem bys_length (l : List Nat) : (bys l).length = l.length := by simp [bys]
theorem Try.infoBy : (Try.prog.info? 5).map (fun i => (i.zero, i.size, i.bytes)) = some (some (.int .u8 0), 1, 1) := by kernel_rfl
end Go.Proofs.Ytiomdclelbjmmaa
