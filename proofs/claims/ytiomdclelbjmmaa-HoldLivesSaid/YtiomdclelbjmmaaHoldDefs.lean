/-
  Writes and transactions; slices of them; what a hold's block shows. Plain lemmas; no program but the types' numbers.
-/
import Derived.Test.YtiomdclelbjmmaaHoldCovers
set_option linter.unusedVariables false
set_option linter.unusedSimpArgs false
namespace Go.Proofs.Ytiomdclelbjmmaa
open Go.RowKit

/-- A write. -/
structure Wr where
  k : ByteArray
  v : ByteArray
  g : Bool

/-- A transaction. -/
structure Tx where
  o : Int
  s : Int
  d0 : Int
  d1 : Int
  d2 : Int
  ws : List Wr

/-- A transaction as it lies: its writes' address and capacity. -/
structure Tv where
  t : Tx
  A : Option Addr
  c : Nat

def wrs : List Wr → List Value
  | [] => []
  | x :: l => .string x.k :: .string x.v :: .bool x.g :: wrs l

def Tv.cells (x : Tv) : List Value := [.int .i64 x.t.o, .int .i64 x.t.s, .int .i64 x.t.d0, .int .i64 x.t.d1, .int .i64 x.t.d2, .slice x.A x.t.ws.length x.c]

def txs : List Tv → List Value
  | [] => []
  | x :: l => x.cells ++ txs l

theorem wrs_length : ∀ l, (wrs l).length = l.length * 3
  | [] => rfl
  | x :: l => by simp only [wrs, List.length_cons, wrs_length l]; omega

theorem wrs_append : ∀ l l', wrs (l ++ l') = wrs l ++ wrs l'
  | [], _ => rfl
  | x :: l, l' => by simp only [List.cons_append, wrs, wrs_append l l']

theorem wrs_at : ∀ (l : List Wr) (k : Nat) (h : k < l.length), (wrs l)[k * 3]? = some (.string l[k].k) ∧ (wrs l)[k * 3 + 1]? = some (.string l[k].v) ∧ (wrs l)[k * 3 + 2]? = some (.bool l[k].g)
  | x :: l, 0, h => ⟨rfl, rfl, rfl⟩
  | x :: l, k + 1, h => by
    have h1 := wrs_at l k (by simpa using h)
    rw [show (k + 1) * 3 = k * 3 + 1 + 1 + 1 from by omega]
    simpa [wrs] using h1

theorem wrs_one : ∀ l, ∀ u ∈ wrs l, u.oneCell' = true
  | [], u, h => by cases h
  | x :: l, u, h => by
    simp only [wrs, List.mem_cons] at h
    rcases h with rfl | rfl | rfl | h
    · rfl
    · rfl
    · rfl
    · exact wrs_one l u h

theorem txs_length : ∀ l, (txs l).length = l.length * 6
  | [] => rfl
  | x :: l => by simp only [txs, List.length_append, List.length_cons, txs_length l, Tv.cells, List.length_nil]; omega

theorem txs_append : ∀ l l', txs (l ++ l') = txs l ++ txs l'
  | [], _ => rfl
  | x :: l, l' => by simp only [List.cons_append, txs, txs_append l l', List.append_assoc]

theorem txs_drop : ∀ (l : List Tv) (k : Nat), txs (l.drop k) = (txs l).drop (k * 6)
  | l, 0 => by simp
  | [], k + 1 => by simp [txs]
  | x :: l, k + 1 => by
    rw [List.drop_succ_cons, txs_drop l k, show (k + 1) * 6 = k * 6 + 1 + 1 + 1 + 1 + 1 + 1 from by omega]
    simp [txs, Tv.cells]

theorem txs_at (l : List Tv) (k : Nat) (h : k < l.length) (j : Nat) (hj : j < 6) : (txs l)[k * 6 + j]? = l[k].cells[j]? := by
  induction l generalizing k with
  | nil => simp at h
  | cons x l ih =>
    cases k with
    | zero =>
      simp only [txs, Nat.zero_mul, Nat.zero_add, List.getElem_cons_zero]
      rw [List.getElem?_append_left (by simpa [Tv.cells] using hj)]
    | succ k =>
      have := ih k (by simpa using h)
      simp only [txs, List.getElem_cons_succ]
      rw [List.getElem?_append_right (by simp [Tv.cells]; omega)]
      have e : (k + 1) * 6 + j - x.cells.length = k * 6 + j := by simp [Tv.cells]; omega
      rw [e, this]

theorem txs_one : ∀ l, ∀ u ∈ txs l, u.oneCell' = true
  | [], u, h => by cases h
  | x :: l, u, h => by
    simp only [txs, Tv.cells, List.mem_append, List.mem_cons, List.not_mem_nil, or_false] at h
    rcases h with (rfl | rfl | rfl | rfl | rfl | rfl) | h
    · rfl
    · rfl
    · rfl
    · rfl
    · rfl
    · rfl
    · exact txs_one l u h

/-- The cells of one write. -/
theorem wr_cells {w : World} {A : Option Addr} {l : List Wr} {k : Nat} (h : Rd w A (wrs l)) (hk : k < l.length) : ∃ b o, A = some ⟨b, o, none⟩ ∧ b < w.heap.size ∧ w.cell? ⟨b, o + k * 3, none⟩ = some (.string l[k].k) ∧ w.cell? ⟨b, o + k * 3 + 1, none⟩ = some (.string l[k].v) ∧ w.cell? ⟨b, o + k * 3 + 2, none⟩ = some (.bool l[k].g) := by
  obtain ⟨p0, p1, p2⟩ := wrs_at l k hk
  obtain ⟨b, o, rfl, hb, q0⟩ := h _ _ p0
  obtain ⟨b1, o1, e1, _, q1⟩ := h _ _ p1
  obtain ⟨b2, o2, e2, _, q2⟩ := h _ _ p2
  injection e1 with e1
  injection e1 with e1 e1'
  injection e2 with e2
  injection e2 with e2 e2'
  subst e1 e1' e2 e2'
  exact ⟨b, o, rfl, hb, q0, q1, q2⟩

/-- The cells of one transaction. -/
theorem tx_cells {w : World} {A : Option Addr} {l : List Tv} {k : Nat} (h : Rd w A (txs l)) (hk : k < l.length) : ∃ b o, A = some ⟨b, o, none⟩ ∧ b < w.heap.size ∧ w.cell? ⟨b, o + k * 6, none⟩ = some (.int .i64 l[k].t.o) ∧ w.cell? ⟨b, o + k * 6 + 1, none⟩ = some (.int .i64 l[k].t.s) ∧
    w.cell? ⟨b, o + k * 6 + 2, none⟩ = some (.int .i64 l[k].t.d0) ∧ w.cell? ⟨b, o + k * 6 + 3, none⟩ = some (.int .i64 l[k].t.d1) ∧ w.cell? ⟨b, o + k * 6 + 4, none⟩ = some (.int .i64 l[k].t.d2) ∧ w.cell? ⟨b, o + k * 6 + 5, none⟩ = some (.slice l[k].A l[k].t.ws.length l[k].c) := by
  have p := fun j hj => txs_at l k hk j hj
  obtain ⟨b, o, rfl, hb, q0⟩ := h _ _ (p 0 (by omega))
  have q : ∀ j (hj : j < 6) u, l[k].cells[j]? = some u → w.cell? ⟨b, o + k * 6 + j, none⟩ = some u := by
    intro j hj u hu
    obtain ⟨b1, o1, e1, _, q1⟩ := h _ _ ((p j hj).trans hu)
    injection e1 with e1
    injection e1 with e1 e1'
    subst e1 e1'
    rw [Nat.add_assoc]
    exact q1
  exact ⟨b, o, rfl, hb, q0, q 1 (by omega) _ rfl, q 2 (by omega) _ rfl, q 3 (by omega) _ rfl, q 4 (by omega) _ rfl, q 5 (by omega) _ rfl⟩

theorem bk6 {w : World} {b : Nat} {t : TypeId} {x0 x1 x2 x3 x4 x5 : Value} (h : Bk w b t #[x0, x1, x2, x3, x4, x5]) :
    (w.cell? ⟨b, 0, none⟩ = some x0 ∧ w.cell? ⟨b, 1, none⟩ = some x1 ∧ w.cell? ⟨b, 2, none⟩ = some x2 ∧ w.cell? ⟨b, 3, none⟩ = some x3 ∧ w.cell? ⟨b, 4, none⟩ = some x4 ∧ w.cell? ⟨b, 5, none⟩ = some x5) ∧
    (w.frozen? ⟨b, 0, none⟩ = false ∧ w.frozen? ⟨b, 1, none⟩ = false ∧ w.frozen? ⟨b, 2, none⟩ = false ∧ w.frozen? ⟨b, 3, none⟩ = false ∧ w.frozen? ⟨b, 4, none⟩ = false ∧ w.frozen? ⟨b, 5, none⟩ = false) :=
  ⟨⟨h.cell 0, h.cell 1, h.cell 2, h.cell 3, h.cell 4, h.cell 5⟩, ⟨h.free 0, h.free 1, h.free 2, h.free 3, h.free 4, h.free 5⟩⟩

/-- A block of six cells, stored over. -/
def set6 (w : World) (b : Nat) (x0 x1 x2 x3 x4 x5 : Value) : World := (((((w.setCell ⟨b, 0, none⟩ x0).setCell ⟨b, 1, none⟩ x1).setCell ⟨b, 2, none⟩ x2).setCell ⟨b, 3, none⟩ x3).setCell ⟨b, 4, none⟩ x4).setCell ⟨b, 5, none⟩ x5

theorem set6_bk {w : World} {b : Nat} {t : TypeId} {y0 y1 y2 y3 y4 y5 : Value} (h : Bk w b t #[y0, y1, y2, y3, y4, y5]) (x0 x1 x2 x3 x4 x5 : Value) : Bk (set6 w b x0 x1 x2 x3 x4 x5) b t #[x0, x1, x2, x3, x4, x5] :=
  (((((h.put 0 x0).put 1 x1).put 2 x2).put 3 x3).put 4 x4).put 5 x5

theorem set6_kp {S : Nat → Prop} {w w' : World} {b : Nat} (h : Kp S w w') (hb : S b ∨ w.heap.size ≤ b) (x0 x1 x2 x3 x4 x5 : Value) : Kp S w (set6 w' b x0 x1 x2 x3 x4 x5) :=
  (((((h.setCell (p := ⟨b, 0, none⟩) hb x0).setCell (p := ⟨b, 1, none⟩) hb x1).setCell (p := ⟨b, 2, none⟩) hb x2).setCell (p := ⟨b, 3, none⟩) hb x3).setCell (p := ⟨b, 4, none⟩) hb x4).setCell (p := ⟨b, 5, none⟩) hb x5

theorem set6_below {B : Nat} {w w' : World} {b : Nat} (h : Below B w w') (hb : B ≤ b) (x0 x1 x2 x3 x4 x5 : Value) : Below B w (set6 w' b x0 x1 x2 x3 x4 x5) :=
  (((((h.setCell (p := ⟨b, 0, none⟩) hb x0).setCell (p := ⟨b, 1, none⟩) hb x1).setCell (p := ⟨b, 2, none⟩) hb x2).setCell (p := ⟨b, 3, none⟩) hb x3).setCell (p := ⟨b, 4, none⟩) hb x4).setCell (p := ⟨b, 5, none⟩) hb x5

/-- The cells that a slice shows, none of them in a block of S. -/
def Sh (S : Nat → Prop) (w : World) (A : Option Addr) (xs : List Value) : Prop :=
  ∀ j u, xs[j]? = some u → ∃ b o, A = some ⟨b, o, none⟩ ∧ b < w.heap.size ∧ ¬ S b ∧ w.cell? ⟨b, o + j, none⟩ = some u

section
variable {S T : Nat → Prop} {w w' : World} {A : Option Addr} {xs : List Value}

theorem Sh.rd (h : Sh S w A xs) : Rd w A xs := fun j u hj => by
  obtain ⟨b, o, e, hl, _, hc⟩ := h j u hj
  exact ⟨b, o, e, hl, hc⟩

theorem Sh.kp (h : Sh S w A xs) (k : Kp T w w') (hT : ∀ i, T i → S i) : Sh S w' A xs := fun j u hj => by
  obtain ⟨b, o, rfl, hl, hS, hc⟩ := h j u hj
  exact ⟨b, o, rfl, Nat.lt_of_lt_of_le hl k.size, hS, (k.cell (p := ⟨b, o + j, none⟩) hl (fun ht => hS (hT _ ht))).trans hc⟩

theorem Sh.below (h : Sh S w A xs) (hb : Below w.heap.size w w') : Sh S w' A xs := fun j u hj => by
  obtain ⟨b, o, rfl, hl, hS, hc⟩ := h j u hj
  exact ⟨b, o, rfl, Nat.lt_of_lt_of_le hl hb.size, hS, (hb.cell (p := ⟨b, o + j, none⟩) hl).trans hc⟩

theorem Sh.drew (h : Sh S w A xs) : Sh S w.drew A xs := h

theorem Sh.of_rd (h : Rd w A xs) (hS : ∀ g o, A = some ⟨g, o, none⟩ → xs ≠ [] → ¬ S g) : Sh S w A xs := fun j u hj => by
  obtain ⟨b, o, e, hl, hc⟩ := h j u hj
  exact ⟨b, o, e, hl, hS b o e (fun e => by rw [e] at hj; simp at hj), hc⟩

/-- Of a row of the call's own, which lies behind all of S. -/
theorem Sh.own {B e size n : Nat} {c : Nat} (h : w.ownsRow B e size (.slice A n c) n xs) (hS : ∀ k, S k → k < B) : Sh S w A xs :=
  .of_rd (own_rd h) fun g o hA _ hs => by
    have h1 := (own_ge h g (by rw [hA]; rfl)).1
    have h2 := hS g hs
    omega

theorem Sh.drop (h : Sh S w A xs) {g o : Nat} (hA : A = some ⟨g, o, none⟩) (k : Nat) : Sh S w (some ⟨g, o + k, none⟩) (xs.drop k) := fun j u hj => by
  rw [List.getElem?_drop] at hj
  obtain ⟨b, o', e, hl, hS, hc⟩ := h _ u hj
  rw [hA] at e
  injection e with e
  injection e with e1 e2
  subst e1 e2
  exact ⟨g, o + k, rfl, hl, hS, by rw [Nat.add_assoc]; exact hc⟩

/-- A transaction's writes can be read. -/
structure Wk (S : Nat → Prop) (w : World) (x : Tv) : Prop where
  sh : Sh S w x.A (wrs x.t.ws)
  nil : x.A = none → x.t.ws.length = 0

theorem Wk.kp {x : Tv} (h : Wk S w x) (k : Kp T w w') (hT : ∀ i, T i → S i) : Wk S w' x := ⟨h.sh.kp k hT, h.nil⟩
theorem Wk.below {x : Tv} (h : Wk S w x) (hb : Below w.heap.size w w') : Wk S w' x := ⟨h.sh.below hb, h.nil⟩

/-- A slice of transactions. -/
structure Ts (S : Nat → Prop) (w : World) (v : Value) (Q : List Tx) : Prop where
  row : ∃ A c L, v = .slice A Q.length c ∧ Q.length ≤ c ∧ (A = none → Q.length = 0 ∧ c = 0) ∧ L.map Tv.t = Q ∧ Sh S w A (txs L) ∧ ∀ x ∈ L, Wk S w x

theorem Ts.kp {v : Value} {Q : List Tx} (h : Ts S w v Q) (k : Kp T w w') (hT : ∀ i, T i → S i) : Ts S w' v Q := by
  obtain ⟨A, c, L, h1, h2, h3, h4, h5, h6⟩ := h.row
  exact ⟨A, c, L, h1, h2, h3, h4, h5.kp k hT, fun x hx => (h6 x hx).kp k hT⟩

theorem Ts.below {v : Value} {Q : List Tx} (h : Ts S w v Q) (hb : Below w.heap.size w w') : Ts S w' v Q := by
  obtain ⟨A, c, L, h1, h2, h3, h4, h5, h6⟩ := h.row
  exact ⟨A, c, L, h1, h2, h3, h4, h5.below hb, fun x hx => (h6 x hx).below hb⟩

theorem Ts.nil_ : Ts S w (.slice none 0 0) [] := ⟨none, 0, [], rfl, Nat.le_refl _, fun _ => ⟨rfl, rfl⟩, rfl, fun j u hj => by simp [txs] at hj, fun x hx => by cases hx⟩
end

/-- What is applied, and what waits, of each origin. -/
structure Hk where
  a : Nat → Int
  q : Nat → List Tx

/-- The cells of a hold. -/
structure Hs (S : Nat → Prop) (w : World) (h : Hk) (cs : Array Value) : Prop where
  size : cs.size = 6
  app : ∀ i, i < 3 → cs[i]? = some (.int .i64 (h.a i))
  que : ∀ i, i < 3 → ∃ v, cs[3 + i]? = some v ∧ Ts S w v (h.q i)

/-- At block b, of type t, lies a hold. -/
structure HAt (t : TypeId) (S : Nat → Prop) (w : World) (b : Nat) (h : Hk) : Prop where
  mem : S b
  row : ∃ cs, Bk w b t cs ∧ Hs S w h cs

section
variable {t : TypeId} {S T : Nat → Prop} {w w' : World} {b : Nat} {h : Hk}

theorem HAt.lt (H : HAt t S w b h) : b < w.heap.size := by
  obtain ⟨cs, hb, _⟩ := H.row
  exact hb.lt

theorem Hs.kp {cs : Array Value} (H : Hs S w h cs) (k : Kp T w w') (hT : ∀ i, T i → S i) : Hs S w' h cs :=
  ⟨H.size, H.app, fun i hi => by obtain ⟨v, h1, h2⟩ := H.que i hi; exact ⟨v, h1, h2.kp k hT⟩⟩

theorem Hs.below {cs : Array Value} (H : Hs S w h cs) (hb : Below w.heap.size w w') : Hs S w' h cs :=
  ⟨H.size, H.app, fun i hi => by obtain ⟨v, h1, h2⟩ := H.que i hi; exact ⟨v, h1, h2.below hb⟩⟩

theorem HAt.below (H : HAt t S w b h) (hb : Below w.heap.size w w') : HAt t S w' b h := by
  obtain ⟨cs, h1, h2⟩ := H.row
  exact ⟨H.mem, cs, h1.below hb h1.lt, h2.below hb⟩

/-- A hold is kept by what changes other blocks of S. -/
theorem HAt.kp (H : HAt t S w b h) (k : Kp T w w') (hT : ∀ i, T i → S i) (hb : ¬ T b) : HAt t S w' b h := by
  obtain ⟨cs, h1, h2⟩ := H.row
  exact ⟨H.mem, cs, h1.kp k hb, h2.kp k hT⟩

def upd {α : Type} (f : Nat → α) (i : Nat) (x : α) : Nat → α := fun k => if k = i then x else f k

theorem set_at (cs : Array Value) (j k : Nat) (u : Value) (hj : j < cs.size) : (cs.setIfInBounds j u)[k]? = if k = j then some u else cs[k]? := by
  rw [Array.getElem?_setIfInBounds]
  by_cases h : j = k
  · subst h; simp [hj]
  · rw [if_neg h, if_neg (fun e => h e.symm)]

theorem Hs.putA {cs : Array Value} (H : Hs S w h cs) {i : Nat} (hi : i < 3) (x : Int) : Hs S w { h with a := upd h.a i x } (cs.setIfInBounds i (.int .i64 x)) := by
  have hz := H.size
  refine ⟨by simp [hz], fun k hk => ?_, fun k hk => ?_⟩
  · rw [set_at _ _ _ _ (by omega)]
    by_cases e : k = i
    · subst e; simp [upd]
    · rw [if_neg e]; simpa [upd, e] using H.app k hk
  · obtain ⟨v, h1, h2⟩ := H.que k hk
    exact ⟨v, by rw [set_at _ _ _ _ (by omega), if_neg (by omega)]; exact h1, h2⟩

theorem Hs.putQ {cs : Array Value} (H : Hs S w h cs) {i : Nat} (hi : i < 3) {v : Value} {Q : List Tx} (hv : Ts S w v Q) : Hs S w { h with q := upd h.q i Q } (cs.setIfInBounds (3 + i) v) := by
  have hz := H.size
  refine ⟨by simp [hz], fun k hk => ?_, fun k hk => ?_⟩
  · rw [set_at _ _ _ _ (by omega), if_neg (by omega)]; exact H.app k hk
  · obtain ⟨v', h1, h2⟩ := H.que k hk
    by_cases e : k = i
    · subst e
      exact ⟨v, by rw [set_at _ _ _ _ (by omega), if_pos rfl], by simpa [upd] using hv⟩
    · exact ⟨v', by rw [set_at _ _ _ _ (by omega), if_neg (by omega)]; exact h1, by simpa [upd, e] using h2⟩
end
end Go.Proofs.Ytiomdclelbjmmaa
