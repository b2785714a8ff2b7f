/-
  All of the hold, a range over a function: where it stands between two rounds; its steps. Plain lemmas.
-/
import Derived.Test.YtiomdclelbjmmaaHoldRAll
import Derived.RangeFuncNested
import Derived.RangeFuncBound
import Derived.RangeFuncCalls
import Derived.RangeFuncLeaves
import Derived.Shelf.Abstract
import Derived.Shelf.RegionOpen
import Derived.OwnWalkIn
import Derived.TacticsInMore
import Derived.LoopNIn
import Derived.LoopIn
import Derived.Maps.OwnIn
set_option linter.unusedVariables false
set_option linter.unusedSimpArgs false
namespace Go.Proofs.Ytiomdclelbjmmaa
open Go.RowKit

/-- Which blocks change on the way: those of S, the row, out's box, the loop's record, the iterator's variable. -/
def Sy (S : Nat → Prop) (v : Value) (bo l g : Nat) (k : Nat) : Prop := S k ∨ v.ownBlock = some k ∨ k = bo ∨ (k = l ∨ k + 1 = l) ∨ k = g

/-- Where All stands: L lies in out's row; rn was taken of the hold. -/
structure AlR (S : Nat → Prop) (b : Nat) (h : Hk) (w : World) (l : Nat) (rc : Loop) (v : Value) (L : List Tv) (h1 : Hk) (rn : List Tx) (g : Nat) (W : World) : Prop where
  kp : Kp (· = b) w W
  box : Bk W w.heap.size 44 #[v]
  hbx : Bk W (w.heap.size + 1) 27 #[.pointer (some ⟨b, 0, none⟩)]
  own : W.ownsRow w.heap.size 36 6 v L.length (txs L)
  wk : ∀ x ∈ L, Wk (Sy S v w.heap.size l g) W x
  at_ : HAt 61 (Sy S v w.heap.size l g) W b h1
  ok : h1.ok
  run : Run h rn h1
  dfr : W.heap[w.heap.size + 2]? = some (.deferred (some []))
  rec_ : W.heap[l]? = some (.loop rc)
  lb : b < w.heap.size
  ll : l = w.heap.size + 3
  lg : w.heap.size + 3 ≤ g

section
variable {S : Nat → Prop} {b : Nat} {h h1 : Hk} {w : World} {l : Nat} {rc : Loop} {v : Value} {L : List Tv} {rn : List Tx} {g : Nat} {W W1 : World}

theorem AlR.llt (m : AlR S b h w l rc v L h1 rn g W) : l < W.heap.size := (Array.getElem?_eq_some_iff.1 m.rec_).1

theorem own_cells {e size n : Nat} {B : Nat} {xs : List Value} (h : W.ownsRow B e size v n xs) {k : Nat} (hk : v.ownBlock = some k) : ∃ cs, W.heap[k]? = some (.cells cs e (0, 0)) := by
  rcases h.2 with ⟨rfl, _⟩ | ⟨g', cap, cur, rfl, _, hh, _⟩
  · simp [Value.ownBlock] at hk
  · have : g' = k := by simpa [Value.ownBlock] using hk
    subst this
    exact ⟨_, hh⟩

theorem AlR.ne_l (m : AlR S b h w l rc v L h1 rn g W) : v.ownBlock ≠ some l := by
  intro e
  obtain ⟨cs, hc⟩ := own_cells m.own e
  rw [m.rec_] at hc
  cases hc

theorem AlR.ne_d (m : AlR S b h w l rc v L h1 rn g W) : v.ownBlock ≠ some (w.heap.size + 2) := by
  intro e
  obtain ⟨cs, hc⟩ := own_cells m.own e
  rw [m.dfr] at hc
  cases hc

theorem AlR.ne_o (m : AlR S b h w l rc v L h1 rn g W) : v.ownBlock ≠ some w.heap.size := own_ne_bk m.own m.box (by decide)
theorem AlR.ne_h (m : AlR S b h w l rc v L h1 rn g W) : v.ownBlock ≠ some (w.heap.size + 1) := own_ne_bk m.own m.hbx (by decide)
theorem AlR.ne_b (m : AlR S b h w l rc v L h1 rn g W) : v.ownBlock ≠ some b := by
  obtain ⟨cs, hk, _⟩ := m.at_.row
  exact own_ne_bk m.own hk (by decide)

theorem AlR.lt (hS : ∀ k, S k → k < w.heap.size) (m : AlR S b h w l rc v L h1 rn g W) (hg : g < W.heap.size) : ∀ k, Sy S v w.heap.size l g k → k < W.heap.size := by
  intro k hk
  have h3 := m.llt
  have h4 := m.ll
  rcases hk with hk | hk | hk | hk | hk
  · exact Nat.lt_of_lt_of_le (hS k hk) m.kp.size
  · exact (own_ge m.own k hk).2
  · omega
  · omega
  · omega

/-- A step that changes the hold, or makes blocks, or turns the iterator's variable; h2 is what it leaves of the hold. -/
theorem AlR.step {h2 : Hk} {rn' : List Tx} {g' : Nat} {K : Nat → Prop} (m : AlR S b h w l rc v L h1 rn g W) (hSb : S b) (k : Kp K W W1) (hK : ∀ i, i < W.heap.size → K i → i = b ∨ i = g ∧ w.heap.size + 3 < g ∧ v.ownBlock ≠ some g) (hg' : g' = g ∨ W.heap.size ≤ g') (hh : HAt 61 (Sy S v w.heap.size l g') W1 b h2) (hok : h2.ok) (hr : Run h rn' h2) :
    AlR S b h w l rc v L h2 rn' g' W1 := by
  have hl := m.llt
  have h4 := m.ll
  have h5 := m.lg
  have h6 := m.lb
  have hsz := m.kp.size
  have hns : ∀ i, i < W.heap.size → (i = w.heap.size ∨ i = w.heap.size + 1 ∨ i = w.heap.size + 2 ∨ i = l) → ¬ K i := by
    intro i hi hc hk
    rcases hK i hi hk with e | ⟨e, e2, _⟩ <;> omega
  have hrow : ∀ q, v.ownBlock = some q → ¬ K q := by
    intro q hq hk
    rcases hK q (own_ge m.own q hq).2 hk with e | ⟨e, _, e2⟩
    · rw [e] at hq; exact m.ne_b hq
    · rw [e] at hq; exact e2 hq
  have hS2 : ∀ i, Sy S v w.heap.size l g' i → Sy S v w.heap.size l g i ∨ W.heap.size ≤ i := by
    intro i hi
    rcases hi with hi | hi | hi | hi | hi
    · exact .inl (.inl hi)
    · exact .inl (.inr (.inl hi))
    · exact .inl (.inr (.inr (.inl hi)))
    · exact .inl (.inr (.inr (.inr (.inl hi))))
    · rcases hg' with e | e
      · exact .inl (.inr (.inr (.inr (.inr (by omega)))))
      · exact .inr (by omega)
  have hK1 : ∀ i, i < W.heap.size → K i → Sy S v w.heap.size l g i := by
    intro i hi hk
    rcases hK i hi hk with e | ⟨e, _, _⟩
    · rw [e]; exact .inl hSb
    · exact .inr (.inr (.inr (.inr e)))
  have hd : w.heap.size + 2 < W.heap.size := by omega
  refine ⟨?_, m.box.kp k (hns _ (by omega) (.inl rfl)), m.hbx.kp k (hns _ (by omega) (.inr (.inl rfl))), own_kp m.own k hrow, fun x hx => (m.wk x hx).ext k hK1 hS2, hh, hok, hr, (k.block _ hd (hns _ hd (.inr (.inr (.inl rfl))))).trans m.dfr, (k.block _ hl (hns _ hl (.inr (.inr (.inr rfl))))).trans m.rec_, m.lb, m.ll, ?_⟩
  · refine ⟨k.os.trans m.kp.os, k.tape.trans m.kp.tape, k.output.trans m.kp.output, Nat.le_trans m.kp.size k.size, fun i hi hb => ?_⟩
    refine (k.block i (Nat.lt_of_lt_of_le hi m.kp.size) (fun hk => ?_)).trans (m.kp.block i hi hb)
    rcases hK i (Nat.lt_of_lt_of_le hi m.kp.size) hk with e | ⟨e, _, _⟩
    · exact hb e
    · omega
  · rcases hg' with e | e <;> omega

theorem AlR.took {e : Ending} (m : AlR S b h w l rc v L h1 rn g W) (hSb : S b) (hp : TkPost 61 (Sy S v w.heap.size l g) b h1 W e W1) :
    Kp (· = b) W W1 ∧ ((e = .returned (.tuple #[.agg #[.int .i64 0, .int .i64 0, .int .i64 0, .int .i64 0, .int .i64 0, .slice none 0 0], .bool false]) ∧ AlR S b h w l rc v L h1 rn g W1 ∧ h1.peek = none) ∨
      ∃ (x : Tv) (h2 : Hk), e = .returned (.tuple #[.agg #[.int .i64 x.t.o, .int .i64 x.t.s, .int .i64 x.t.d0, .int .i64 x.t.d1, .int .i64 x.t.d2, .slice x.A x.t.ws.length x.c], .bool true]) ∧ AlR S b h w l rc v L h2 (rn ++ [x.t]) g W1 ∧ Wk (Sy S v w.heap.size l g) W1 x ∧ h2.cnt + 1 = h1.cnt) := by
  obtain ⟨hk, ⟨he, hh, hr, hn⟩ | ⟨x, h2, he, hh, hw, hr, hok, hc⟩⟩ := al_take m.run m.ok hp
  · exact ⟨hk, .inl ⟨he, m.step hSb hk (fun i _ e => .inl e) (.inl rfl) hh m.ok hr, hn⟩⟩
  · exact ⟨hk, .inr ⟨x, h2, he, m.step hSb hk (fun i _ e => .inl e) (.inl rfl) hh hok hr, hw, hc⟩⟩

theorem sy_new {i : Nat} (hi : Sy S v w.heap.size l W.heap.size i) : Sy S v w.heap.size l g i ∨ W.heap.size ≤ i := by
  rcases hi with hi | hi | hi | hi | hi
  · exact .inl (.inl hi)
  · exact .inl (.inr (.inl hi))
  · exact .inl (.inr (.inr (.inl hi)))
  · exact .inl (.inr (.inr (.inr (.inl hi))))
  · exact .inr (by omega)

theorem AlR.alloc (m : AlR S b h w l rc v L h1 rn g W) (hSb : S b) (o : Obj) : AlR S b h w l rc v L h1 rn W.heap.size (W.alloc o) := by
  have k : Kp (fun _ => False) W (W.alloc o) := (Kp.refl _ W).alloc o
  exact m.step hSb k (fun i _ e => e.elim) (.inr (Nat.le_refl _)) (m.at_.ext k (fun i _ e => e.elim) id (fun i => sy_new) (.inl hSb)) m.ok m.run

theorem AlR.news {x : Tv} (m : AlR S b h w l rc v L h1 rn g W) (hx : Wk (Sy S v w.heap.size l g) W x) (o : Obj) : Wk (Sy S v w.heap.size l W.heap.size) (W.alloc o) x :=
  hx.ext ((Kp.refl (fun _ => False) W).alloc o) (fun i _ e => e.elim) (fun i => sy_new)

theorem AlR.far (m : AlR S b h w l rc v L h1 rn g W) : W.heap.size ≠ l ∧ w.heap.size + 3 < W.heap.size ∧ v.ownBlock ≠ some W.heap.size := by
  have h3 := m.llt
  have h4 := m.ll
  refine ⟨by omega, by omega, fun e => ?_⟩
  have := (own_ge m.own _ e).2
  omega

/-- The iterator's variable is written over. -/
theorem AlR.turn (m : AlR S b h w l rc v L h1 rn g W) (hSb : S b) (hg : w.heap.size + 3 < g) (hv : v.ownBlock ≠ some g) (x0 x1 x2 x3 x4 x5 : Value) : AlR S b h w l rc v L h1 rn g (set6 W g x0 x1 x2 x3 x4 x5) := by
  have k : Kp (· = g) W (set6 W g x0 x1 x2 x3 x4 x5) := set6_kp (S := (· = g)) (Kp.refl _ W) (.inl rfl) _ _ _ _ _ _
  have h6 := m.lb
  exact m.step hSb k (fun i _ e => .inr ⟨e, hg, hv⟩) (.inl rfl) (m.at_.ext k (fun i _ e => .inr (.inr (.inr (.inr e)))) (fun e => by omega) (fun i hi => .inl hi) (.inl hSb)) m.ok m.run

theorem AlR.turns {x : Tv} (hx : Wk (Sy S v w.heap.size l g) W x) (x0 x1 x2 x3 x4 x5 : Value) : Wk (Sy S v w.heap.size l g) (set6 W g x0 x1 x2 x3 x4 x5) x :=
  hx.ext (set6_kp (S := (· = g)) (Kp.refl _ W) (.inl rfl) _ _ _ _ _ _) (fun i _ e => .inr (.inr (.inr (.inr e)))) (fun i hi => .inl hi)
end

/-- Where the iterator stands at the head of its loop: its variable is block g. -/
def AlQ (S : Nat → Prop) (b : Nat) (h : Hk) (w : World) (l : Nat) (rc : Loop) (g : Nat) (is : Bool) (W : World) : Prop :=
  ∃ v L h1 rn, AlR S b h w l rc v L h1 rn g W ∧ w.heap.size + 3 < g ∧ v.ownBlock ≠ some g ∧ (is = false → rn = L.map Tv.t ∧ h1.peek = none) ∧
    (is = true → ∃ x : Tv, rn = L.map Tv.t ++ [x.t] ∧ Bk W g 36 (txc x) ∧ Wk (Sy S v w.heap.size l g) W x)

/-- Where it stands at its end. -/
def AlE (S : Nat → Prop) (b : Nat) (h : Hk) (w : World) (l : Nat) (rc : Loop) (W : World) : Prop :=
  ∃ v L h1 g, AlR S b h w l rc v L h1 (L.map Tv.t) g W ∧ h1.peek = none
theorem Kp.putObj {S : Nat → Prop} {w w' : World} (h : Kp S w w') {r : Nat} (hr : S r ∨ w.heap.size ≤ r) (o : Obj) : Kp S w (w'.putObj r o) :=
  ⟨h.os, h.tape, h.output, by rw [World.putObj_size]; exact h.size, fun k hk hs => by
    refine (World.putObj_heap_other (fun e => ?_)).trans (h.block k hk hs)
    rcases hr with hr | hr
    · rw [e] at hs; exact hs hr
    · omega⟩

section
variable {S : Nat → Prop} {b : Nat} {h h1 : Hk} {w : World} {l : Nat} {rc : Loop} {v : Value} {L : List Tv} {rn : List Tx} {g : Nat} {W W1 : World}

/-- Where All begins to range. -/
theorem alr_start (H : HAt 61 S w b h) (hok : h.ok) (rc : Loop) :
    AlR S b h w (w.heap.size + 3) rc (.slice none 0 0) [] h [] (w.heap.size + 3) ((((w.alloc (.cells #[.slice none 0 0] 44)).alloc (.cells #[.pointer (some ⟨b, 0, none⟩)] 27)).alloc (.deferred (some []))).alloc (.loop rc)) := by
  have k0 : Kp (fun _ => False) w ((((w.alloc (.cells #[.slice none 0 0] 44)).alloc (.cells #[.pointer (some ⟨b, 0, none⟩)] 27)).alloc (.deferred (some []))).alloc (.loop rc)) := ((((Kp.refl _ w).alloc _).alloc _).alloc _).alloc _
  refine ⟨k0.mono (fun i _ e => e.elim), ?_, ?_, World.ownsRow_nil .., (fun x hx => by cases hx), H.ext k0 (fun i _ e => e.elim) id ?_ (.inl H.mem), hok, .nil h, ?_, ?_, H.lt, rfl, Nat.le_refl _⟩
  · exact (((Bk.new w _ _).alloc _).alloc _).alloc _
  · have := ((Bk.new (w.alloc (.cells #[.slice none 0 0] 44)) 27 #[.pointer (some ⟨b, 0, none⟩)]).alloc (.deferred (some []))).alloc (.loop rc)
    rwa [World.size_alloc] at this
  · intro i hi
    rcases hi with hi | hi | hi | hi | hi
    · exact .inl hi
    · simp [Value.ownBlock] at hi
    · exact .inr (by omega)
    · exact .inr (by omega)
    · exact .inr (by omega)
  · have a := World.alloc_heap_new ((w.alloc (.cells #[.slice none 0 0] 44)).alloc (.cells #[.pointer (some ⟨b, 0, none⟩)] 27)) (.deferred (some []))
    simp only [World.size_alloc] at a
    exact (Below.heap_alloc _ _ _ (by simp)).trans a
  · have a := World.alloc_heap_new (((w.alloc (.cells #[.slice none 0 0] 44)).alloc (.cells #[.pointer (some ⟨b, 0, none⟩)] 27)).alloc (.deferred (some []))) (.loop rc)
    simp only [World.size_alloc] at a
    exact a

/-- New blocks, the iterator's variable as it was. -/
theorem AlR.more (m : AlR S b h w l rc v L h1 rn g W) (hSb : S b) (o : Obj) : AlR S b h w l rc v L h1 rn g (W.alloc o) := by
  have k : Kp (fun _ => False) W (W.alloc o) := (Kp.refl _ W).alloc o
  exact m.step hSb k (fun i _ e => e.elim) (.inl rfl) (m.at_.ext k (fun i _ e => e.elim) id (fun i hi => .inl hi) (.inl hSb)) m.ok m.run

/-- The record is written over. -/
theorem AlR.puts (m : AlR S b h w l rc v L h1 rn g W) (hSb : S b) (rc' : Loop) : AlR S b h w l rc' v L h1 rn g (W.putObj l (.loop rc')) ∧ Kp (· = l) W (W.putObj l (.loop rc')) := by
  have k : Kp (· = l) W (W.putObj l (.loop rc')) := Kp.putObj (S := (· = l)) (Kp.refl _ W) (.inl rfl) _
  have h4 := m.ll
  have h6 := m.lb
  have kS : ∀ i, i < W.heap.size → i = l → Sy S v w.heap.size l g i := fun i _ e => .inr (.inr (.inr (.inl (.inl e))))
  refine ⟨⟨?_, m.box.kp k (by omega), m.hbx.kp k (by omega), own_kp m.own k (fun q hq e => by rw [e] at hq; exact m.ne_l hq), fun x hx => (m.wk x hx).ext k kS (fun i hi => .inl hi), m.at_.ext k kS (by omega) (fun i hi => .inl hi) (.inl hSb), m.ok, m.run, (k.block _ ?_ (by omega)).trans m.dfr, World.putObj_heap_same m.llt, m.lb, m.ll, m.lg⟩, k⟩
  · exact m.kp.trans k (fun i hi e => by omega)
  · have := m.llt; omega

/-- One more lies in out. -/
theorem AlR.added {x : Tv} {o : Obj} {w4 : World} {v' : Value} (m : AlR S b h w l rc v L h1 (L.map Tv.t ++ [x.t]) g W) (hSb : S b) (hx : Wk (Sy S v w.heap.size l g) W x) (hv : v.ownBlock ≠ some g) (hb : Bk W g 36 (txc x)) (hg : w.heap.size + 3 < g)
    (ho : w4.ownsRow w.heap.size 36 6 v' (L.length + 1) (txs L ++ x.cells)) (hgr : (W.alloc o).grownBy w4 v.ownBlock) (hv' : v'.ownBlock = v.ownBlock ∨ v'.ownBlock = some (W.alloc o).heap.size) :
    AlR S b h w l rc v' (L ++ [x]) h1 ((L ++ [x]).map Tv.t) g (w4.setCell ⟨w.heap.size, 0, none⟩ v') ∧ Bk (w4.setCell ⟨w.heap.size, 0, none⟩ v') g 36 (txc x) ∧ v'.ownBlock ≠ some g := by
  have hl := m.llt
  have h4 := m.ll
  have h5 := m.lg
  have h6 := m.lb
  have k1 : Kp (fun k => some k = v.ownBlock) W w4 := ((Kp.refl (fun k => some k = v.ownBlock) W).alloc o).tr (Kp.of_grown hgr)
  have k2 : Kp (fun k => some k = v.ownBlock ∨ k = w.heap.size) W (w4.setCell ⟨w.heap.size, 0, none⟩ v') := (k1.mono (fun i _ e => .inl e)).setCell (p := ⟨w.heap.size, 0, none⟩) (.inl (.inr rfl)) _
  have ne_v : ∀ q, v.ownBlock ≠ some q → q ≠ w.heap.size → ¬ (some q = v.ownBlock ∨ q = w.heap.size) := fun q h1 h2 e => by
    rcases e with e | e
    · exact h1 e.symm
    · exact h2 e
  have hbox : Bk w4 w.heap.size 44 #[v] := m.box.kp k1 (fun e => m.ne_o e.symm)
  have hbox2 : Bk (w4.setCell ⟨w.heap.size, 0, none⟩ v') w.heap.size 44 #[v'] := hbox.put 0 v'
  have hvg : v'.ownBlock ≠ some g := by
    intro e
    rcases hv' with h | h
    · rw [h] at e; exact hv e
    · rw [h] at e
      have := hb.lt
      have e2 : (W.alloc o).heap.size = g := by simpa using e
      rw [World.size_alloc] at e2
      omega
  have kS : ∀ i, i < W.heap.size → (some i = v.ownBlock ∨ i = w.heap.size) → Sy S v w.heap.size l g i := fun i _ e => by
    rcases e with e | e
    · exact .inr (.inl e.symm)
    · exact .inr (.inr (.inl e))
  have hS2 : ∀ i, Sy S v' w.heap.size l g i → Sy S v w.heap.size l g i ∨ W.heap.size ≤ i := by
    intro i hi
    rcases hi with hi | hi | hi | hi | hi
    · exact .inl (.inl hi)
    · rcases hv' with h | h
      · rw [h] at hi; exact .inl (.inr (.inl hi))
      · rw [h] at hi
        have e2 : (W.alloc o).heap.size = i := by simpa using hi
        rw [World.size_alloc] at e2
        exact .inr (by omega)
    · exact .inl (.inr (.inr (.inl hi)))
    · exact .inl (.inr (.inr (.inr (.inl hi))))
    · exact .inl (.inr (.inr (.inr (.inr hi))))
  have hcells : txs L ++ x.cells = txs (L ++ [x]) := by rw [txs_append]; simp [txs]
  rw [hcells] at ho
  have hvo : v'.ownBlock ≠ some w.heap.size := own_ne_bk ho hbox (by decide)
  refine ⟨⟨?_, hbox2, m.hbx.kp k2 (ne_v _ m.ne_h (by omega)), ?_, fun y hy => ?_, m.at_.ext k2 kS (ne_v _ m.ne_b (by omega)) hS2 (.inl hSb), m.ok, ?_, (k2.block _ (by omega) (ne_v _ m.ne_d (by omega))).trans m.dfr, (k2.block _ hl (ne_v _ m.ne_l (by omega))).trans m.rec_, h6, h4, h5⟩, hb.kp k2 (ne_v _ hv (by omega)), hvg⟩
  · refine (m.kp.trans k2 (T := fun k => some k = v.ownBlock ∨ k = w.heap.size) (fun i hi e => ?_))
    rcases e with e | e
    · have := (own_ge m.own i e.symm).1; omega
    · omega
  · rw [List.length_append]
    exact own_kp ho ((Kp.refl (· = w.heap.size) w4).set1 0 v') (fun q hq e => by rw [e] at hq; exact hvo hq)
  · rcases List.mem_append.mp hy with hy | hy
    · exact (m.wk y hy).ext k2 kS hS2
    · have : y = x := by simpa using hy
      subst this
      exact hx.ext k2 kS hS2
  · rw [List.map_append]; exact m.run

/-- What All leaves. -/
theorem AlR.fin (m : AlR S b h w l rc v L h1 (L.map Tv.t) g W) (hSb : S b) (hS : ∀ k, S k → k < w.heap.size) (hn : h1.peek = none) (o : Loop) (o' : Obj) :
    AlPost 61 S b h w (.returned v) ((W.putObj l (.loop o)).putObj (w.heap.size + 2) o') := by
  have h4 := m.ll
  have h6 := m.lb
  have k : Kp (fun k => k = l ∨ k + 1 = l) W ((W.putObj l (.loop o)).putObj (w.heap.size + 2) o') := ((Kp.refl _ W).putObj (.inl (.inl rfl)) _).putObj (.inl (.inr (by omega))) _
  have kS : ∀ i, i < W.heap.size → (i = l ∨ i + 1 = l) → Sy S v w.heap.size l g i := fun i _ e => .inr (.inr (.inr (.inl e)))
  have hT : ∀ i, S i → Sy S v w.heap.size l g i ∨ W.heap.size ≤ i := fun i hi => .inl (.inl hi)
  have ho := own_kp m.own k (fun q hq e => by
    rcases e with e | e
    · rw [e] at hq; exact m.ne_l hq
    · have e2 : q = w.heap.size + 2 := by omega
      rw [e2] at hq; exact m.ne_d hq)
  obtain ⟨A, c, rfl⟩ := own_shape ho
  have hts := ts_of_own (S := S) ho hS (fun x hx => (m.wk x hx).ext k kS hT)
  refine ⟨m.kp.trans k (fun i hi e => by omega), L.map Tv.t, h1, A, c, m.run, hn, by rw [List.length_map], ?_, m.at_.ext k kS (by omega) hT hSb⟩
  rw [List.length_map]
  exact hts
end
end Go.Proofs.Ytiomdclelbjmmaa

namespace Go
variable {F : Fence} {n : Nat} {P : Program}

/-- How a round that goes on ends. -/
def onPost (l : Nat) (rc : Loop) (R : Ending → World → Prop) : Exit → Act → World → Prop
  | .normal, _, W => W.heap[l]? = some (.loop { rc with state := .busy }) ∧ R (.returned (.bool true)) (W.putObj l (.loop rc))
  | _, _, _ => False

/-- One round, of a loop that no round leaves. -/
theorem round_at {rc : Loop} {l : Nat} {W : World} {xs : Array Value} {R : Ending → World → Prop} {assign body : Code} {ps : Array Tmp} {tmps : Array Value} (ea : rc.assign = assign) (eb : rc.body = body) (ep : rc.params = ps) (et : rc.tmps = tmps) (hl : W.heap[l]? = some (.loop rc)) (hr : rc.state = .ready) (hpn : rc.pending = none) (hs : xs.size = ps.size) (hF : F.fn rc.fn)
    (h : assign.wpIn (F.inRound l) n P (Exit.then (fun a' Wa => Wa.heap[l]? = some (.loop rc) ∧ body.wpIn (F.inRound l) n P (onPost l rc R) a' (Wa.putObj l (.loop { rc with state := .busy }))) (fun _ _ _ => False))
      { tmps := (ps.zip xs).foldl (fun tmps (t, a) => tmps.setIfInBounds t a) tmps, defers := [] } W) : YieldAt F n P l xs W R := by
  subst ea eb ep et
  refine ⟨rc.fn, _, rc.assign, rc.body, run_yield hl hs, roundIn_of_wpIn hF (wpIn_mono h ?_)⟩
  rintro e a' Wa hq
  cases e with
  | normal =>
    obtain ⟨hla, hb⟩ := hq
    refine ⟨_, run_beginRound hla hr, wpIn_mono hb ?_⟩
    rintro e2 a2 W2 hq2
    cases e2 with
    | normal =>
      obtain ⟨hl2, hR⟩ := hq2
      refine ⟨_, _, run_endRound none hl2, ?_⟩
      have : ({ ({ rc with state := .busy } : Loop) with state := if (none : Option Code).isNone then .ready else .done, pending := none } : Loop) = rc := by
        cases rc
        simp only at hr hpn
        subst hr hpn
        rfl
      rw [this]
      exact hR
    | exit id => exact hq2.elim
    | goto t => exact hq2.elim
    | ret => exact hq2.elim
    | panic c => exact hq2.elim
    | outgrown => exact hq2.elim
  | exit id => exact hq.elim
  | goto t => exact hq.elim
  | ret => exact hq.elim
  | panic c => exact hq.elim
  | outgrown => exact hq.elim

/-- The statement, where no round leaves: the iterator's word at this record. -/
theorem rangeFunc_at {g : Operand} {ps : Array Tmp} {assign body : Code} {Q : Exit → Act → World → Prop} {a : Act} {w : World} {gf : Nat} {lb : Array Value}
    (hro : F.round = none) (h1 : 1 ≤ n) (hg : a.eval g = .func (.func gf) #[] lb) (hFg : F.fn gf) (eg : ∀ args w, (callFunc gf args).run P w = .ok (.enter gf args) w)
    (hit : ∀ fn, F.fn fn → CallsIn F (n - 1) P gf (#[.func (.yield (w.heap.size + 1)) #[] #[]] ++ lb) ((w.alloc (.deferred (some []))).alloc (.loop { state := .ready, pending := none, fn, tmps := a.tmps, params := ps, assign, body, defers := w.heap.size }))
      (fun e W => (∃ v, e = .returned v) ∧ W.heap[w.heap.size + 1]? = some (.loop { state := .ready, pending := none, fn, tmps := a.tmps, params := ps, assign, body, defers := w.heap.size }) ∧
        ∀ o, Q .normal { a with defers := { target := .collected w.heap.size, args := #[] } :: a.defers } (W.putObj (w.heap.size + 1) (.loop o)))) :
    (Code.rangeFunc g ps assign body).wpIn F n P Q a w := by
  refine wpIn_rangeFunc ?_
  intro fn hfn
  rw [hro]
  obtain ⟨W1, hW1⟩ : ∃ W1, (w.alloc (.deferred (some []))).alloc (.loop { state := .ready, pending := none, fn, tmps := a.tmps, params := ps, assign, body, defers := w.heap.size }) = W1 := ⟨_, rfl⟩
  refine ⟨w.heap.size + 1, [{ target := .collected w.heap.size, args := #[] }], W1, { target := .fn (.func gf) lb, args := #[.func (.yield (w.heap.size + 1)) #[] #[]] }, W1, gf,
    #[.func (.yield (w.heap.size + 1)) #[] #[]] ++ lb, W1, (by rw [← hW1]; exact run_enterLoop_outer _ _ _ _ _), ?_, ?_, ?_, fun _ => h1, ?_⟩
  rotate_left 3
  · rw [← hW1]
    refine (hit fn hfn).mono ?_
    rintro e W ⟨⟨v, rfl⟩, hl, hq⟩
    exact ⟨none, _, run_endLoop hl (by simp), hq _⟩
  · simp only [resolve, hg]
    simp [go_sem]
  · intro f' hf'; simp [Target.leads] at hf'; subst hf'; exact hFg
  · simp [invoke, go_sem, eg]
end Go
