/-
  The rows of package hold's laws: the arguments opened.
-/
import Derived.Test.YtiomdclelbjmmaaHoldDoes
import Derived.Test.YtiomdclelbjmmaaRow
import Derived.Laws.IdiomArrays
set_option linter.unusedVariables false
set_option linter.unusedSimpArgs false
namespace Go.Proofs.Ytiomdclelbjmmaa
open Go.ChangeShapes Go.WideShapes Go.ChangeAt Go.RowKit Go.Deep

theorem Try.own : ownKnob Try.prog.godebug = none := by kernel_rfl
theorem Try.laidOut : laidOutB Try.prog = true := by kernel_rfl
instance : Inhabited Wr := ⟨⟨⟨#[]⟩, ⟨#[]⟩, false⟩⟩
instance : Inhabited Act := ⟨⟨0, ⟨⟨0, 0, 0, 0, 0, []⟩, none, 0⟩⟩⟩
theorem Try.cellsInt : Try.prog.cellsOf 3 = 1 := by kernel_rfl
theorem Try.cellsInt64 : Try.prog.cellsOf 2 = 1 := by kernel_rfl
theorem Try.cellsString : Try.prog.cellsOf 9 = 1 := by kernel_rfl
theorem Try.cellsBool : Try.prog.cellsOf 4 = 1 := by kernel_rfl
theorem Try.cellsClock : Try.prog.cellsOf 23 = 3 := by kernel_rfl
theorem Try.cellsWrite : Try.prog.cellsOf 65 = 3 := by kernel_rfl
theorem Try.cellsWrites : Try.prog.cellsOf 34 = 1 := by kernel_rfl
theorem Try.cellsTxn : Try.prog.cellsOf 36 = 6 := by kernel_rfl
theorem Try.cellsAct : Try.prog.cellsOf 38 = 7 := by kernel_rfl

theorem arr3 {α : Type} {cs : Array α} (h : cs.size = 3) : ∃ c0 c1 c2, cs = #[c0, c1, c2] := by
  obtain ⟨l⟩ := cs
  match l, h with
  | [a, b, c], _ => exact ⟨a, b, c, rfl⟩

section
variable {H : Type} {enc : TypeId × Value → H} {W : World}

/-- A slice of writes, opened. -/
theorem open_wrs {fuel : Nat} {cs : List Value} {x : DataW H × List MemPlace} (hf : DataW.trod enc Try.prog W 0 (fun _ => true) true fuel 34 cs = some x) :
    ∃ (A : Option Addr) (c : Nat) (l : List Wr), cs = [.slice A l.length c] ∧ Rd W A (wrs l) ∧ (A = none → l.length = 0) := by
  rcases open_slice Try.underlying34 hf with ⟨hcs, _⟩ | ⟨a, len, cap, m, n, D, Pl, hcs, _, hle, hm, hmm, _, hi⟩
  · exact ⟨none, 0, [], hcs, by intro j u hj; simp [wrs] at hj, fun _ => rfl⟩
  · have hlm : len ≤ m := by rw [hmm]; simp; exact hle
    obtain ⟨F, hF⟩ := choose_lt (α := Wr) (n := len) (p := fun k x => ∃ b o, (some a : Option Addr) = some ⟨b, o, none⟩ ∧ b < W.heap.size ∧ W.cell? ⟨b, o + k * 3, none⟩ = some (.string x.k) ∧ W.cell? ⟨b, o + k * 3 + 1, none⟩ = some (.string x.v) ∧ W.cell? ⟨b, o + k * 3 + 2, none⟩ = some (.bool x.g)) (fun k hk => by
      obtain ⟨b, o, hao⟩ : ∃ b o, a = ⟨b, o, none⟩ := by
        obtain ⟨cs', hc, _⟩ := hi 0 (by omega)
        obtain ⟨b, o, e⟩ := addr_plain hc (by rw [Try.cellsWrite]; decide)
        rw [Nat.zero_mul] at e
        exact ⟨b, o, by simpa [Addr.add] using e⟩
      obtain ⟨cs', hc, ht⟩ := hi k (by omega)
      rw [Try.cellsWrite] at hc
      obtain ⟨_, hlen, hat⟩ := World.cells?_some hc
      obtain ⟨xs, n', _, _, _, hxl, hg⟩ := DataW.trod_struct Try.underlying65 ht
      match cs', hlen, xs, hxl with
      | [v0, v1, v2], _, [y0, y1, y2], _ =>
        have g0 : DataW.trod enc Try.prog W 0 (fun _ => true) true n' 9 [v0] = some y0 := by simpa [Try.cellsString] using hg 0 _ rfl
        have g1 : DataW.trod enc Try.prog W 0 (fun _ => true) true n' 9 [v1] = some y1 := by simpa [Try.cellsString] using hg 1 _ rfl
        have g2 : DataW.trod enc Try.prog W 0 (fun _ => true) true n' 4 [v2] = some y2 := by simpa [Try.cellsBool] using hg 2 _ rfl
        obtain ⟨s0, e0, _, _⟩ := DataW.trod_string Try.underlying9 g0
        obtain ⟨s1, e1, _, _⟩ := DataW.trod_string Try.underlying9 g1
        obtain ⟨b2, e2, _⟩ := DataW.trod_bool Try.underlying4 g2
        simp only [List.cons.injEq, and_true] at e0 e1 e2
        subst e0 e1 e2
        rw [hao, add_off] at hat
        have q0 := hat 0 (by omega)
        have q1 := hat 1 (by omega)
        have q2 := hat 2 (by omega)
        rw [add_off] at q0 q1 q2
        exact ⟨⟨s0, s1, b2⟩, b, o, by rw [hao], World.block_lt_of_cell? W ⟨b, o + k * 3, none⟩ q0, q0, q1, q2⟩)
    refine ⟨some a, cap, (List.range len).map F, by simpa using hcs, ?_, (fun e => by cases e)⟩
    intro j u hj
    have hjl : j < len * 3 := by
      have := (List.getElem?_eq_some_iff.mp hj).1
      rw [wrs_length] at this
      simpa using this
    obtain ⟨k, r, hr, rfl⟩ : ∃ k r, r < 3 ∧ j = k * 3 + r := ⟨j / 3, j % 3, Nat.mod_lt _ (by decide), by omega⟩
    have hk : k < len := by omega
    obtain ⟨b, o, e1, e2, e3, e4, e5⟩ := hF k hk
    have hk' : k < ((List.range len).map F).length := by simpa using hk
    obtain ⟨p0, p1, p2⟩ := wrs_at ((List.range len).map F) k hk'
    have eF : ((List.range len).map F)[k] = F k := by simp
    rw [eF] at p0 p1 p2
    refine ⟨b, o, e1, e2, ?_⟩
    have hr3 : r = 0 ∨ r = 1 ∨ r = 2 := by omega
    rcases hr3 with rfl | rfl | rfl
    · rw [Nat.add_zero] at hj ⊢; rw [← hj, p0]; exact e3
    · rw [← hj, p1]; rw [← Nat.add_assoc]; exact e4
    · rw [← hj, p2]; rw [← Nat.add_assoc]; exact e5

/-- A clock, opened. -/
theorem open_clock {fuel : Nat} {v0 v1 v2 : Value} {x : DataW H × List MemPlace} (hf : DataW.trod enc Try.prog W 0 (fun _ => true) true fuel 23 [v0, v1, v2] = some x) : ∃ c0 c1 c2 : Int, v0 = .int .i64 c0 ∧ v1 = .int .i64 c1 ∧ v2 = .int .i64 c2 := by
  obtain ⟨y0, y1, y2, n, _, h0, h1, h2⟩ := trod_array3 Try.underlying23 Try.cellsInt64 hf
  obtain ⟨n0, e0, _, _⟩ := DataW.trod_int Try.underlying2 h0
  obtain ⟨n1, e1, _, _⟩ := DataW.trod_int Try.underlying2 h1
  obtain ⟨n2, e2, _, _⟩ := DataW.trod_int Try.underlying2 h2
  simp only [List.cons.injEq, and_true] at e0 e1 e2
  exact ⟨n0, n1, n2, e0, e1, e2⟩

/-- An argument of type api.Clock, opened. -/
theorem open_clock_arg {r : Reach} {b0 : Nat} {v : Value} {d : DataW H} {p : List MemPlace} (hv : Value.okWide Try.prog W r b0 23 v) (h : DataW.Trod enc Try.prog W 0 (fun _ => true) true 23 v d p) : ∃ c0 c1 c2 : Int, v = .agg #[.int .i64 c0, .int .i64 c1, .int .i64 c2] := by
  simp only [Value.okWide, Try.underlying23] at hv
  obtain ⟨cs, rfl, hsz, _⟩ := hv
  rw [Try.cellsClock] at hsz
  obtain ⟨v0, v1, v2, rfl⟩ := arr3 hsz
  obtain ⟨fuel, hf⟩ := h
  obtain ⟨c0, c1, c2, rfl, rfl, rfl⟩ := open_clock (v0 := v0) (v1 := v1) (v2 := v2) (by simpa [Value.cells] using hf)
  exact ⟨c0, c1, c2, rfl⟩

/-- One act, as it lies. -/
def ActAt (W : World) (a0 : Option Addr) (k : Nat) (a : Act) : Prop := ∃ b o, a0 = some ⟨b, o, none⟩ ∧ b < W.heap.size ∧ W.cell? ⟨b, o + k * 7, none⟩ = some (.int .i64 a.d) ∧ W.cell? ⟨b, o + k * 7 + 1, none⟩ = some (.int .i64 a.x.t.o) ∧
    W.cell? ⟨b, o + k * 7 + 2, none⟩ = some (.int .i64 a.x.t.s) ∧ W.cell? ⟨b, o + k * 7 + 3, none⟩ = some (.int .i64 a.x.t.d0) ∧ W.cell? ⟨b, o + k * 7 + 4, none⟩ = some (.int .i64 a.x.t.d1) ∧ W.cell? ⟨b, o + k * 7 + 5, none⟩ = some (.int .i64 a.x.t.d2) ∧
    W.cell? ⟨b, o + k * 7 + 6, none⟩ = some (.slice a.x.A a.x.t.ws.length a.x.c) ∧ Wk (fun _ => False) W a.x

/-- An argument of type []Act, opened. -/
theorem open_acts {a0 : Option Addr} {len cap : Nat} {d : DataW H} {p : List MemPlace} (h : DataW.Trod enc Try.prog W 0 (fun _ => true) true 24 (.slice a0 len cap) d p) :
    ∃ l : List Act, l.length = len ∧ len ≤ 9223372036854775807 ∧ ActsAt (fun _ => False) W a0 l := by
  obtain ⟨fuel, hf⟩ := h
  rcases open_slice Try.underlying24 hf with ⟨hcs, _⟩ | ⟨a, len', cap', m, n, D, Pl, hcs, _, hle, hm, hmm, _, hi⟩
  · simp [Value.cells] at hcs
    obtain ⟨rfl, rfl, rfl⟩ := hcs
    exact ⟨[], rfl, by omega, ⟨fun k hk => absurd hk (by simp), fun a ha => by cases ha⟩⟩
  · simp [Value.cells] at hcs
    obtain ⟨rfl, rfl, rfl⟩ := hcs
    have hlm : len ≤ m := by rw [hmm]; simp; exact hle
    unfold maxLen at hm
    obtain ⟨F, hF⟩ := choose_lt (α := Act) (n := len) (p := fun k x => ActAt W (some a) k x) (fun k hk => by
      obtain ⟨b, o, hao⟩ : ∃ b o, a = ⟨b, o, none⟩ := by
        obtain ⟨cs', hc, _⟩ := hi 0 (by omega)
        obtain ⟨b, o, e⟩ := addr_plain hc (by rw [Try.cellsAct]; decide)
        rw [Nat.zero_mul] at e
        exact ⟨b, o, by simpa [Addr.add] using e⟩
      obtain ⟨cs', hc, ht⟩ := hi k (by omega)
      rw [Try.cellsAct] at hc
      obtain ⟨_, hlen, hat⟩ := World.cells?_some hc
      obtain ⟨xs, n', _, _, _, hxl, hg⟩ := DataW.trod_struct Try.underlying38 ht
      match cs', hlen, xs, hxl with
      | [v0, v1, v2, v3, v4, v5, v6], _, [y0, y1], _ =>
        have g0 : DataW.trod enc Try.prog W 0 (fun _ => true) true n' 3 [v0] = some y0 := by simpa [Try.cellsInt] using hg 0 _ rfl
        have g1 : DataW.trod enc Try.prog W 0 (fun _ => true) true n' 36 [v1, v2, v3, v4, v5, v6] = some y1 := by simpa [Try.cellsInt, Try.cellsTxn] using hg 1 _ rfl
        obtain ⟨zs, n2, _, _, _, hzl, hz⟩ := DataW.trod_struct Try.underlying36 g1
        match zs, hzl with
        | [z0, z1, z2, z3], _ =>
          have f0 : DataW.trod enc Try.prog W 0 (fun _ => true) true n2 3 [v1] = some z0 := by simpa [Try.cellsInt] using hz 0 _ rfl
          have f1 : DataW.trod enc Try.prog W 0 (fun _ => true) true n2 2 [v2] = some z1 := by simpa [Try.cellsInt64] using hz 1 _ rfl
          have f2 : DataW.trod enc Try.prog W 0 (fun _ => true) true n2 23 [v3, v4, v5] = some z2 := by simpa [Try.cellsClock] using hz 2 _ rfl
          have f3 : DataW.trod enc Try.prog W 0 (fun _ => true) true n2 34 [v6] = some z3 := by simpa [Try.cellsWrites] using hz 3 _ rfl
          obtain ⟨n0, e0, _, _⟩ := DataW.trod_int Try.underlying3 g0
          obtain ⟨n1, e1, _, _⟩ := DataW.trod_int Try.underlying3 f0
          obtain ⟨n2, e2, _, _⟩ := DataW.trod_int Try.underlying2 f1
          obtain ⟨c0, c1, c2, rfl, rfl, rfl⟩ := open_clock f2
          obtain ⟨A, c, ws, e6, rw6, zw6⟩ := open_wrs f3
          simp only [List.cons.injEq, and_true] at e0 e1 e2 e6
          subst e0 e1 e2 e6
          rw [hao, add_off] at hat
          have q0 := hat 0 (by omega)
          have q1 := hat 1 (by omega)
          have q2 := hat 2 (by omega)
          have q3 := hat 3 (by omega)
          have q4 := hat 4 (by omega)
          have q5 := hat 5 (by omega)
          have q6 := hat 6 (by omega)
          rw [add_off] at q0 q1 q2 q3 q4 q5 q6
          exact ⟨⟨n0, ⟨⟨n1, n2, c0, c1, c2, ws⟩, A, c⟩⟩, b, o, by rw [hao], World.block_lt_of_cell? W ⟨b, o + k * 7, none⟩ q0, q0, q1, q2, q3, q4, q5, q6, Sh.of_rd rw6 (fun _ _ _ _ h => h), zw6⟩)
    refine ⟨(List.range len).map F, by simp, by omega, ⟨fun k hk => ?_, fun x hx => ?_⟩⟩
    · have hk' : k < len := by simpa using hk
      have eF : ((List.range len).map F)[k] = F k := by simp
      rw [eF]
      obtain ⟨b, o, e, hb, c0, c1, c2, c3, c4, c5, c6, _⟩ := hF k hk'
      exact ⟨b, o, e, hb, fun h => h, c0, c1, c2, c3, c4, c5, c6⟩
    · obtain ⟨k, hk, rfl⟩ := List.mem_map.mp hx
      obtain ⟨b, o, e, hb, c0, c1, c2, c3, c4, c5, c6, hw⟩ := hF k (by simpa using hk)
      exact hw
end
end Go.Proofs.Ytiomdclelbjmmaa
