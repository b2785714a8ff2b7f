/-
  The rows of package disk's laws: the arguments opened.
-/
import Derived.Test.YthblfkopofmdfaaDiskDown
import Derived.Test.YthblfkopofmdfaaRow
set_option linter.unusedVariables false
set_option linter.unusedSimpArgs false
namespace Go.Proofs.Ythblfkopofmdfaa
open Go.ChangeShapes Go.WideShapes Go.ChangeAt Go.RowKit Go.Deep

theorem Try.own : ownKnob Try.prog.godebug = none := by kernel_rfl
theorem Try.laidOut : laidOutB Try.prog = true := by kernel_rfl
instance : Inhabited Ac := ⟨⟨0, 0, 0, [], []⟩⟩
theorem Try.cellsInt : Try.prog.cellsOf 3 = 1 := by kernel_rfl
theorem Try.cellsByte : Try.prog.cellsOf 5 = 1 := by kernel_rfl
theorem Try.cellsBytes : Try.prog.cellsOf 32 = 1 := by kernel_rfl
theorem Try.cellsInts : Try.prog.cellsOf 33 = 1 := by kernel_rfl
theorem Try.cellsAct : Try.prog.cellsOf 35 = 5 := by kernel_rfl

section
variable {H : Type} {enc : TypeId × Value → H} {W : World}

/-- A slice of integers, opened: what it shows. -/
theorem open_row {t e : TypeId} {k : IntKind} {fuel : Nat} {cs : List Value} {x : DataW H × List MemPlace} (ht : Try.prog.underlying t = some (.slice e)) (he : Try.prog.underlying e = some (.int k)) (h1 : Try.prog.cellsOf e = 1)
    (hf : DataW.trod enc Try.prog W 0 (fun _ => true) true fuel t cs = some x) :
    ∃ (A : Option Addr) (c : Nat) (l : List Int), cs = [.slice A l.length c] ∧ Rd W A (l.map (Value.int k)) ∧ (A = none → l.length = 0) ∧ l.length ≤ 9223372036854775807 := by
  rcases open_slice ht hf with ⟨hcs, _⟩ | ⟨a, len, cap, m, n, D, Pl, hcs, _, hle, hm, hmm, _, hi⟩
  · exact ⟨none, 0, [], hcs, by intro j u hj; simp at hj, fun _ => rfl, by simp⟩
  · have hlm : len ≤ m := by rw [hmm]; simp; exact hle
    unfold maxLen at hm
    obtain ⟨F, hF⟩ := choose_lt (α := Int) (n := len) (p := fun j x => ∃ b o, (some a : Option Addr) = some ⟨b, o, none⟩ ∧ b < W.heap.size ∧ W.cell? ⟨b, o + j, none⟩ = some (.int k x)) (fun j hj => by
      obtain ⟨b, o, hao⟩ : ∃ b o, a = ⟨b, o, none⟩ := by
        obtain ⟨cs', hc, _⟩ := hi 0 (by omega)
        obtain ⟨b, o, e⟩ := addr_plain hc (by rw [h1]; decide)
        rw [Nat.zero_mul] at e
        exact ⟨b, o, by simpa [Addr.add] using e⟩
      obtain ⟨cs', hc, htr⟩ := hi j (by omega)
      rw [h1, Nat.mul_one] at hc
      obtain ⟨_, hlen, hat⟩ := World.cells?_some hc
      match cs', hlen with
      | [v0], _ =>
        obtain ⟨n0, e0, _, _⟩ := DataW.trod_int he htr
        simp only [List.cons.injEq, and_true] at e0
        subst e0
        rw [hao, add_off] at hat
        have q0 := hat 0 (by omega)
        rw [add_off] at q0
        exact ⟨n0, b, o, by rw [hao], World.block_lt_of_cell? W ⟨b, o + j, none⟩ q0, q0⟩)
    refine ⟨some a, cap, (List.range len).map F, by simpa using hcs, ?_, (fun e => by cases e), (by simp; omega)⟩
    intro j u hj
    have hjl : j < len := by
      have := (List.getElem?_eq_some_iff.mp hj).1
      simpa using this
    obtain ⟨b, o, e1, e2, e3⟩ := hF j hjl
    refine ⟨b, o, e1, e2, ?_⟩
    rw [e3]
    have : (((List.range len).map F).map (Value.int k))[j]? = some (.int k (F j)) := by simp [hjl]
    rw [this] at hj
    exact hj

/-- An argument of type []Act, opened. -/
theorem open_acts {a0 : Option Addr} {len cap : Nat} {d : DataW H} {p : List MemPlace} (h : DataW.Trod enc Try.prog W 0 (fun _ => true) true 22 (.slice a0 len cap) d p) :
    ∃ l : List Ac, l.length = len ∧ len ≤ 9223372036854775807 ∧ ActsAt W a0 l := by
  obtain ⟨fuel, hf⟩ := h
  rcases open_slice Try.underlying22 hf with ⟨hcs, _⟩ | ⟨a, len', cap', m, n, D, Pl, hcs, _, hle, hm, hmm, _, hi⟩
  · simp [Value.cells] at hcs
    obtain ⟨rfl, rfl, rfl⟩ := hcs
    exact ⟨[], rfl, by omega, fun k hk => absurd hk (by simp)⟩
  · simp [Value.cells] at hcs
    obtain ⟨rfl, rfl, rfl⟩ := hcs
    have hlm : len ≤ m := by rw [hmm]; simp; exact hle
    unfold maxLen at hm
    obtain ⟨F, hF⟩ := choose_lt (α := Ac) (n := len) (p := fun k x => ActAt W (some a) k x) (fun k hk => by
      obtain ⟨b, o, hao⟩ : ∃ b o, a = ⟨b, o, none⟩ := by
        obtain ⟨cs', hc, _⟩ := hi 0 (by omega)
        obtain ⟨b, o, e⟩ := addr_plain hc (by rw [Try.cellsAct]; decide)
        rw [Nat.zero_mul] at e
        exact ⟨b, o, by simpa [Addr.add] using e⟩
      obtain ⟨cs', hc, ht⟩ := hi k (by omega)
      rw [Try.cellsAct] at hc
      obtain ⟨_, hlen, hat⟩ := World.cells?_some hc
      obtain ⟨xs, n', _, _, _, hxl, hg⟩ := DataW.trod_struct Try.underlying35 ht
      match cs', hlen, xs, hxl with
      | [v0, v1, v2, v3, v4], _, [y0, y1, y2, y3, y4], _ =>
        have g0 : DataW.trod enc Try.prog W 0 (fun _ => true) true n' 3 [v0] = some y0 := by simpa [Try.cellsInt] using hg 0 _ rfl
        have g1 : DataW.trod enc Try.prog W 0 (fun _ => true) true n' 3 [v1] = some y1 := by simpa [Try.cellsInt] using hg 1 _ rfl
        have g2 : DataW.trod enc Try.prog W 0 (fun _ => true) true n' 3 [v2] = some y2 := by simpa [Try.cellsInt] using hg 2 _ rfl
        have g3 : DataW.trod enc Try.prog W 0 (fun _ => true) true n' 32 [v3] = some y3 := by simpa [Try.cellsInt, Try.cellsBytes] using hg 3 _ rfl
        have g4 : DataW.trod enc Try.prog W 0 (fun _ => true) true n' 33 [v4] = some y4 := by simpa [Try.cellsInt, Try.cellsBytes, Try.cellsInts] using hg 4 _ rfl
        obtain ⟨n0, e0, _, _⟩ := DataW.trod_int Try.underlying3 g0
        obtain ⟨n1, e1, _, _⟩ := DataW.trod_int Try.underlying3 g1
        obtain ⟨n2, e2, _, w2⟩ := DataW.trod_int Try.underlying3 g2
        obtain ⟨AB, cB, lb, e3, rb, zb, nb⟩ := open_row Try.underlying32 Try.underlying5 Try.cellsByte g3
        obtain ⟨AK, cK, lk, e4, rk, zk, nk⟩ := open_row Try.underlying33 Try.underlying3 Try.cellsInt g4
        simp only [List.cons.injEq, and_true] at e0 e1 e2 e3 e4
        subst e0 e1 e2 e3 e4
        have b2 : n2 ≤ 9223372036854775807 := by have := w2; simp [Lit.wf, IntKind.min, IntKind.max, IntKind.signed, IntKind.bits] at this; omega
        rw [hao, add_off] at hat
        have q0 := hat 0 (by omega)
        have q1 := hat 1 (by omega)
        have q2 := hat 2 (by omega)
        have q3 := hat 3 (by omega)
        have q4 := hat 4 (by omega)
        rw [add_off] at q0 q1 q2 q3 q4
        exact ⟨⟨n0, n1, n2, lb, lk⟩, b, o, AB, AK, cB, cK, by rw [hao], World.block_lt_of_cell? W ⟨b, o + k * 5, none⟩ q0, q0, q1, q2, q3, q4, rb, zb, rk, b2, nb, nk⟩)
    refine ⟨(List.range len).map F, by simp, by omega, fun k hk => ?_⟩
    have hk' : k < len := by simpa using hk
    have := hF k hk'
    simpa using this
end

set_option maxRecDepth 100000 in
theorem diskDown_lifted (os : Os) (started : os.Started) (H : Type) (enc : TypeId × Value → H) :
    ReturnsInHanded {} Try.checked os 5 .any (Rows.diskDownSpec.pre6 enc Try.prog Try.f5 Rows.diskDownRow.domain false) (Rows.diskDownSpec.post enc Try.prog Try.f5 false true false false) := by
  refine returnsInHanded_of_change (C := Try.checked) Try.own started (by kernel_rfl) Try.func5
    (ChangeSpec.witness6 (enc := enc) (C := Try.checked) false ⟨#[], #[.slice none 0 0, .slice none 0 0], []⟩ 8 (by kernel_rfl) (by kernel_rfl) (by kernel_rfl) (by kernel_rfl)) ?_
  intro W base args ds gs before hval0 hW hcnd _
  have hval : ∀ (j : Nat) t v, Try.f5.params[j]? = some t → args[j]? = some v → Value.okWide Try.prog W .any base t v := hval0
  have hW' := hW
  obtain ⟨p, q, hA0, hV, rfl, hfz, hnd⟩ := hW
  have hA : DataW.TrodAll enc Try.prog W 0 (fun _ => true) true Try.f5.params.toList args.toList ds p := hA0
  rw [Try.params5] at hA hval
  obtain ⟨v0, v1, d0, d1, p0, p1, rfl, rfl, rfl, h0, h1⟩ := trodAll_two hA
  obtain ⟨rfl, rfl⟩ := trodVars_none hV
  obtain ⟨a0, len, cap, rfl⟩ := okWide_slice Try.underlying22 (hval 0 22 v0 rfl rfl)
  obtain ⟨a1, len1, cap1, rfl⟩ := okWide_slice Try.underlying22 (hval 1 22 v1 rfl rfl)
  obtain ⟨l, rfl, hl, hacts⟩ := open_acts h0
  obtain ⟨m, rfl, hm, hacts'⟩ := open_acts h1
  refine (down_law a0 a1 cap cap1 l m W hacts hacts' hl hm).mono fun e W' ⟨he, hb⟩ => ?_
  subst he
  exact ⟨_, rfl, law_post hW' hb rfl rfl (by kernel_rfl) Try.underlying4 rfl rfl Try.laidOut (by rw [Try.params5]; intro t ht; simp at ht; rcases ht with rfl | rfl <;> exact ⟨by kernel_rfl, of_decide_eq_true (by kernel_rfl)⟩)⟩

theorem diskDown_holds : Rows.DiskDownSaid :=
  OpenClaim.holds_of_wide 5 Try.f5 rfl rfl rfl rfl rfl rfl rfl ⟨rfl, rfl, rfl, rfl, rfl⟩ rfl rfl rfl rfl rfl (by kernel_rfl) Try.func5 (by kernel_rfl)
    (of_decide_eq_true (by kernel_rfl)) (by unfold Func.isWrapper; first | (rw [if_pos (by decide +kernel)]; kernel_rfl) | (rw [if_neg (by decide +kernel)]; exact ⟨rfl, rfl⟩))
    (fun os started H enc _ => diskDown_lifted os started H enc)
end Go.Proofs.Ythblfkopofmdfaa
