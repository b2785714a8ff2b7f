/-
  HoldLives, for every input: it answers true, and what was there stays as it was.
-/
import Derived.Test.YtiomdclelbjmmaaHoldLives
import Derived.Test.YtiomdclelbjmmaaHoldRows
set_option linter.unusedVariables false
set_option linter.unusedSimpArgs false
namespace Go.Proofs.Ytiomdclelbjmmaa
open Go.ChangeShapes Go.WideShapes Go.ChangeAt Go.RowKit Go.Deep

theorem Try.cellsByte : Try.prog.cellsOf 5 = 1 := by kernel_rfl

/-- An argument of type []uint8, opened. -/
theorem open_bys_arg {H : Type} {enc : TypeId × Value → H} {W : World} {r : Reach} {b0 : Nat} {v : Value} {d : DataW H} {p : List MemPlace} (hv : Value.okWide Try.prog W r b0 56 v) (h : DataW.Trod enc Try.prog W 0 (fun _ => true) true 56 v d p) :
    ∃ (A : Option Addr) (c : Nat) (l : List Nat), v = .slice A l.length c ∧ Rd W A (bys l) ∧ (A = none → l.length = 0) ∧ (∀ m ∈ l, m < 256) ∧ l.length ≤ 9223372036854775807 := by
  obtain ⟨a0, len, cap, rfl⟩ := okWide_slice Try.underlying56 hv
  obtain ⟨fuel, hf⟩ := h
  rcases open_slice Try.underlying56 hf with ⟨hcs, _⟩ | ⟨a, len', cap', m, n, D, Pl, hcs, _, hle, hm, hmm, _, hi⟩
  · simp [Value.cells] at hcs
    obtain ⟨rfl, rfl, rfl⟩ := hcs
    exact ⟨none, 0, [], rfl, fun j u hj => by simp [bys] at hj, fun _ => rfl, (fun m hm => by cases hm), by simp⟩
  · simp [Value.cells] at hcs
    obtain ⟨rfl, rfl, rfl⟩ := hcs
    have hlm : len ≤ m := by rw [hmm]; simp; exact hle
    unfold maxLen at hm
    obtain ⟨F, hF⟩ := choose_lt (α := Nat) (n := len) (p := fun j x => x < 256 ∧ ∃ b o, (some a : Option Addr) = some ⟨b, o, none⟩ ∧ b < W.heap.size ∧ W.cell? ⟨b, o + j, none⟩ = some (.int .u8 (x : Int))) (fun j hj => by
      obtain ⟨b, o, hao⟩ : ∃ b o, a = ⟨b, o, none⟩ := by
        obtain ⟨cs', hc, _⟩ := hi 0 (by omega)
        obtain ⟨b, o, e⟩ := addr_plain hc (by rw [Try.cellsByte]; decide)
        rw [Nat.zero_mul] at e
        exact ⟨b, o, by simpa [Addr.add] using e⟩
      obtain ⟨cs', hc, htr⟩ := hi j (by omega)
      rw [Try.cellsByte, Nat.mul_one] at hc
      obtain ⟨_, hlen, hat⟩ := World.cells?_some hc
      match cs', hlen with
      | [v0], _ =>
        obtain ⟨n0, e0, _, wf⟩ := DataW.trod_int Try.underlying5 htr
        simp only [List.cons.injEq, and_true] at e0
        subst e0
        simp [Lit.wf, IntKind.min, IntKind.max, IntKind.signed, IntKind.bits] at wf
        rw [hao, add_off] at hat
        have q0 := hat 0 (by omega)
        rw [add_off] at q0
        obtain ⟨x, rfl⟩ : ∃ x : Nat, n0 = (x : Int) := ⟨n0.toNat, by omega⟩
        exact ⟨x, by omega, b, o, by rw [hao], World.block_lt_of_cell? W ⟨b, o + j, none⟩ q0, q0⟩)
    refine ⟨some a, cap, (List.range len).map F, by simp, ?_, (fun e => by cases e), (fun x hx => ?_), (by simp; omega)⟩
    · intro j u hj
      have hjl : j < len := by
        have := (List.getElem?_eq_some_iff.mp hj).1
        simpa [bys] using this
      obtain ⟨_, b, o, e1, e2, e3⟩ := hF j hjl
      refine ⟨b, o, e1, e2, ?_⟩
      rw [e3]
      have : (bys ((List.range len).map F))[j]? = some (.int .u8 (F j : Int)) := by simp [bys, hjl]
      rw [this] at hj
      exact hj
    · obtain ⟨j, hj, rfl⟩ := List.mem_map.mp hx
      exact (hF j (by simpa using hj)).1

set_option maxRecDepth 100000 in
theorem holdLives_lifted (os : Os) (started : os.Started) (H : Type) (enc : TypeId × Value → H) :
    ReturnsInHanded {} Try.checked os 5 .any (Rows.holdLivesSpec.pre6 enc Try.prog Try.f5 Rows.holdLivesRow.domain false) (Rows.holdLivesSpec.post enc Try.prog Try.f5 false true false false) := by
  refine returnsInHanded_of_change (C := Try.checked) Try.own started (by kernel_rfl) Try.func5
    (ChangeSpec.witness6 (enc := enc) (C := Try.checked) false ⟨#[], #[.slice none 0 0, .slice none 0 0], []⟩ 8 (by kernel_rfl) (by kernel_rfl) (by kernel_rfl) (by kernel_rfl)) ?_
  intro W base args ds gs before hval0 hW hcnd _
  have hval : ∀ (j : Nat) t v, Try.f5.params[j]? = some t → args[j]? = some v → Value.okWide Try.prog W .any base t v := hval0
  have hW' := hW
  obtain ⟨p, q, hA0, hV, rfl, hfz, hnd⟩ := hW
  have hA : DataW.TrodAll enc Try.prog W 0 (fun _ => true) true Try.f5.params.toList args.toList ds p := hA0
  rw [Try.params5] at hA hval
  obtain ⟨v0, v1, d0, d1, p0, p1, rfl, rfl, rfl, h0, h1⟩ := trodAll_two hA
  obtain ⟨rfl, rfl⟩ := trodVars_none hV
  obtain ⟨A1, c1, m1, rfl, r1, n1, b1, l1⟩ := open_bys_arg (hval 0 56 v0 rfl rfl) h0
  obtain ⟨A2, c2, m2, rfl, r2, n2, b2, l2⟩ := open_bys_arg (hval 1 56 v1 rfl rfl) h1
  refine (lives_law A1 A2 c1 c2 m1 m2 W r1 r2 n1 n2 b1 b2 l1 l2).mono fun e W' ⟨he, hb⟩ => ?_
  subst he
  exact ⟨_, rfl, law_post hW' hb rfl rfl (by kernel_rfl) Try.underlying4 rfl rfl Try.laidOut (by rw [Try.params5]; intro t ht; simp at ht; subst ht; exact ⟨by kernel_rfl, of_decide_eq_true (by kernel_rfl)⟩)⟩

theorem holdLives_holds : Rows.HoldLivesSaid :=
  OpenClaim.holds_of_wide 5 Try.f5 rfl rfl rfl rfl rfl rfl rfl ⟨rfl, rfl, rfl, rfl, rfl⟩ rfl rfl rfl rfl rfl (by kernel_rfl) Try.func5 (by kernel_rfl)
    (of_decide_eq_true (by kernel_rfl)) (by unfold Func.isWrapper; first | (rw [if_pos (by decide +kernel)]; kernel_rfl) | (rw [if_neg (by decide +kernel)]; exact ⟨rfl, rfl⟩))
    (fun os started H enc _ => holdLives_lifted os started H enc)
#print axioms holdLives_holds
end Go.Proofs.Ytiomdclelbjmmaa
