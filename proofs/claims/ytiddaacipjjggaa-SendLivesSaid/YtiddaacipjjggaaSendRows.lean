/-
  SendSynced, for every input: it answers true, and what was there stays as it was.
-/
import Derived.Test.YtiddaacipjjggaaSendSynced
import Derived.Test.YtiddaacipjjggaaRow
set_option linter.unusedVariables false
set_option linter.unusedSimpArgs false
namespace Go.Proofs.Ytiddaacipjjggaa
open Go.ChangeShapes Go.WideShapes Go.ChangeAt Go.RowKit Go.Deep

theorem Try.own : ownKnob Try.prog.godebug = none := by kernel_rfl
theorem Try.laidOut : laidOutB Try.prog = true := by kernel_rfl
instance : Inhabited Act := ⟨⟨0, 0, 0, 0, 0⟩⟩
theorem Try.cellsInt : Try.prog.cellsOf 3 = 1 := by kernel_rfl
theorem Try.cellsInt64 : Try.prog.cellsOf 2 = 1 := by kernel_rfl
theorem Try.cellsAct : Try.prog.cellsOf 33 = 5 := by kernel_rfl

section
variable {H : Type} {enc : TypeId × Value → H} {W : World}
/-- An argument of type []Act, opened. -/
theorem open_acts {a0 : Option Addr} {len cap : Nat} {d : DataW H} {p : List MemPlace} (h : DataW.Trod enc Try.prog W 0 (fun _ => true) true 22 (.slice a0 len cap) d p) :
    ∃ l : List Act, l.length = len ∧ len ≤ 9223372036854775807 ∧ ActsAt W a0 l := by
  obtain ⟨fuel, hf⟩ := h
  rcases open_slice Try.underlying22 hf with ⟨hcs, _⟩ | ⟨a, len', cap', m, n, D, Pl, hcs, _, hle, hm, hmm, _, hi⟩
  · simp [Value.cells] at hcs
    obtain ⟨rfl, rfl, rfl⟩ := hcs
    exact ⟨[], rfl, by omega, fun k hk => absurd hk (by simp)⟩
  · simp [Value.cells] at hcs
    obtain ⟨rfl, rfl, rfl⟩ := hcs
    have hlm : len ≤ m := by rw [hmm]; simp; exact hle
    unfold maxLen at hm
    obtain ⟨b, o, hao⟩ : ∃ b o, 0 < len → a = ⟨b, o, none⟩ := by
      rcases Nat.eq_zero_or_pos len with h0 | h0
      · exact ⟨0, 0, fun h => absurd h (by omega)⟩
      · obtain ⟨cs', hc, _⟩ := hi 0 (by omega)
        obtain ⟨b, o, e⟩ := addr_plain hc (by rw [Try.cellsAct]; decide)
        rw [Nat.zero_mul] at e
        exact ⟨b, o, fun _ => by simpa [Addr.add] using e⟩
    obtain ⟨F, hF⟩ := choose_lt (α := Act) (n := len) (p := fun k x => ∃ b o, (some a : Option Addr) = some ⟨b, o, none⟩ ∧ b < W.heap.size ∧ W.cell? ⟨b, o + k * 5, none⟩ = some (.int .i64 x.d) ∧ W.cell? ⟨b, o + k * 5 + 1, none⟩ = some (.int .i64 x.f) ∧
        W.cell? ⟨b, o + k * 5 + 2, none⟩ = some (.int .i64 x.t) ∧ W.cell? ⟨b, o + k * 5 + 3, none⟩ = some (.int .i64 x.b) ∧ W.cell? ⟨b, o + k * 5 + 4, none⟩ = some (.int .i64 x.y)) (fun k hk => by
      obtain ⟨cs', hc, ht⟩ := hi k (by omega)
      rw [Try.cellsAct] at hc
      obtain ⟨_, hlen, hat⟩ := World.cells?_some hc
      obtain ⟨xs, n', _, _, _, hxl, hg⟩ := DataW.trod_struct Try.underlying33 ht
      match cs', hlen, xs, hxl with
      | [v0, v1, v2, v3, v4], _, [y0, y1, y2, y3, y4], _ =>
        have g0 : DataW.trod enc Try.prog W 0 (fun _ => true) true n' 3 [v0] = some y0 := by simpa [Try.cellsInt] using hg 0 _ rfl
        have g1 : DataW.trod enc Try.prog W 0 (fun _ => true) true n' 2 [v1] = some y1 := by simpa [Try.cellsInt64] using hg 1 _ rfl
        have g2 : DataW.trod enc Try.prog W 0 (fun _ => true) true n' 2 [v2] = some y2 := by simpa [Try.cellsInt64] using hg 2 _ rfl
        have g3 : DataW.trod enc Try.prog W 0 (fun _ => true) true n' 2 [v3] = some y3 := by simpa [Try.cellsInt64] using hg 3 _ rfl
        have g4 : DataW.trod enc Try.prog W 0 (fun _ => true) true n' 2 [v4] = some y4 := by simpa [Try.cellsInt64] using hg 4 _ rfl
        obtain ⟨n0, e0, _, _⟩ := DataW.trod_int Try.underlying3 g0
        obtain ⟨n1, e1, _, _⟩ := DataW.trod_int Try.underlying2 g1
        obtain ⟨n2, e2, _, _⟩ := DataW.trod_int Try.underlying2 g2
        obtain ⟨n3, e3, _, _⟩ := DataW.trod_int Try.underlying2 g3
        obtain ⟨n4, e4, _, _⟩ := DataW.trod_int Try.underlying2 g4
        simp only [List.cons.injEq, and_true] at e0 e1 e2 e3 e4
        subst e0 e1 e2 e3 e4
        rw [hao (by omega), add_off] at hat
        have q0 := hat 0 (by omega)
        have q1 := hat 1 (by omega)
        have q2 := hat 2 (by omega)
        have q3 := hat 3 (by omega)
        have q4 := hat 4 (by omega)
        rw [add_off] at q0 q1 q2 q3 q4
        exact ⟨⟨n0, n1, n2, n3, n4⟩, b, o, by rw [hao (by omega)], World.block_lt_of_cell? W ⟨b, o + k * 5, none⟩ q0, q0, q1, q2, q3, q4⟩)
    refine ⟨(List.range len).map F, by simp, by omega, fun k hk => ?_⟩
    have hk' : k < len := by simpa using hk
    have := hF k hk'
    simpa using this
end

set_option maxRecDepth 100000 in
theorem sendSynced_lifted (os : Os) (started : os.Started) (H : Type) (enc : TypeId × Value → H) :
    ReturnsInHanded {} Try.checked os 4 .any (Rows.sendSyncedSpec.pre6 enc Try.prog Try.f4 Rows.sendSyncedRow.domain false) (Rows.sendSyncedSpec.post enc Try.prog Try.f4 false true false false) := by
  refine returnsInHanded_of_change (C := Try.checked) Try.own started (by kernel_rfl) Try.func4
    (ChangeSpec.witness6 (enc := enc) (C := Try.checked) false ⟨#[], #[.slice none 0 0], []⟩ 8 (by kernel_rfl) (by kernel_rfl) (by kernel_rfl) (by kernel_rfl)) ?_
  intro W base args ds gs before hval0 hW hcnd _
  have hval : ∀ (j : Nat) t v, Try.f4.params[j]? = some t → args[j]? = some v → Value.okWide Try.prog W .any base t v := hval0
  have hW' := hW
  obtain ⟨p, q, hA0, hV, rfl, hfz, hnd⟩ := hW
  have hA : DataW.TrodAll enc Try.prog W 0 (fun _ => true) true Try.f4.params.toList args.toList ds p := hA0
  rw [Try.params4] at hA hval
  obtain ⟨v0, d0, rfl, rfl, h0⟩ := trodAll_one hA
  obtain ⟨rfl, rfl⟩ := trodVars_none hV
  obtain ⟨a0, len, cap, rfl⟩ := okWide_slice Try.underlying22 (hval 0 22 v0 rfl rfl)
  obtain ⟨l, rfl, hl, hacts⟩ := open_acts h0
  refine (synced_any a0 cap l W hacts hl).mono fun e W' ⟨he, hb⟩ => ?_
  subst he
  exact ⟨_, rfl, law_post hW' hb rfl rfl (by kernel_rfl) Try.underlying4 rfl rfl Try.laidOut (by rw [Try.params4]; intro t ht; simp at ht; subst ht; exact ⟨by kernel_rfl, of_decide_eq_true (by kernel_rfl)⟩)⟩

theorem sendSynced_holds : Rows.SendSyncedSaid :=
  OpenClaim.holds_of_wide 4 Try.f4 rfl rfl rfl rfl rfl rfl rfl ⟨rfl, rfl, rfl, rfl, rfl⟩ rfl rfl rfl rfl rfl (by kernel_rfl) Try.func4 (by kernel_rfl)
    (of_decide_eq_true (by kernel_rfl)) (by unfold Func.isWrapper; first | (rw [if_pos (by decide +kernel)]; kernel_rfl) | (rw [if_neg (by decide +kernel)]; exact ⟨rfl, rfl⟩))
    (fun os started H enc _ => sendSynced_lifted os started H enc)
#print axioms sendSynced_holds
end Go.Proofs.Ytiddaacipjjggaa
