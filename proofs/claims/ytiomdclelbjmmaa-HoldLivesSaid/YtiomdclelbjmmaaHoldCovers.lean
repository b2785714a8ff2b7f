/-
  Covers, of two clocks.
-/
import Derived.Test.YtiomdclelbjmmaaHoldMerge
import Derived.ChangeKeysEq
set_option linter.unusedVariables false
set_option linter.unusedSimpArgs false
namespace Go.Proofs.Ytiomdclelbjmmaa
open Go.RowKit

theorem Try.clockInfo : ∃ i, Try.prog.info? 2 = some i := ⟨_, rfl⟩
theorem eq_clock (d : Nat) (x0 x1 x2 y0 y1 y2 : Int) (w : World) : (Op.equalIn (d + 2) 23 (.agg #[.int .i64 x0, .int .i64 x1, .int .i64 x2]) (.agg #[.int .i64 y0, .int .i64 y1, .int .i64 y2])).run Try.prog w = .ok (x0 == y0 && (x1 == y1 && x2 == y2)) w := by
  obtain ⟨i, hi⟩ := Try.clockInfo
  have hp0 : ∀ (a b c : Int) (w : World), (part 2 #[.int .i64 a, .int .i64 b, .int .i64 c] 0).run Try.prog w = .ok (.int .i64 a) w := fun _ _ _ _ => by kernel_rfl
  have hp1 : ∀ (a b c : Int) (w : World), (part 2 #[.int .i64 a, .int .i64 b, .int .i64 c] 1).run Try.prog w = .ok (.int .i64 b) w := fun _ _ _ _ => by kernel_rfl
  have hp2 : ∀ (a b c : Int) (w : World), (part 2 #[.int .i64 a, .int .i64 b, .int .i64 c] 2).run Try.prog w = .ok (.int .i64 c) w := fun _ _ _ _ => by kernel_rfl
  have he : ∀ (x y : Int) (w : World), (Op.equalIn (d + 1) 2 (.int .i64 x) (.int .i64 y)).run Try.prog w = .ok (x == y) w := fun x y w => run_equalIn_int w d 2 .i64 .i64 x y Try.underlying2
  rw [run_equalIn_array w (d + 1) _ _ Try.underlying23 hi]
  have hr : List.range 3 = [0, 1, 2] := rfl
  have hc : Try.prog.cellsOf 2 = 1 := by kernel_rfl
  rw [hr, hc]
  simp only [Op.eqItems, Nat.reduceMul, Sem.run_bind, hp0, hp1, hp2, he, Result.andThen_ok]
  cases h0 : x0 == y0 <;> cases h1 : x1 == y1 <;> cases h2 : x2 == y2 <;> simp only [hp1, hp2, he, h0, h1, h2, Sem.run_ite, Sem.run_bind, Sem.run_pure, Result.andThen_ok, Bool.not_true, Bool.not_false, Bool.false_eq_true, if_true, if_false, Bool.and_true, Bool.and_false]
theorem run_eql_clock (x0 x1 x2 y0 y1 y2 : Int) (w : World) : (binOp .eql 23 (.agg #[.int .i64 x0, .int .i64 x1, .int .i64 x2]) (.agg #[.int .i64 y0, .int .i64 y1, .int .i64 y2])).run Try.prog w = .ok (.bool (x0 == y0 && (x1 == y1 && x2 == y2))) w := by
  simp only [binOp]
  simp [show Op.equal 23 = Op.equalIn (9998 + 2) 23 from rfl, eq_clock]
theorem run_neq_clock (x0 x1 x2 y0 y1 y2 : Int) (w : World) : (binOp .neq 23 (.agg #[.int .i64 x0, .int .i64 x1, .int .i64 x2]) (.agg #[.int .i64 y0, .int .i64 y1, .int .i64 y2])).run Try.prog w = .ok (.bool (!(x0 == y0 && (x1 == y1 && x2 == y2)))) w := by
  simp only [binOp]
  simp [show Op.equal 23 = Op.equalIn (9998 + 2) 23 from rfl, eq_clock]

def ckv (a0 a1 a2 : Int) : Array Value := #[.int .i64 a0, .int .i64 a1, .int .i64 a2]
/-- A world in which two clocks lie boxed. -/
structure Box2 (w : World) (a0 a1 a2 b0 b1 b2 : Int) (W : World) : Prop where
  a : Bk W w.heap.size 23 (ckv a0 a1 a2)
  b : Bk W (w.heap.size + 1) 23 (ckv b0 b1 b2)
  l : Below w.heap.size w W

theorem Box2.new (w : World) (a0 a1 a2 b0 b1 b2 : Int) : Box2 w a0 a1 a2 b0 b1 b2 ((w.alloc (.cells (ckv a0 a1 a2) 23)).alloc (.cells (ckv b0 b1 b2) 23)) := by
  refine ⟨(Bk.new w _ _).alloc _, ?_, ((Below.refl _ w).alloc (Nat.le_refl _) _).alloc (by simp) _⟩
  have := Bk.new (w.alloc (.cells (ckv a0 a1 a2) 23)) 23 (ckv b0 b1 b2)
  rwa [World.size_alloc] at this

theorem Box2.more {w : World} {a0 a1 a2 b0 b1 b2 : Int} {W W' : World} (h : Box2 w a0 a1 a2 b0 b1 b2 W) (hb : Below W.heap.size W W') : Box2 w a0 a1 a2 b0 b1 b2 W' :=
  ⟨h.a.below hb h.a.lt, h.b.below hb h.b.lt, h.l.trans (hb.mono (Nat.le_of_lt h.a.lt))⟩

theorem Box2.drew {w : World} {a0 a1 a2 b0 b1 b2 : Int} {W : World} (h : Box2 w a0 a1 a2 b0 b1 b2 W) : Box2 w a0 a1 a2 b0 b1 b2 W.drew :=
  h.more ⟨rfl, rfl, rfl, Nat.le_refl _, fun _ _ => rfl⟩

set_option maxRecDepth 100000 in
set_option maxHeartbeats 2000000 in
theorem covers_raw (a0 a1 a2 b0 b1 b2 : Int) (w : World) :
    Calls Try.prog 26 #[.agg #[.int .i64 a0, .int .i64 a1, .int .i64 a2], .agg #[.int .i64 b0, .int .i64 b1, .int .i64 b2]] w fun e w' => e = .returned (.bool (mx a0 b0 == a0 && (mx a1 b1 == a1 && mx a2 b2 == a2))) ∧ Below w.heap.size w w' := by
  have HB := Lib.hid (Box2.new w a0 a1 a2 b0 b1 b2)
  have heq := run_eql_clock
  go_enter Try.func26, Try.ntmps26
  go_wp2_with (fail)
  generalize hW : (w.alloc (.cells #[.int .i64 a0, .int .i64 a1, .int .i64 a2] 23)).alloc (.cells #[.int .i64 b0, .int .i64 b1, .int .i64 b2] 23) = W at *
  have HB : Hid (Box2 w a0 a1 a2 b0 b1 b2 W) := by rw [← hW]; exact HB.out
  clear hW
  have p0 : W.cell? ⟨w.heap.size, 0, none⟩ = some (.int .i64 a0) := HB.out.a.cell 0
  have p1 : W.cell? ⟨w.heap.size, 1, none⟩ = some (.int .i64 a1) := HB.out.a.cell 1
  have p2 : W.cell? ⟨w.heap.size, 2, none⟩ = some (.int .i64 a2) := HB.out.a.cell 2
  have q0 : W.cell? ⟨w.heap.size + 1, 0, none⟩ = some (.int .i64 b0) := HB.out.b.cell 0
  have q1 : W.cell? ⟨w.heap.size + 1, 1, none⟩ = some (.int .i64 b1) := HB.out.b.cell 1
  have q2 : W.cell? ⟨w.heap.size + 1, 2, none⟩ = some (.int .i64 b2) := HB.out.b.cell 2
  go_region_held3 (fun W => W.cell? ⟨w.heap.size, 0, none⟩ = some (.int .i64 a0) ∧ W.cell? ⟨w.heap.size, 1, none⟩ = some (.int .i64 a1) ∧ W.cell? ⟨w.heap.size, 2, none⟩ = some (.int .i64 a2) ∧ W.cell? ⟨w.heap.size + 1, 0, none⟩ = some (.int .i64 b0) ∧ W.cell? ⟨w.heap.size + 1, 1, none⟩ = some (.int .i64 b1) ∧ W.cell? ⟨w.heap.size + 1, 2, none⟩ = some (.int .i64 b2)) (first | exact ⟨p0, p1, p2, q0, q1, q2⟩ | exact ⟨r0, r1, r2, s0, s1, s2⟩ | (have h := (HB.out.more ((Below.refl W.heap.size W).alloc (Nat.le_refl _) (.cells #[.int .i64 a0, .int .i64 a1, .int .i64 a2, .int .i64 b0, .int .i64 b1, .int .i64 b2] 23))); exact ⟨h.a.cell 0, h.a.cell 1, h.a.cell 2, h.b.cell 0, h.b.cell 1, h.b.cell 2⟩))
    (first
      | (go_at_call 35; refine (merge2 W.heap.size 2 a0 a1 a2 b0 b1 b2 _ (by first | exact Bk.new W _ _ | exact (Bk.new W.drew _ _))).mono ?_; rintro e w' ⟨rfl, hb⟩; have HC := Lib.hid ((HB.out.more ((Below.refl W.heap.size W).alloc (Nat.le_refl _) (.cells #[.int .i64 a0, .int .i64 a1, .int .i64 a2, .int .i64 b0, .int .i64 b1, .int .i64 b2] 23))).drew.more hb); have r0 : w'.cell? ⟨w.heap.size, 0, none⟩ = some (.int .i64 a0) := HC.out.a.cell 0; have r1 : w'.cell? ⟨w.heap.size, 1, none⟩ = some (.int .i64 a1) := HC.out.a.cell 1; have r2 : w'.cell? ⟨w.heap.size, 2, none⟩ = some (.int .i64 a2) := HC.out.a.cell 2; have s0 : w'.cell? ⟨w.heap.size + 1, 0, none⟩ = some (.int .i64 b0) := HC.out.b.cell 0; have s1 : w'.cell? ⟨w.heap.size + 1, 1, none⟩ = some (.int .i64 b1) := HC.out.b.cell 1; have s2 : w'.cell? ⟨w.heap.size + 1, 2, none⟩ = some (.int .i64 b2) := HC.out.b.cell 2))
  all_goals go_wp2_with (fail)
  all_goals go_ret
  all_goals exact ⟨rfl, HC.out.l⟩

theorem covers_yes (a0 a1 a2 b0 b1 b2 : Int) (h0 : b0 ≤ a0) (h1 : b1 ≤ a1) (h2 : b2 ≤ a2) (w : World) :
    Calls Try.prog 26 #[.agg #[.int .i64 a0, .int .i64 a1, .int .i64 a2], .agg #[.int .i64 b0, .int .i64 b1, .int .i64 b2]] w fun e w' => e = .returned (.bool true) ∧ Below w.heap.size w w' := by
  refine (covers_raw a0 a1 a2 b0 b1 b2 w).mono ?_
  rintro e w' ⟨rfl, hb⟩
  rw [mx_le h0, mx_le h1, mx_le h2]
  exact ⟨by simp, hb⟩

theorem covers_no (a0 a1 a2 b0 b1 b2 : Int) (h : ¬ (b0 ≤ a0 ∧ b1 ≤ a1 ∧ b2 ≤ a2)) (w : World) :
    Calls Try.prog 26 #[.agg #[.int .i64 a0, .int .i64 a1, .int .i64 a2], .agg #[.int .i64 b0, .int .i64 b1, .int .i64 b2]] w fun e w' => e = .returned (.bool false) ∧ Below w.heap.size w w' := by
  refine (covers_raw a0 a1 a2 b0 b1 b2 w).mono ?_
  rintro e w' ⟨rfl, hb⟩
  refine ⟨?_, hb⟩
  congr 2
  have hx : ∀ {a b : Int}, ¬ b ≤ a → (mx a b == a) = false := by
    intro a b h
    rw [mx_lt (by omega)]
    simp
    omega
  by_cases c0 : b0 ≤ a0
  · by_cases c1 : b1 ≤ a1
    · rw [hx (show ¬ b2 ≤ a2 from fun c2 => h ⟨c0, c1, c2⟩)]
      simp
    · rw [hx c1]
      simp
  · rw [hx c0]
    simp
end Go.Proofs.Ytiomdclelbjmmaa
