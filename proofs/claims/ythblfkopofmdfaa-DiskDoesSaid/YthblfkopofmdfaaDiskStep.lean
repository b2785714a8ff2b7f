/-
  step: a step of a disk, with its deferred closure.
-/
import Derived.Test.YthblfkopofmdfaaDiskWalks
import Derived.Recover
set_option linter.unusedVariables false
set_option linter.unusedSimpArgs false
namespace Go.Proofs.Ythblfkopofmdfaa
open Go.RowKit

/-- The deferred closure: without power the answer is 8. -/
theorem step1_down (b c1 c2 : Nat) (x : Value) (w : World) (q0 : w.cell? ⟨c1, 0, none⟩ = some (.pointer (some ⟨b, 0, none⟩))) (q1 : w.cell? ⟨b, 130, none⟩ = some (.bool true)) (q2 : w.cell? ⟨c2, 0, none⟩ = some x) (hx : x.oneCell' = true) (f : w.frozen? ⟨c2, 0, none⟩ = false) (u : FrameMode) :
    CallsD Try.prog 37 #[.pointer (some ⟨c1, 0, none⟩), .pointer (some ⟨c2, 0, none⟩)] u w fun e u' w' => u' = u ∧ (e = .returned (.tuple #[]) ∧ w' = w.setCell ⟨c2, 0, none⟩ (.int .i64 8)) := by
  go_enter_d Try.func37, Try.ntmps37
  go_wp2
  go_end0
  exact ⟨rfl, rfl⟩

theorem step1_up (b c1 c2 : Nat) (w : World) (q0 : w.cell? ⟨c1, 0, none⟩ = some (.pointer (some ⟨b, 0, none⟩))) (q1 : w.cell? ⟨b, 130, none⟩ = some (.bool false)) (u : FrameMode) :
    CallsD Try.prog 37 #[.pointer (some ⟨c1, 0, none⟩), .pointer (some ⟨c2, 0, none⟩)] u w fun e u' w' => u' = u ∧ (e = .returned (.tuple #[]) ∧ w' = w) := by
  go_enter_d Try.func37, Try.ntmps37
  go_wp2
  go_end0
  exact ⟨rfl, rfl⟩

/-- The world of a step behind its two boxes. -/
def w2 (w : World) (b : Nat) (x : Int) : World := (w.alloc (.cells #[.pointer (some ⟨b, 0, none⟩)] 25)).alloc (.cells #[.int .i64 x] 26)

theorem w2_box {w : World} {b : Nat} {x : Int} : (w2 w b x).cell? ⟨w.heap.size, 0, none⟩ = some (.pointer (some ⟨b, 0, none⟩)) := ((Bk.new w _ _).alloc _).cell 0
theorem w2_res {w : World} {b : Nat} {x : Int} : Bk (w2 w b x) (w.heap.size + 1) 26 #[.int .i64 x] := by
  have h := Bk.new (w.alloc (.cells #[.pointer (some ⟨b, 0, none⟩)] 25)) 26 #[.int .i64 x]
  rwa [World.size_alloc] at h
theorem w2_kp {S : Nat → Prop} {w : World} {b : Nat} {x : Int} : Kp S w (w2 w b x) := ((Kp.refl _ w).alloc _).alloc _
theorem w2_size {w : World} {b : Nat} {x : Int} : (w2 w b x).heap.size = w.heap.size + 2 := by simp [w2]

theorem step_down (b : Nat) (w : World) (hb : b < w.heap.size) (q1 : w.cell? ⟨b, 130, none⟩ = some (.bool true)) :
    Calls Try.prog 36 #[.pointer (some ⟨b, 0, none⟩)] w fun e w' => e = .returned (.int .i64 8) ∧ Kp (fun _ => False) w w' := by
  have hmf : ∀ (fn : Fn) (first cap : Array Value) (w : World), (Instr.makeFunc fn first cap).run Try.prog w = .ok (.func fn first cap) w := fun _ _ _ _ => rfl
  have hb1 : b < w.heap.size + 1 := by omega
  have hb2 : b < w.heap.size + 1 + 1 := by omega
  go_enter_defers Try.func36, Try.ntmps36
  go_wp2
  change bodyPostD _ _ _ _ _ (w2 w b 0)
  have q : (w2 w b 0).cell? ⟨b, 130, none⟩ = some (.bool true) := (w2_kp.cell (S := fun _ => False) hb id).trans q1
  refine leaves_cons (f := 37) (args := #[.pointer (some ⟨w.heap.size, 0, none⟩), .pointer (some ⟨w.heap.size + 1, 0, none⟩)]) (by simp) (by simp [go_sem]) ?_
  refine (step1_down b _ _ (.int .i64 0) _ w2_box q (w2_res.cell 0) rfl (w2_res.free 0) .returning).mono ?_
  rintro e u' w'' ⟨rfl, rfl, rfl⟩
  have z := (w2_res (w := w) (b := b) (x := 0)).put 0 (.int .i64 8)
  have z0 : ((w2 w b 0).setCell ⟨w.heap.size + 1, 0, none⟩ (.int .i64 8)).cell? ⟨w.heap.size + 1, 0, none⟩ = some (.int .i64 8) := z.cell 0
  have zk : Kp (fun _ => False) w ((w2 w b 0).setCell ⟨w.heap.size + 1, 0, none⟩ (.int .i64 8)) := w2_kp.setCell (.inr (by simp)) _
  simp [Leaves, settle, results, Try.results36, go_sem, z0, zk]

theorem step_free (b : Nat) (w : World) (hb : b < w.heap.size) (q1 : w.cell? ⟨b, 130, none⟩ = some (.bool false)) (q2 : w.cell? ⟨b, 131, none⟩ = some (.bool false)) :
    Calls Try.prog 36 #[.pointer (some ⟨b, 0, none⟩)] w fun e w' => e = .returned (.int .i64 0) ∧ Kp (fun _ => False) w w' := by
  have hmf : ∀ (fn : Fn) (first cap : Array Value) (w : World), (Instr.makeFunc fn first cap).run Try.prog w = .ok (.func fn first cap) w := fun _ _ _ _ => rfl
  have hb1 : b < w.heap.size + 1 := by omega
  have hb2 : b < w.heap.size + 1 + 1 := by omega
  go_enter_defers Try.func36, Try.ntmps36
  go_wp2
  change bodyPostD _ _ _ _ _ (w2 w b 0)
  have q : (w2 w b 0).cell? ⟨b, 130, none⟩ = some (.bool false) := (w2_kp.cell (S := fun _ => False) hb id).trans q1
  refine leaves_cons (f := 37) (args := #[.pointer (some ⟨w.heap.size, 0, none⟩), .pointer (some ⟨w.heap.size + 1, 0, none⟩)]) (by simp) (by simp [go_sem]) ?_
  refine (step1_up b _ _ _ w2_box q .returning).mono ?_
  rintro e u' w'' ⟨rfl, rfl, rfl⟩
  have z0 := (w2_res (w := w) (b := b) (x := 0)).cell 0
  have zk : Kp (fun _ => False) w (w2 w b 0) := w2_kp
  simp [Leaves, settle, results, Try.results36, go_sem, z0, zk]

theorem step_cut (b : Nat) (cs : Array Value) (w : World) (hk : Bk w b 61 cs) (hz : cs.size = 132) (q0 : w.cell? ⟨b, 129, none⟩ = some (.int .i64 0)) (q1 : w.cell? ⟨b, 130, none⟩ = some (.bool false)) (q2 : w.cell? ⟨b, 131, none⟩ = some (.bool true)) :
    Calls Try.prog 36 #[.pointer (some ⟨b, 0, none⟩)] w fun e w' => e = .returned (.int .i64 8) ∧ Kp (· = b) w w' ∧ Bk w' b 61 (cs.setIfInBounds 130 (.bool true)) := by
  have hmf : ∀ (fn : Fn) (first cap : Array Value) (w : World), (Instr.makeFunc fn first cap).run Try.prog w = .ok (.func fn first cap) w := fun _ _ _ _ => rfl
  have hb := hk.lt
  have hb1 : b < w.heap.size + 1 := by omega
  have hb2 : b < w.heap.size + 1 + 1 := by omega
  have hb3 : ¬ w.heap.size + 1 = b := by omega
  have hb4 : ¬ w.heap.size = b := by omega
  have f0 := hk.free 129
  have f1 := hk.free 130
  have HK := Lib.hid hk
  clear hk
  go_enter_defers Try.func36, Try.ntmps36
  go_wp2
  change bodyPostD _ _ _ _ _ (w2 (w.setCell ⟨b, 130, none⟩ (.bool true)) b 0)
  have hs : (w.setCell ⟨b, 130, none⟩ (.bool true)).heap.size = w.heap.size := by simp
  have K0 : Kp (· = b) w (w.setCell ⟨b, 130, none⟩ (.bool true)) := (Kp.refl _ w).set1 130 _
  have H0 := HK.out.put 130 (.bool true)
  generalize w.setCell ⟨b, 130, none⟩ (.bool true) = W0 at *
  have hne : b ≠ w.heap.size + 1 := by omega
  have z1 := H0.kp (w2_kp (S := fun _ => False) (b := b) (x := 0)) id
  have z2 := w2_res (w := W0) (b := b) (x := 0)
  have z3 := w2_box (w := W0) (b := b) (x := 0)
  rw [hs] at z2 z3
  have z4 : Kp (· = b) w (w2 W0 b 0) := K0.tr w2_kp
  have z5 : (w2 W0 b 0).heap.size = w.heap.size + 2 := by rw [w2_size, hs]
  generalize w2 W0 b 0 = W at *
  have d := z1.cell 130
  have d1 := set_at cs 130 130 (.bool true) (by omega)
  rw [d1, if_pos rfl] at d
  refine leaves_cons (f := 37) (args := #[.pointer (some ⟨w.heap.size, 0, none⟩), .pointer (some ⟨w.heap.size + 1, 0, none⟩)]) (by simp) (by simp [go_sem]) ?_
  refine (step1_down b _ _ (.int .i64 0) _ z3 d (z2.cell 0) rfl (z2.free 0) .returning).mono ?_
  rintro e u' w'' ⟨rfl, rfl, rfl⟩
  have z6 : (W.setCell ⟨w.heap.size + 1, 0, none⟩ (.int .i64 8)).cell? ⟨w.heap.size + 1, 0, none⟩ = some (.int .i64 8) := (z2.put 0 (.int .i64 8)).cell 0
  have z7 := z4.setCell (p := ⟨w.heap.size + 1, 0, none⟩) (.inr (by simp)) (.int .i64 8)
  have z8 := z1.far (p := ⟨w.heap.size + 1, 0, none⟩) hne (.int .i64 8)
  simp [Leaves, settle, results, Try.results36, go_sem, z6, z7, z8]


theorem step_less (b : Nat) (z : Int) (cs : Array Value) (w : World) (hk : Bk w b 61 cs) (hz : cs.size = 132) (z0 : 1 ≤ z) (z9 : z ≤ 9223372036854775807) (q0 : w.cell? ⟨b, 129, none⟩ = some (.int .i64 z)) (q1 : w.cell? ⟨b, 130, none⟩ = some (.bool false)) (q2 : w.cell? ⟨b, 131, none⟩ = some (.bool true)) :
    Calls Try.prog 36 #[.pointer (some ⟨b, 0, none⟩)] w fun e w' => e = .returned (.int .i64 0) ∧ Kp (· = b) w w' ∧ Bk w' b 61 (cs.setIfInBounds 129 (.int .i64 (z - 1))) := by
  have hmf : ∀ (fn : Fn) (first cap : Array Value) (w : World), (Instr.makeFunc fn first cap).run Try.prog w = .ok (.func fn first cap) w := fun _ _ _ _ => rfl
  have hb := hk.lt
  have hb1 : b < w.heap.size + 1 := by omega
  have hb2 : b < w.heap.size + 1 + 1 := by omega
  have hb3 : ¬ w.heap.size + 1 = b := by omega
  have hb4 : ¬ w.heap.size = b := by omega
  have f0 := hk.free 129
  have f1 := hk.free 130
  have HK := Lib.hid hk
  have hz9 : (z == 0) = false := by simp; omega
  clear hk
  go_enter_defers Try.func36, Try.ntmps36
  go_wp2
  change bodyPostD _ _ _ _ _ (w2 (w.setCell ⟨b, 129, none⟩ (.int .i64 (z - 1))) b 0)
  have hs : (w.setCell ⟨b, 129, none⟩ (.int .i64 (z - 1))).heap.size = w.heap.size := by simp
  have K0 : Kp (· = b) w (w.setCell ⟨b, 129, none⟩ (.int .i64 (z - 1))) := (Kp.refl _ w).set1 129 _
  have H0 := HK.out.put 129 (.int .i64 (z - 1))
  generalize w.setCell ⟨b, 129, none⟩ (.int .i64 (z - 1)) = W0 at *
  have hne : b ≠ w.heap.size + 1 := by omega
  have z1 := H0.kp (w2_kp (S := fun _ => False) (b := b) (x := 0)) id
  have z2 := w2_res (w := W0) (b := b) (x := 0)
  have z3 := w2_box (w := W0) (b := b) (x := 0)
  rw [hs] at z2 z3
  have z4 : Kp (· = b) w (w2 W0 b 0) := K0.tr w2_kp
  have z5 : (w2 W0 b 0).heap.size = w.heap.size + 2 := by rw [w2_size, hs]
  generalize w2 W0 b 0 = W at *
  have d := z1.cell 130
  have d1 := set_at cs 129 130 (.int .i64 (z - 1)) (by omega)
  rw [d1, if_neg (by decide), ← HK.out.cell 130, q1] at d
  refine leaves_cons (f := 37) (args := #[.pointer (some ⟨w.heap.size, 0, none⟩), .pointer (some ⟨w.heap.size + 1, 0, none⟩)]) (by simp) (by simp [go_sem]) ?_
  refine (step1_up b _ _ _ z3 d .returning).mono ?_
  rintro e u' w'' ⟨rfl, rfl, rfl⟩
  have z6 := z2.cell 0
  simp [Leaves, settle, results, Try.results36, go_sem, z6, z4, z1]


end Go.Proofs.Ythblfkopofmdfaa
