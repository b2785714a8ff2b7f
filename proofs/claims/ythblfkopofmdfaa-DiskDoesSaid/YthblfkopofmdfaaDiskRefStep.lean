/-
  The document's disk: step, Sync, Read, Files.
-/
import Derived.Test.YthblfkopofmdfaaDiskRef
set_option linter.unusedVariables false
set_option linter.unusedSimpArgs false
namespace Go.Proofs.Ythblfkopofmdfaa
open Go.RowKit

theorem RtPost.of {B b : Nat} {d : Dk} {v : Value} {w w' : World} {cs : Array Value} (hB : B ≤ b) (hk : Kp (· = b) w w') (hb : Bk w' b 50 cs) (hc : Rs w' B b d cs) : RtPost B b d v w (.returned v) w' := ⟨rfl, hk, hB, cs, hb, hc⟩

set_option maxHeartbeats 4000000 in
theorem rstep_any (B b : Nat) (d : Dk) (hd : d.ok) (w : World) (h : RkAt w B b d) : Calls Try.prog 33 #[.pointer (some ⟨b, 0, none⟩)] w (RtPost B b d.step.1 (.bool (d.step.2 == 0)) w) := by
  obtain ⟨cs, hk, hc⟩ := h.row
  have hge := h.ge
  have q0 : w.cell? ⟨b, 129, none⟩ = some (.int .i64 (fuI d.fu)) := (hk.cell _).trans hc.fuse
  have q1 : w.cell? ⟨b, 130, none⟩ = some (.bool d.down) := (hk.cell _).trans hc.down
  have hsz := hc.size
  have f0 := hk.free 129
  have f1 := hk.free 130
  have HK := Lib.hid hk
  have HC := Lib.hid hc
  have HO := Lib.hid hd
  clear hk hc h hd
  unfold Dk.step
  by_cases hdn : d.down = true
  · rw [if_pos hdn]
    rw [hdn] at q1
    go_enter Try.func33, Try.ntmps33
    go_wp2_with (fail)
    go_ret
    refine .of hge ((Kp.refl _ w).set1 130 _) (HK.out.put 130 (.bool true)) ?_
    have hh := (HC.out.keep ((Kp.refl (· = b) w).set1 130 (.bool true))).scal (cs' := cs.setIfInBounds 130 (.bool true)) (by simp [hsz]) (fun k hk => by rw [set_at _ _ _ _ (by omega), if_neg (by omega)]) (fu := d.fu) (down := true) (by rw [set_at _ _ _ _ (by omega), if_neg (by omega)]; exact HC.out.fuse) (by rw [set_at _ _ _ _ (by omega), if_pos rfl])
    have e : ({ d with fu := d.fu, down := true } : Dk) = d := by cases d; simp at hdn; subst hdn; rfl
    rw [e] at hh
    exact hh
  · rw [if_neg hdn]
    have hdn' : d.down = false := by simpa using hdn
    rw [hdn'] at q1
    clear hdn
    rcases hf : d.fu with _ | _ | n
    · rw [hf] at q0
      replace q0 : w.cell? ⟨b, 129, none⟩ = some (.int .i64 (-1)) := q0
      go_enter Try.func33, Try.ntmps33
      go_wp2_with (fail)
      go_ret
      exact .of hge (Kp.refl _ w) HK.out HC.out
    · rw [hf] at q0
      replace q0 : w.cell? ⟨b, 129, none⟩ = some (.int .i64 0) := q0
      have HF := Lib.hid hf
      clear hf
      go_enter Try.func33, Try.ntmps33
      go_wp2_with (fail)
      go_ret
      refine .of hge ((Kp.refl _ w).set1 130 _) (HK.out.put 130 (.bool true)) ?_
      have hh := (HC.out.keep ((Kp.refl (· = b) w).set1 130 (.bool true))).scal (cs' := cs.setIfInBounds 130 (.bool true)) (by simp [hsz]) (fun k hk => by rw [set_at _ _ _ _ (by omega), if_neg (by omega)]) (fu := some 0) (down := true) (by rw [set_at _ _ _ _ (by omega), if_neg (by omega), ← HF.out]; exact HC.out.fuse) (by rw [set_at _ _ _ _ (by omega), if_pos rfl])
      exact hh
    · rw [hf] at q0
      replace q0 : w.cell? ⟨b, 129, none⟩ = some (.int .i64 ((n + 1 : Nat) : Int)) := q0
      have hn := HO.out.fuse (n + 1) hf
      have z0 : (((n + 1 : Nat) : Int) == 0) = false := by simp; omega
      have hpos : (0 : Int) < ((n + 1 : Nat) : Int) := by omega
      have HZ : Hid (∃ z : Int, z = ((n + 1 : Nat) : Int) - 1 ∧ z = (n : Int)) := ⟨n, by omega, rfl⟩
      generalize hz : ((n + 1 : Nat) : Int) = z at *
      have HNz : Hid (z - 1 = (n : Int)) := by unfold Hid; omega
      have hz2 : z ≤ 9223372036854775807 := by omega
      clear hz HZ hf hn
      go_enter Try.func33, Try.ntmps33
      go_wp2_with (fail)
      go_ret
      refine .of hge ((Kp.refl _ w).set1 129 _) (HK.out.put 129 (.int .i64 (z - 1))) ?_
      have hh := (HC.out.keep ((Kp.refl (· = b) w).set1 129 (.int .i64 (z - 1)))).scal (cs' := cs.setIfInBounds 129 (.int .i64 (z - 1))) (by simp [hsz]) (fun k hk => by rw [set_at _ _ _ _ (by omega), if_neg (by omega)]) (fu := some n) (down := d.down) (by rw [set_at _ _ _ _ (by omega), if_pos rfl, HNz.out]; rfl) (by rw [set_at _ _ _ _ (by omega), if_neg (by omega)]; exact HC.out.down)
      exact hh
end Go.Proofs.Ythblfkopofmdfaa
