/-
  step, as a whole; Sync, Append, Cut, Read, Files.
-/
import Derived.Test.YthblfkopofmdfaaDiskStep
set_option linter.unusedVariables false
set_option linter.unusedSimpArgs false
namespace Go.Proofs.Ythblfkopofmdfaa
open Go.RowKit

def Dk.step (d : Dk) : Dk × Int :=
  if d.down = true then (d, 8) else match d.fu with
    | none => (d, 0)
    | some 0 => ({ d with down := true }, 8)
    | some (n + 1) => ({ d with fu := some n }, 0)

theorem Dk.step_code (d : Dk) : d.step.2 = 0 ∨ d.step.2 = 8 := by
  unfold Dk.step
  split
  · exact .inr rfl
  · split
    · exact .inl rfl
    · exact .inr rfl
    · exact .inl rfl

theorem Dk.step_b (d : Dk) : d.step.1.b = d.b ∧ d.step.1.s = d.s ∧ d.step.1.room = d.room := by
  unfold Dk.step
  split
  · exact ⟨rfl, rfl, rfl⟩
  · split <;> exact ⟨rfl, rfl, rfl⟩

theorem Dk.step_ok {d : Dk} (h : d.ok) : d.step.1.ok := by
  obtain ⟨h1, h2, h3⟩ := d.step_b
  refine ⟨by rw [h1, h2]; exact h.sure, by rw [h1, h3]; exact h.sum, by rw [h3]; exact h.room, ?_⟩
  unfold Dk.step
  split
  · exact h.fuse
  · split
    · exact h.fuse
    · exact h.fuse
    · rename_i n hn
      intro m hm
      have := h.fuse (n + 1) hn
      have hm' : some n = some m := hm
      injection hm' with hm'
      omega

theorem StPost.of {B b : Nat} {d : Dk} {v : Value} {w w' : World} {cs : Array Value} (hB : B ≤ b) (hk : Kp (· = b) w w') (hb : Bk w' b 61 cs) (hc : Cs w' B b d cs) : StPost B b d v w (.returned v) w' := ⟨rfl, hk, hB, cs, hb, hc⟩

theorem step_any (B b : Nat) (d : Dk) (hd : d.ok) (w : World) (h : DkAt w B b d) : Calls Try.prog 36 #[.pointer (some ⟨b, 0, none⟩)] w (StPost B b d.step.1 (.int .i64 d.step.2) w) := by
  obtain ⟨cs, hk, hc⟩ := h.row
  have hge := h.ge
  obtain ⟨z, q, hz⟩ := hc.fuse
  have q0 : w.cell? ⟨b, 129, none⟩ = some (.int .i64 z) := (hk.cell _).trans q
  have q1 : w.cell? ⟨b, 130, none⟩ = some (.bool d.down) := (hk.cell _).trans hc.down
  have q2 : w.cell? ⟨b, 131, none⟩ = some (.bool d.fu.isSome) := (hk.cell _).trans hc.fused
  have hsz := hc.size
  unfold Dk.step
  by_cases hdn : d.down = true
  · rw [if_pos hdn]
    rw [hdn] at q1
    refine (step_down b w hk.lt q1).mono ?_
    rintro e w' ⟨rfl, k⟩
    exact .of hge (k.mono fun i _ h => h.elim) (hk.kp k id) (hc.keep (k.mono fun i _ h => h.elim))
  · rw [if_neg hdn]
    have hdn' : d.down = false := by simpa using hdn
    rw [hdn'] at q1
    rcases hf : d.fu with _ | _ | n
    · rw [hf] at q2
      refine (step_free b w hk.lt q1 q2).mono ?_
      rintro e w' ⟨rfl, k⟩
      exact .of hge (k.mono fun i _ h => h.elim) (hk.kp k id) (hc.keep (k.mono fun i _ h => h.elim))
    · obtain rfl := hz 0 hf
      rw [hf] at q2
      refine (step_cut b cs w hk hsz q0 q1 q2).mono ?_
      rintro e w' ⟨rfl, k, hb⟩
      refine .of hge k hb ?_
      have hh := Cs.scal (hc.keep k) (cs' := cs.setIfInBounds 130 (.bool true)) (by simp [hsz]) (fun j hj => by rw [set_at _ _ _ _ (by omega), if_neg (by omega)]) (fu := some 0) (down := true) ⟨((0 : Nat) : Int), by rw [set_at _ _ _ _ (by omega), if_neg (by omega)]; exact q, fun m hm => by injection hm with hm; omega⟩ (by rw [set_at _ _ _ _ (by omega), if_pos rfl]) (by rw [set_at _ _ _ _ (by omega), if_neg (by omega)]; have := hc.fused; rwa [hf] at this)
      exact hh
    · obtain rfl := hz (n + 1) hf
      rw [hf] at q2
      have hn := hd.fuse (n + 1) hf
      refine (step_less b _ cs w hk hsz (by omega) (by omega) q0 q1 q2).mono ?_
      rintro e w' ⟨rfl, k, hb⟩
      refine .of hge k hb ?_
      have hh := Cs.scal (hc.keep k) (cs' := cs.setIfInBounds 129 (.int .i64 (((n + 1 : Nat) : Int) - 1))) (by simp [hsz]) (fun j hj => by rw [set_at _ _ _ _ (by omega), if_neg (by omega)]) (fu := some n) (down := d.down) ⟨_, by rw [set_at _ _ _ _ (by omega), if_pos rfl], fun m hm => by injection hm with hm; omega⟩ (by rw [set_at _ _ _ _ (by omega), if_neg (by omega)]; exact hc.down) (by rw [set_at _ _ _ _ (by omega), if_neg (by omega)]; have := hc.fused; rwa [hf] at this)
      exact hh

def Dk.sync (d : Dk) (n : Int) : Dk × Int :=
  if n < 0 ∨ 64 ≤ n then (d, 1) else if d.step.2 = 0 then ({ d.step.1 with s := upd d.s n.toNat (d.b n.toNat).length }, 0) else (d.step.1, 8)

theorem sync_any (B b : Nat) (n : Int) (d : Dk) (hd : d.ok) (w : World) (h : DkAt w B b d) : Calls Try.prog 29 #[.pointer (some ⟨b, 0, none⟩), .int .i64 n] w (StPost B b (d.sync n).1 (.int .i64 (d.sync n).2) w) := by
  have HD := Lib.hid h
  have HO := Lib.hid hd
  have hge := h.ge
  clear h hd
  unfold Dk.sync
  by_cases hn : n < 0 ∨ 64 ≤ n
  · rw [if_pos hn]
    have HN := Lib.hid hn
    clear hn
    go_enter Try.func29, Try.ntmps29
    go_wp2_with (fail)
    refine (of_out b n HN.out _).mono ?_
    rintro e w' ⟨rfl, rfl⟩
    go_wp2_with (fail)
    go_ret
    exact ⟨rfl, Kp.refl _ _, HD.out⟩
  · rw [if_neg hn]
    obtain ⟨i, rfl⟩ : ∃ i : Nat, n = (i : Int) := ⟨n.toNat, by omega⟩
    have hi : i < 64 := by omega
    rw [Int.toNat_natCast]
    clear hn
    have hs := step_any B b d HO.out w HD.out
    have hb := d.step_b
    have hc := d.step_code
    generalize d.step.1 = d' at *
    generalize d.step.2 = e' at *
    obtain ⟨hb1, hb2, hb3⟩ := hb
    have HS := Lib.hid hs
    rw [← hb1, ← hb2]
    clear hs hb1 hb2 hb3
    rcases hc with rfl | rfl
    · rw [if_pos rfl]
      go_enter Try.func29, Try.ntmps29
      go_wp2_with (fail)
      refine (of_in b i hi _).mono ?_
      rintro e w' ⟨rfl, rfl⟩
      go_wp2_with (fail)
      refine HS.out.mono ?_
      rintro e w1 ⟨rfl, k1, h1⟩
      obtain ⟨cs, hk, hc⟩ := h1.row
      obtain ⟨v, hv1, hv2⟩ := hc.files i hi
      obtain ⟨A, c, rfl, _⟩ := hv2.row
      have q0 : w1.cell? ⟨b, i * 2, none⟩ = some (.slice A (d'.b i).length c) := (hk.cell _).trans hv1
      have q1 : w1.cell? ⟨b, i * 2 + 1, none⟩ = some (.int .i64 (d'.s i)) := (hk.cell _).trans (hc.sure i hi)
      have f1 := hk.free (i * 2 + 1)
      have HK := Lib.hid hk
      have HC := Lib.hid hc
      have K1 := Lib.hid k1
      clear hk hc k1 hv1 hv2 h1 HS
      go_wp2_with (fail)
      go_ret
      exact .of hge (K1.out.set1 _ _) (HK.out.put _ _) ((HC.out.keep ((Kp.refl (· = b) w1).set1 _ _)).putS hi _)
    · rw [if_neg (by decide)]
      go_enter Try.func29, Try.ntmps29
      go_wp2_with (fail)
      refine (of_in b i hi _).mono ?_
      rintro e w' ⟨rfl, rfl⟩
      go_wp2_with (fail)
      refine HS.out.mono ?_
      rintro e w1 ⟨rfl, k1, h1⟩
      have K1 := Lib.hid k1
      have H1 := Lib.hid h1
      clear k1 h1 HS
      go_wp2_with (fail)
      go_ret
      exact ⟨rfl, K1.out, H1.out⟩
end Go.Proofs.Ythblfkopofmdfaa
