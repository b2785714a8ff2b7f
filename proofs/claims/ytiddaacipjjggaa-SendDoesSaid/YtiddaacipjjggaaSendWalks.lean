/-
  The walks through package send: what each of its functions does to a sender in memory.
-/
import Derived.Test.YtiddaacipjjggaaRows
import Derived.Test.YtiddaacipjjggaaWorld
import Derived.Test.YtiddaacipjjggaaSendPure
import Derived.WalkSpells
import Derived.WalkLawsBesides
import Derived.StillTactics
import Derived.Laws.Pointers
import Derived.Laws.EntriesVeiled
import Derived.Deep.QuietTactic
import Derived.BigQuiet
import Derived.Deep.RegionHeld3
set_option linter.unusedVariables false
set_option linter.unusedSimpArgs false
namespace Go.Proofs.Ytiddaacipjjggaa
open Go.RowKit

/-- At block b lies a sender of package send. -/
def SndAt (w : World) (b : Nat) (x : Snd.St) : Prop := Bk w b 46 #[.int .i64 x.a, .int .i64 x.s, .int .i64 x.q]

set_option maxHeartbeats 400000 in
theorem part_any (b t : Int) (w : World) (h0 : 0 ≤ b) (h1 : b ≤ 4611686018427387911) (h2 : -4611686018427387911 ≤ t) (h3 : t ≤ 4611686018427387911) :
    Calls Try.prog 24 #[.int .i64 b, .int .i64 t] w fun e w' => e = .returned (.tuple #[.int .i64 (Snd.part b t).1, .int .i64 (Snd.part b t).2]) ∧ w = w' := by
  by_cases c1 : t ≤ b
  · rw [Snd.part_none c1]
    go_enter Try.func24, Try.ntmps24
    go_wp2
    go_ret2
    exact ⟨rfl, rfl⟩
  · by_cases c2 : 4 < t - b
    · rw [Snd.part_four (by omega) c2]
      go_enter Try.func24, Try.ntmps24
      go_wp2
      go_ret2
      exact ⟨rfl, rfl⟩
    · rw [Snd.part_all (by omega) (by omega)]
      go_enter Try.func24, Try.ntmps24
      go_wp2
      go_ret2
      exact ⟨rfl, rfl⟩

/-- A pointer to the sender at b, kept in a block of its own (what the closures hold). -/
def Held (w : World) (c b : Nat) : Prop := Bk w c 25 #[.pointer (some ⟨b, 0, none⟩)]

theorem end_any (b : Nat) (x : Snd.St) (y : Int) (w : World) (h : SndAt w b x) (x1 : 0 ≤ x.a) (x2 : x.a ≤ 4611686018427387903) :
    Calls Try.prog 19 #[.pointer (some ⟨b, 0, none⟩), .int .i64 y] w fun e w' => e = .returned (.int .i64 (Snd.wend x y)) ∧ w = w' := by
  have e0 : w.cell? ⟨b, 0, none⟩ = some (.int .i64 x.a) := h.cell 0
  unfold Snd.wend
  by_cases c1 : y < x.a + 8
  · rw [if_pos c1]
    go_enter Try.func19, Try.ntmps19
    go_wp2
    go_ret
    exact ⟨rfl, rfl⟩
  · rw [if_neg c1]
    go_enter Try.func19, Try.ntmps19
    go_wp2
    go_ret
    exact ⟨rfl, rfl⟩

/-- The four function values that 'ways' answers; c is the block that holds the sender's pointer. -/
def fv (f c : Nat) : Value := .func (.func f) #[] #[.pointer (some ⟨c, 0, none⟩)]
def wv (c : Nat) : Array Value := #[fv 22 c, fv 23 c, fv 25 c, fv 26 c]

set_option maxRecDepth 100000 in
theorem ways_any (b : Nat) (w : World) :
    Calls Try.prog 20 #[.pointer (some ⟨b, 0, none⟩)] w fun e w' => e = .returned (.agg (wv w.heap.size)) ∧
      w' = (w.alloc (.cells #[.pointer (some ⟨b, 0, none⟩)] 25)).alloc (.cells (wv w.heap.size) 51) := by
  have hmf : ∀ (fn : Fn) (first cap : Array Value) (w : World), (Instr.makeFunc fn first cap).run Try.prog w = .ok (.func fn first cap) w := fun _ _ _ _ => rfl
  go_enter Try.func20, Try.ntmps20
  go_wp2
  refine bodyPost_ret (v := .agg (wv w.heap.size)) (by simp [results, Try.results20, go_sem, wv, fv]) rfl ⟨rfl, rfl⟩

theorem ways1 (b c : Nat) (x : Snd.St) (y : Int) (w : World) (h : SndAt w b x) (hc : Held w c b) :
    Calls Try.prog 22 #[.int .i64 y, .pointer (some ⟨c, 0, none⟩)] w fun e w' => e = .returned (.bool (decide (x.s < y))) ∧ w = w' := by
  have e1 : w.cell? ⟨b, 1, none⟩ = some (.int .i64 x.s) := h.cell 1
  have ec : w.cell? ⟨c, 0, none⟩ = some (.pointer (some ⟨b, 0, none⟩)) := hc.cell 0
  go_enter Try.func22, Try.ntmps22
  go_wp2
  go_ret
  exact ⟨rfl, rfl⟩

theorem ways3 (b c : Nat) (x : Snd.St) (y : Int) (w : World) (h : SndAt w b x) (hc : Held w c b) (x5 : 0 ≤ x.q) (x6 : x.q < 4) :
    Calls Try.prog 25 #[.int .i64 y, .pointer (some ⟨c, 0, none⟩)] w fun e w' => e = .returned (.bool (x.q + 1 == 4)) ∧ w.setCell ⟨b, 2, none⟩ (.int .i64 (x.q + 1)) = w' := by
  have e1 : w.cell? ⟨b, 2, none⟩ = some (.int .i64 x.q) := h.cell 2
  have f1 := h.free 2
  have ec : w.cell? ⟨c, 0, none⟩ = some (.pointer (some ⟨b, 0, none⟩)) := hc.cell 0
  have hne : b ≠ c := h.ne hc (by decide)
  have ec' : (w.setCell ⟨b, 2, none⟩ (.int .i64 (x.q + 1))).cell? ⟨c, 0, none⟩ = some (.pointer (some ⟨b, 0, none⟩)) := (hc.far (p := ⟨b, 2, none⟩) (Ne.symm hne) _).cell 0
  have e1' : (w.setCell ⟨b, 2, none⟩ (.int .i64 (x.q + 1))).cell? ⟨b, 2, none⟩ = some (.int .i64 (x.q + 1)) := (h.put 2 _).cell 2
  go_enter Try.func25, Try.ntmps25
  go_wp2
  go_ret
  exact ⟨rfl, rfl⟩

theorem ways4 (b c : Nat) (x : Snd.St) (y : Int) (w : World) (h : SndAt w b x) (hc : Held w c b) (x1 : 0 ≤ x.a) (x2 : x.a ≤ 4611686018427387903) (y1 : -4611686018427387911 ≤ y) (y2 : y ≤ 4611686018427387911) :
    Calls Try.prog 26 #[.int .i64 y, .pointer (some ⟨c, 0, none⟩)] w fun e w' => e = .returned (.tuple #[.int .i64 (Snd.part x.a y).1, .int .i64 (Snd.part x.a y).2]) ∧ w.setCell ⟨b, 2, none⟩ (.int .i64 0) = w' := by
  have e1 : w.cell? ⟨b, 2, none⟩ = some (.int .i64 x.q) := h.cell 2
  have f1 := h.free 2
  have ec : w.cell? ⟨c, 0, none⟩ = some (.pointer (some ⟨b, 0, none⟩)) := hc.cell 0
  have hne : b ≠ c := h.ne hc (by decide)
  have ec' : (w.setCell ⟨b, 2, none⟩ (.int .i64 0)).cell? ⟨c, 0, none⟩ = some (.pointer (some ⟨b, 0, none⟩)) := (hc.far (p := ⟨b, 2, none⟩) (Ne.symm hne) _).cell 0
  have e1' : (w.setCell ⟨b, 2, none⟩ (.int .i64 0)).cell? ⟨b, 0, none⟩ = some (.int .i64 x.a) := (h.put 2 _).cell 0
  go_enter Try.func26, Try.ntmps26
  go_wp2_with (go_at_call 24; refine (part_any x.a y _ x1 (by omega) y1 y2).mono ?_; rintro e w' ⟨rfl, rfl⟩)
  go_ret2
  exact ⟨rfl, rfl⟩

set_option maxHeartbeats 1000000 in
theorem ways2 (b c : Nat) (x : Snd.St) (y : Int) (w : World) (h : SndAt w b x) (hc : Held w c b) (x1 : 0 ≤ x.s) (x2 : x.s ≤ 4611686018427387911) (y1 : -4611686018427387911 ≤ y) (y2 : y ≤ 4611686018427387911) :
    Calls Try.prog 23 #[.int .i64 y, .pointer (some ⟨c, 0, none⟩)] w fun e w' => e = .returned (.tuple #[.int .i64 (Snd.part x.s y).1, .int .i64 (Snd.part x.s y).2]) ∧
      Kp (· = b) w w' ∧ SndAt w' b ⟨x.a, (Snd.part x.s y).1 + (Snd.part x.s y).2 - 1, 0⟩ := by
  have e1 : w.cell? ⟨b, 2, none⟩ = some (.int .i64 x.q) := h.cell 2
  have e2 : w.cell? ⟨b, 1, none⟩ = some (.int .i64 x.s) := h.cell 1
  have f1 := h.free 1
  have f2 := h.free 2
  have ec : w.cell? ⟨c, 0, none⟩ = some (.pointer (some ⟨b, 0, none⟩)) := hc.cell 0
  have hne : b ≠ c := h.ne hc (by decide)
  have hp := Snd.part_le x.s y
  have hp1 := Snd.part_fst x.s y
  go_enter Try.func23, Try.ntmps23
  go_wp2_with (go_at_call 24; refine (part_any x.s y _ x1 (by omega) y1 y2).mono ?_; rintro e w' ⟨rfl, rfl⟩)
  go_region
  all_goals go_wp2
  all_goals go_ret2
  all_goals exact ⟨rfl, (((Kp.refl _ _).set1 _ _).set1 _ _).drew, ((h.put 1 _).put 2 _).drew⟩

/-- What Tick leaves: only the sender's block is written. -/
def TickPost (b : Nat) (x : Snd.St) (y : Int) (w : World) (e : Ending) (w' : World) : Prop :=
  e = .returned (.tuple #[.int .i64 (Snd.tick x y).1.1, .int .i64 (Snd.tick x y).1.2]) ∧ Kp (· = b) w w' ∧ SndAt w' b (Snd.tick x y).2

set_option maxRecDepth 100000 in
theorem tick_idle (b : Nat) (x : Snd.St) (y : Int) (w : World) (h : SndAt w b x) (c1 : y ≤ x.a) :
    Calls Try.prog 10 #[.pointer (some ⟨b, 0, none⟩), .int .i64 y] w (TickPost b x y w) := by
  have hf : Hid (TickPost b x y w (.returned (.tuple #[.int .i64 0, .int .i64 0])) (w.setCell ⟨b, 2, none⟩ (.int .i64 0))) := by
    have e : Snd.tick x y = ((0, 0), ⟨x.a, x.s, 0⟩) := by unfold Snd.tick; rw [if_pos c1]
    unfold Hid TickPost
    rw [e]
    exact ⟨rfl, (Kp.refl _ _).set1 _ _, h.put 2 _⟩
  have e0 : w.cell? ⟨b, 0, none⟩ = some (.int .i64 x.a) := h.cell 0
  have e2 : w.cell? ⟨b, 2, none⟩ = some (.int .i64 x.q) := h.cell 2
  have f2 := h.free 2
  go_enter Try.func10, Try.ntmps10
  go_wp2_with (fail)
  go_ret2
  exact hf.out

set_option maxRecDepth 100000 in
set_option maxHeartbeats 1000000 in
theorem tick_new (b : Nat) (x : Snd.St) (y : Int) (w : World) (h : SndAt w b x) (hx : x.ok) (h2 : -2305843009213693952 ≤ y) (h3 : y ≤ 4611686018427387903) (c1 : ¬ y ≤ x.a) (c2 : x.s < Snd.wend x y) :
    Calls Try.prog 10 #[.pointer (some ⟨b, 0, none⟩), .int .i64 y] w (TickPost b x y w) := by
  obtain ⟨x1, x2, x3, x4, x5, x6⟩ := hx
  have hw := Snd.wend_le x y
  have hf : Hid (∀ w1, Kp (· = b) w w1 → SndAt w1 b ⟨x.a, (Snd.part x.s (Snd.wend x y)).1 + (Snd.part x.s (Snd.wend x y)).2 - 1, 0⟩ → TickPost b x y w (.returned (.tuple #[.int .i64 (Snd.part x.s (Snd.wend x y)).1, .int .i64 (Snd.part x.s (Snd.wend x y)).2])) w1) := by
    have e : Snd.tick x y = (Snd.part x.s (Snd.wend x y), ⟨x.a, (Snd.part x.s (Snd.wend x y)).1 + (Snd.part x.s (Snd.wend x y)).2 - 1, 0⟩) := by unfold Snd.tick; rw [if_neg c1, if_pos c2]
    intro w1 k1 k2
    unfold TickPost
    rw [e]
    exact ⟨rfl, k1, k2⟩
  have e0 : w.cell? ⟨b, 0, none⟩ = some (.int .i64 x.a) := h.cell 0
  have hb := h.lt
  have H := Lib.hid h
  clear h
  have c2' : decide (x.s < Snd.wend x y) = true := by simpa using c2
  go_enter Try.func10, Try.ntmps10
  go_wp2_with (first
    | (go_at_call 19; refine (end_any b x y _ H.out x1 x2).mono ?_; rintro e w' ⟨rfl, rfl⟩)
    | (go_at_call 20; refine (ways_any b _).mono ?_; rintro e w' ⟨rfl, rfl⟩))
  refine wp_loop_rounds 1 ?_
  rw [rounds_succ]
  have i0 : ∀ (c : Nat) (w : World), (Instr.index 51 (.agg (wv c)) (.int .i64 0)).run Try.prog w = .ok (.agg #[.func (.func 22) #[] #[.pointer (some ⟨c, 0, none⟩)], .func (.func 23) #[] #[.pointer (some ⟨c, 0, none⟩)]]) w := fun _ _ => by kernel_rfl
  go_wp2_with (first
    | (go_at_call 22; refine (ways1 b w.heap.size x (Snd.wend x y) _ (((H.out.alloc _).alloc _).alloc _) (((Bk.new w _ _).alloc _).alloc _)).mono ?_; rintro e w' ⟨rfl, rfl⟩)
    | (go_at_call 23; refine (ways2 b w.heap.size x (Snd.wend x y) _ (((H.out.alloc _).alloc _).alloc _) (((Bk.new w _ _).alloc _).alloc _) (by omega) (by omega) (by omega) (by omega)).mono ?_; rintro e w1 ⟨rfl, k1, k2⟩))
  go_ret2
  exact hf.out _ (((((Kp.refl _ _).alloc _).alloc _).alloc _).tr k1) k2

end Go.Proofs.Ytiddaacipjjggaa
