/-
  The document's disk, over the same abstract disk: there, Sure, Fuse, step, Left.
-/
import Derived.Test.YthblfkopofmdfaaDiskDown
set_option linter.unusedVariables false
set_option linter.unusedSimpArgs false
namespace Go.Proofs.Ythblfkopofmdfaa
open Go.RowKit

def fuI : Option Nat → Int
  | none => -1
  | some n => n

/-- The cells of the document's disk. -/
structure Rs (w : World) (B b : Nat) (d : Dk) (cs : Array Value) : Prop where
  size : cs.size = 131
  files : ∀ i, i < 64 → ∃ v, cs[i]? = some v ∧ Fl w B b v (d.b i)
  sure : ∀ i, i < 64 → cs[64 + i]? = some (.int .i64 (d.s i))
  room : cs[128]? = some (.int .i64 d.room)
  fuse : cs[129]? = some (.int .i64 (fuI d.fu))
  down : cs[130]? = some (.bool d.down)

structure RkAt (w : World) (B b : Nat) (d : Dk) : Prop where
  ge : B ≤ b
  row : ∃ cs, Bk w b 50 cs ∧ Rs w B b d cs

theorem RkAt.lt {w : World} {B b : Nat} {d : Dk} (h : RkAt w B b d) : b < w.heap.size := by
  obtain ⟨cs, hb, _⟩ := h.row
  exact hb.lt

theorem Rs.keep {w w' : World} {B b : Nat} {d : Dk} {cs : Array Value} (h : Rs w B b d cs) (k : Kp (· = b) w w') : Rs w' B b d cs :=
  ⟨h.size, fun i hi => by obtain ⟨v, h1, h2⟩ := h.files i hi; exact ⟨v, h1, h2.keep k⟩, h.sure, h.room, h.fuse, h.down⟩

theorem RkAt.box {w : World} {B b : Nat} {d : Dk} (h : RkAt w B b d) {w' : World} (hb : Below w.heap.size w w') : RkAt w' B b d := by
  obtain ⟨cs, hk, hc⟩ := h.row
  exact ⟨h.ge, cs, hk.below hb hk.lt, hc.keep (kp_below hb)⟩

theorem there_any (n : Int) (w : World) : Calls Try.prog 32 #[.int .i64 n] w fun e w' => e = .returned (.bool (decide (0 ≤ n) && decide (n < 64))) ∧ w' = w := by
  go_enter Try.func32, Try.ntmps32
  by_cases h0 : 0 ≤ n
  · have t0 : decide (0 ≤ n) = true := by simpa using h0
    go_wp2_with (fail)
    go_ret
    exact ⟨by simp; omega, rfl⟩
  · have t0 : decide (0 ≤ n) = false := by simpa using h0
    go_wp2_with (fail)
    go_ret
    exact ⟨by simp, rfl⟩

theorem there_in (i : Nat) (hi : i < 64) (w : World) : Calls Try.prog 32 #[.int .i64 i] w fun e w' => e = .returned (.bool true) ∧ w' = w := by
  refine (there_any i w).mono ?_
  rintro e w' ⟨rfl, h2⟩
  have a : (decide (0 ≤ (i : Int)) && decide ((i : Int) < 64)) = true := by simp; omega
  exact ⟨by rw [a], h2⟩

theorem there_out (n : Int) (hn : n < 0 ∨ 64 ≤ n) (w : World) : Calls Try.prog 32 #[.int .i64 n] w fun e w' => e = .returned (.bool false) ∧ w' = w := by
  refine (there_any n w).mono ?_
  rintro e w' ⟨rfl, h2⟩
  have a : (decide (0 ≤ n) && decide (n < 64)) = false := by simp; omega
  exact ⟨by rw [a], h2⟩

theorem rsure_in (B b i : Nat) (hi : i < 64) (d : Dk) (w : World) (h : RkAt w B b d) : Calls Try.prog 20 #[.pointer (some ⟨b, 0, none⟩), .int .i64 i] w fun e w' => e = .returned (.int .i64 (d.s i)) ∧ w' = w := by
  obtain ⟨cs, hk, hc⟩ := h.row
  have q : w.cell? ⟨b, 64 + i, none⟩ = some (.int .i64 (d.s i)) := (hk.cell _).trans (hc.sure i hi)
  clear hk hc h
  go_enter Try.func20, Try.ntmps20
  go_wp2_with (fail)
  refine (there_in i hi _).mono ?_
  rintro e w' ⟨rfl, rfl⟩
  go_wp2_with (fail)
  go_ret
  exact ⟨rfl, rfl⟩

theorem rsure_out (b : Nat) (n : Int) (hn : n < 0 ∨ 64 ≤ n) (w : World) : Calls Try.prog 20 #[.pointer (some ⟨b, 0, none⟩), .int .i64 n] w fun e w' => e = .returned (.int .i64 0) ∧ w' = w := by
  go_enter Try.func20, Try.ntmps20
  go_wp2_with (fail)
  refine (there_out n hn _).mono ?_
  rintro e w' ⟨rfl, rfl⟩
  go_wp2_with (fail)
  go_ret
  exact ⟨rfl, rfl⟩

theorem Rs.scal {w : World} {B b : Nat} {d : Dk} {cs cs' : Array Value} (h : Rs w B b d cs) (hs : cs'.size = 131) (hf : ∀ k, k < 129 → cs'[k]? = cs[k]?) {fu : Option Nat} {down : Bool} (fuse : cs'[129]? = some (.int .i64 (fuI fu)))
    (hd : cs'[130]? = some (.bool down)) : Rs w B b { d with fu := fu, down := down } cs' :=
  ⟨hs, fun i hi => by obtain ⟨v, h1, h2⟩ := h.files i hi; exact ⟨v, (hf _ (by omega)).trans h1, h2⟩, fun i hi => (hf _ (by omega)).trans (h.sure i hi), (hf _ (by omega)).trans h.room, fuse, hd⟩

/-- What a step of the document's disk leaves. -/
def RtPost (B b : Nat) (d : Dk) (v : Value) (w : World) (e : Ending) (w' : World) : Prop :=
  e = .returned v ∧ Kp (· = b) w w' ∧ RkAt w' B b d

theorem rfuse_any (B b : Nat) (n : Int) (d : Dk) (w : World) (h : RkAt w B b d) : Calls Try.prog 14 #[.pointer (some ⟨b, 0, none⟩), .int .i64 n] w (RtPost B b (d.fuse n) (.tuple #[]) w) := by
  obtain ⟨cs, hk, hc⟩ := h.row
  have hge := h.ge
  have hz := hc.size
  have q0 : w.cell? ⟨b, 129, none⟩ = some (.int .i64 (fuI d.fu)) := (hk.cell _).trans hc.fuse
  have f0 := hk.free 129
  have HK := Lib.hid hk
  have HC := Lib.hid hc
  clear hk hc h
  go_enter Try.func14, Try.ntmps14
  by_cases hn : n < 0
  · go_wp2_with (fail)
    first | go_end0 | refine bodyPost_ret (results_none rfl _ _ _) rfl ?_
    refine ⟨rfl, ((Kp.refl _ w).set1 129 _).set1 129 _, hge, _, (HK.out.put 129 _).put 129 _, ?_⟩
    have hsz : (cs.setIfInBounds 129 (.int .i64 n)).size = 131 := by simp [hz]
    have hh := (HC.out.keep (((Kp.refl (· = b) w).set1 129 (.int .i64 n)).set1 129 (.int .i64 (-1)))).scal (cs' := (cs.setIfInBounds 129 (.int .i64 n)).setIfInBounds 129 (.int .i64 (-1))) (by simp [hz]) (fun k hk => by rw [set_at _ _ _ _ (by omega), if_neg (by omega), set_at _ _ _ _ (by omega), if_neg (by omega)]) (fu := none) (down := d.down) (by rw [set_at _ _ _ _ (by omega), if_pos rfl]; rfl) (by rw [set_at _ _ _ _ (by omega), if_neg (by omega), set_at _ _ _ _ (by omega), if_neg (by omega)]; exact HC.out.down)
    have e : d.fuse n = { d with fu := none } := by unfold Dk.fuse; rw [if_neg (by omega)]
    rw [e]
    exact hh
  · go_wp2_with (fail)
    first | go_end0 | refine bodyPost_ret (results_none rfl _ _ _) rfl ?_
    refine ⟨rfl, (Kp.refl _ w).set1 129 _, hge, _, HK.out.put 129 _, ?_⟩
    have hh := (HC.out.keep ((Kp.refl (· = b) w).set1 129 (.int .i64 n))).scal (cs' := cs.setIfInBounds 129 (.int .i64 n)) (by simp [hz]) (fun k hk => by rw [set_at _ _ _ _ (by omega), if_neg (by omega)]) (fu := some n.toNat) (down := d.down) (by rw [set_at _ _ _ _ (by omega), if_pos rfl]; show some (Value.int .i64 n) = some (.int .i64 (n.toNat : Int)); congr 2; omega) (by rw [set_at _ _ _ _ (by omega), if_neg (by omega)]; exact HC.out.down)
    have e : d.fuse n = { d with fu := some n.toNat } := by unfold Dk.fuse; rw [if_pos (by omega)]
    rw [e]
    exact hh

theorem rleft_any (B b : Nat) (d : Dk) (hd : d.ok) (w : World) (h : RkAt w B b d) : Calls Try.prog 22 #[.pointer (some ⟨b, 0, none⟩)] w fun e w' => e = .returned (.int .i64 d.left) ∧ w' = w := by
  obtain ⟨cs, hk, hc⟩ := h.row
  have q0 : w.cell? ⟨b, 128, none⟩ = some (.int .i64 d.room) := (hk.cell _).trans hc.room
  have hq : Hid (∀ i, i < 64 → ∃ A c, w.cell? ⟨b, i, none⟩ = some (.slice A (d.b i).length c)) := by
    intro i hi
    obtain ⟨v, h1, h2⟩ := hc.files i hi
    obtain ⟨A, c, rfl, _⟩ := h2.row
    exact ⟨A, c, (hk.cell _).trans h1⟩
  have hs := hd.sum
  have hr := hd.room
  have HD := Lib.hid hd
  clear hk hc h hd
  go_enter Try.func22, Try.ntmps22
  go_wp2_with (fail)
  go_loopw [3, 4] (fun l i wr => ∃ k : Nat, k ≤ 64 ∧ i = .int .i64 k ∧ l = .int .i64 (d.room - (sumLen d.b k : Int)) ∧ wr = w) (fun _ i _ => 64 - (intOf i).toNat)
  case atStart => exact ⟨0, Nat.zero_le _, rfl, by simp [sumLen], rfl⟩
  case round =>
    obtain ⟨k, hk, rfl, rfl, rfl⟩ := hrel
    by_cases hlt : k < 64
    · obtain ⟨A, c, q1⟩ := hq.out k hlt
      have hm := sumLen_mono d.b (show k + 1 ≤ 64 by omega)
      have hl := HD.out.len hlt
      have hstep : d.room - (sumLen d.b k : Int) - ((d.b k).length : Int) = d.room - (sumLen d.b (k + 1) : Int) := by simp only [sumLen]; omega
      have HS := Lib.hid hstep
      have hmm : sumLen d.b (k + 1) = sumLen d.b k + (d.b k).length := rfl
      rw [hmm] at hm
      clear hstep hmm
      generalize (d.b k).length = len at *
      generalize hS : sumLen d.b k = S at *
      go_wp2_with (fail)
      go_roundw
      case rel => exact ⟨k + 1, by omega, by go_num, by rw [← HS.out], trivial⟩
      case measure => simp [intOf]; omega
    · obtain rfl : k = 64 := by omega
      go_wp2_with (fail)
      go_ret
      exact ⟨rfl, rfl⟩
end Go.Proofs.Ythblfkopofmdfaa
