/-
  The law's own: acts in memory, and 'large'.
-/
import Derived.Test.YtiddaacipjjggaaSendRefAsk
import Derived.Test.YtiddaacipjjggaaSendTick
set_option linter.unusedVariables false
set_option linter.unusedSimpArgs false
namespace Go.Proofs.Ytiddaacipjjggaa
open Go.RowKit

structure Act where
  d : Int
  f : Int
  t : Int
  b : Int
  y : Int

/-- Acts lie in memory, n of them, from A on. -/
def ActsAt (w : World) (A : Option Addr) (l : List Act) : Prop :=
  ∀ (k : Nat) (h : k < l.length), ∃ b o, A = some ⟨b, o, none⟩ ∧ b < w.heap.size ∧ w.cell? ⟨b, o + k * 5, none⟩ = some (.int .i64 l[k].d) ∧ w.cell? ⟨b, o + k * 5 + 1, none⟩ = some (.int .i64 l[k].f) ∧
    w.cell? ⟨b, o + k * 5 + 2, none⟩ = some (.int .i64 l[k].t) ∧ w.cell? ⟨b, o + k * 5 + 3, none⟩ = some (.int .i64 l[k].b) ∧ w.cell? ⟨b, o + k * 5 + 4, none⟩ = some (.int .i64 l[k].y)

theorem ActsAt.below {w w' : World} {A : Option Addr} {l : List Act} (h : ActsAt w A l) (hb : Below w.heap.size w w') : ActsAt w' A l := by
  intro k hk
  obtain ⟨b, o, e, hl, c0, c1, c2, c3, c4⟩ := h k hk
  have hk' : ∀ (p : Addr) (v : Value), p.block = b → w.cell? p = some v → w'.cell? p = some v := fun p v hp hc => (hb.cell (by rw [hp]; exact hl)).trans hc
  exact ⟨b, o, e, Nat.lt_of_lt_of_le hl hb.size, hk' _ _ rfl c0, hk' _ _ rfl c1, hk' _ _ rfl c2, hk' _ _ rfl c3, hk' _ _ rfl c4⟩

def Act.small (a : Act) : Prop := Small a.f ∧ Small a.t ∧ Small a.b ∧ Small a.y

def LargePost (l : List Act) (w : World) (e : Ending) (w' : World) : Prop :=
  ∃ r : Bool, e = .returned (.bool r) ∧ Below w.heap.size w w' ∧ (r = false → l.length ≤ 100 ∧ ∀ a ∈ l, a.small)

set_option maxRecDepth 100000 in
set_option maxHeartbeats 1600000 in
theorem large_any (A : Option Addr) (c : Nat) (l : List Act) (w : World) (h : ActsAt w A l) (hl : l.length ≤ 9223372036854775807) :
    Calls Try.prog 7 #[.slice A l.length c] w (LargePost l w) := by
  by_cases c0 : 100 < l.length
  · go_enter Try.func7, Try.ntmps7
    go_wp2
    go_ret
    exact ⟨true, rfl, Below.refl _ _, fun h => by cases h⟩
  · go_enter Try.func7, Try.ntmps7
    go_wp2
    go_loopw [12] (fun i wr => ∃ k : Nat, k ≤ l.length ∧ i = .int .i64 k ∧ Below w.heap.size w wr ∧ ∀ j (hj : j < l.length), j < k → (l[j]).small) (fun i _ => l.length - (intOf i).toNat)
    case atStart => exact ⟨0, Nat.zero_le _, rfl, Below.refl _ _, fun _ _ hj => absurd hj (by omega)⟩
    case round =>
      obtain ⟨k, hk, rfl, hb, hs⟩ := hrel
      have hs' := Lib.hid hs
      clear hs
      have hA := Lib.hid (h.below hb)
      clear h
      by_cases hlt : k < l.length
      · obtain ⟨b, o, e, hbl, c0, c1, c2, c3, c4⟩ := hA.out k hlt
        subst e
        have hfin : Hid (l[k].small → ∀ j (hj : j < l.length), j < k + 1 → (l[j]).small) := by
          intro h1 j hj hj'
          by_cases e : j = k
          · subst e; exact h1
          · exact hs'.out j hj (by omega)
        generalize l[k] = a at *
        have hsm : Hid (a.small ↔ ((-2305843009213693952 ≤ a.f ∧ a.f ≤ 2305843009213693952) ∧ (-2305843009213693952 ≤ a.t ∧ a.t ≤ 2305843009213693952) ∧ (-2305843009213693952 ≤ a.b ∧ a.b ≤ 2305843009213693952) ∧ (-2305843009213693952 ≤ a.y ∧ a.y ≤ 2305843009213693952))) := Iff.rfl
        go_wp2
        have i0 : ∀ (p q r s : Int) (w : World), (Instr.index 44 (.agg #[.int .i64 p, .int .i64 q, .int .i64 r, .int .i64 s]) (.int .i64 0)).run Try.prog w = .ok (.int .i64 p) w := fun _ _ _ _ _ => by kernel_rfl
        have i1 : ∀ (p q r s : Int) (w : World), (Instr.index 44 (.agg #[.int .i64 p, .int .i64 q, .int .i64 r, .int .i64 s]) (.int .i64 1)).run Try.prog w = .ok (.int .i64 q) w := fun _ _ _ _ _ => by kernel_rfl
        have i2 : ∀ (p q r s : Int) (w : World), (Instr.index 44 (.agg #[.int .i64 p, .int .i64 q, .int .i64 r, .int .i64 s]) (.int .i64 2)).run Try.prog w = .ok (.int .i64 r) w := fun _ _ _ _ _ => by kernel_rfl
        have i3 : ∀ (p q r s : Int) (w : World), (Instr.index 44 (.agg #[.int .i64 p, .int .i64 q, .int .i64 r, .int .i64 s]) (.int .i64 3)).run Try.prog w = .ok (.int .i64 s) w := fun _ _ _ _ _ => by kernel_rfl
        refine wp_loop_rounds 5 ?_
        rw [rounds_succ]
        go_wp2
        all_goals first | (rw [rounds_succ]; go_wp2) | skip
        all_goals first | (rw [rounds_succ]; go_wp2) | skip
        all_goals first | (rw [rounds_succ]; go_wp2) | skip
        all_goals first | (rw [rounds_succ]; go_wp2) | skip
        all_goals first
          | (go_ret; exact ⟨true, rfl, hb.alloc hb.size _, fun h => by cases h⟩)
          | (go_roundw
             case rel => exact ⟨k + 1, by omega, by go_num, hb.alloc hb.size _, hfin.out (hsm.out.2 (by omega))⟩
             case measure => simp [intOf]; omega)
      · go_wp2
        go_ret
        refine ⟨false, rfl, hb, fun _ => ⟨by omega, fun a ha => ?_⟩⟩
        obtain ⟨j, hj, rfl⟩ := List.getElem_of_mem ha
        exact hs'.out j hj (by omega)
end Go.Proofs.Ytiddaacipjjggaa
