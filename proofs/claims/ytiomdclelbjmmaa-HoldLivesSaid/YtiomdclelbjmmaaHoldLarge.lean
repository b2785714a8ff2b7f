/-
  Is a transaction, are acts more than the law looks at?
-/
import Derived.Test.YtiomdclelbjmmaaHoldTxns
set_option linter.unusedVariables false
set_option linter.unusedSimpArgs false
namespace Go.Proofs.Ytiomdclelbjmmaa
open Go.RowKit

/-- What the law's Large leaves. -/
def LgPost (n : Nat) (w : World) (e : Ending) (w' : World) : Prop := ∃ r : Bool, e = .returned (.bool r) ∧ (r = false → n ≤ 40) ∧ Below w.heap.size w w'

set_option maxRecDepth 100000 in
set_option maxHeartbeats 4000000 in
theorem large6_any (x : Tv) (w : World) (hx : Rd w x.A (wrs x.t.ws)) :
    Calls Try.prog 27 #[.agg #[.int .i64 x.t.o, .int .i64 x.t.s, .int .i64 x.t.d0, .int .i64 x.t.d1, .int .i64 x.t.d2, .slice x.A x.t.ws.length x.c]] w (LgPost x.t.ws.length w) := by
  obtain ⟨tt, A, c⟩ := x
  have HX := Lib.hid hx
  clear hx
  dsimp only at *
  go_enter Try.func27, Try.ntmps27
  by_cases e0 : 40 < tt.ws.length
  · go_wp2_with (fail)
    go_ret
    exact ⟨true, rfl, (fun e => by cases e), (Below.refl _ w).alloc (Nat.le_refl _) _⟩
  · go_wp2_with (fail)
    have E0 := Lib.hid e0
    clear e0
    have HB := Lib.hid ((Below.refl w.heap.size w).alloc (Nat.le_refl _) (.cells (txc ⟨tt, A, c⟩) 36))
    generalize hW : w.alloc (.cells #[.int .i64 tt.o, .int .i64 tt.s, .int .i64 tt.d0, .int .i64 tt.d1, .int .i64 tt.d2, .slice A tt.ws.length c] 36) = W at *
    replace HB : Hid (Below w.heap.size w W) := by rw [← hW]; exact HB.out
    clear hW
    go_loopw [12] (fun i wr => ∃ k : Nat, k ≤ tt.ws.length ∧ i = .int .i64 k ∧ Below w.heap.size w wr) (fun i _ => tt.ws.length - (intOf i).toNat)
    case atStart => exact ⟨0, Nat.zero_le _, rfl, HB.out⟩
    case round =>
      obtain ⟨k, hk, rfl, hb⟩ := hrel
      have HB2 := Lib.hid hb
      by_cases hlt : k < tt.ws.length
      · obtain ⟨b1, o1, rfl, lb1, s0, s1, s2⟩ := wr_cells (HX.out.below hb) hlt
        generalize tt.ws[k] = u at *
        have HB3 := Lib.hid (hb.alloc hb.size (.cells #[.string u.k, .string u.v, .bool u.g] 65))
        clear hb
        go_wp2_with (fail)
        · go_ret
          exact ⟨true, rfl, (fun e => by cases e), HB3.out⟩
        · go_roundw
          case rel => exact ⟨k + 1, by omega, by go_num, HB3.out⟩
          case measure => simp [intOf]; omega
        · go_ret
          exact ⟨true, rfl, (fun e => by cases e), HB3.out⟩
      · clear hb
        go_wp2_with (fail)
        go_ret
        exact ⟨false, rfl, fun _ => by have := E0.out; omega, HB2.out⟩
end Go.Proofs.Ytiomdclelbjmmaa
