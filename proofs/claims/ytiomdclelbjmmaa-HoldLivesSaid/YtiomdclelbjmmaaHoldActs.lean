/-
  The law's acts in memory; is there more than is looked at?
-/
import Derived.Test.YtiomdclelbjmmaaHoldLarge
set_option linter.unusedVariables false
set_option linter.unusedSimpArgs false
namespace Go.Proofs.Ytiomdclelbjmmaa
open Go.RowKit

structure Act where
  d : Int
  x : Tv

/-- Acts lie in memory, from A on; their writes likewise; nothing of it in a block of S. -/
structure ActsAt (S : Nat → Prop) (w : World) (A : Option Addr) (l : List Act) : Prop where
  at_ : ∀ (k : Nat) (h : k < l.length), ∃ b o, A = some ⟨b, o, none⟩ ∧ b < w.heap.size ∧ ¬ S b ∧ w.cell? ⟨b, o + k * 7, none⟩ = some (.int .i64 l[k].d) ∧ w.cell? ⟨b, o + k * 7 + 1, none⟩ = some (.int .i64 l[k].x.t.o) ∧
    w.cell? ⟨b, o + k * 7 + 2, none⟩ = some (.int .i64 l[k].x.t.s) ∧ w.cell? ⟨b, o + k * 7 + 3, none⟩ = some (.int .i64 l[k].x.t.d0) ∧ w.cell? ⟨b, o + k * 7 + 4, none⟩ = some (.int .i64 l[k].x.t.d1) ∧ w.cell? ⟨b, o + k * 7 + 5, none⟩ = some (.int .i64 l[k].x.t.d2) ∧
    w.cell? ⟨b, o + k * 7 + 6, none⟩ = some (.slice l[k].x.A l[k].x.t.ws.length l[k].x.c)
  wk : ∀ a ∈ l, Wk S w a.x

theorem ActsAt.ext {S1 S2 K : Nat → Prop} {w1 w2 : World} {A : Option Addr} {l : List Act} (h : ActsAt S1 w1 A l) (k : Kp K w1 w2) (hK : ∀ i, i < w1.heap.size → K i → S1 i) (hS : ∀ i, S2 i → S1 i ∨ w1.heap.size ≤ i) : ActsAt S2 w2 A l := by
  refine ⟨fun j hj => ?_, fun a ha => (h.wk a ha).ext k hK hS⟩
  obtain ⟨b, o, e, hl, hn, c0, c1, c2, c3, c4, c5, c6⟩ := h.at_ j hj
  have hk' : ∀ (p : Addr) (v : Value), p.block = b → w1.cell? p = some v → w2.cell? p = some v := fun p v hp hc => (k.cell (by rw [hp]; exact hl) (by rw [hp]; exact fun e => hn (hK _ hl e))).trans hc
  refine ⟨b, o, e, Nat.lt_of_lt_of_le hl k.size, fun e2 => ?_, hk' _ _ rfl c0, hk' _ _ rfl c1, hk' _ _ rfl c2, hk' _ _ rfl c3, hk' _ _ rfl c4, hk' _ _ rfl c5, hk' _ _ rfl c6⟩
  rcases hS b e2 with e3 | e3
  · exact hn e3
  · omega

theorem ActsAt.below {S : Nat → Prop} {w w' : World} {A : Option Addr} {l : List Act} (h : ActsAt S w A l) (hb : Below w.heap.size w w') : ActsAt S w' A l :=
  h.ext (Kp.of_below hb) (fun i hi e => by omega) (fun i hi => .inl hi)

def LargePost (l : List Act) (w : World) (e : Ending) (w' : World) : Prop :=
  ∃ r : Bool, e = .returned (.bool r) ∧ Below w.heap.size w w' ∧ (r = false → l.length ≤ 100 ∧ ∀ (k : Nat) (h : k < l.length), l[k].x.t.ws.length ≤ 40)

set_option maxRecDepth 100000 in
set_option maxHeartbeats 4000000 in
theorem large_any {S : Nat → Prop} (A : Option Addr) (c : Nat) (l : List Act) (w : World) (h : ActsAt S w A l) (hl : l.length ≤ 9223372036854775807) :
    Calls Try.prog 7 #[.slice A l.length c] w (LargePost l w) := by
  by_cases c0 : 100 < l.length
  · go_enter Try.func7, Try.ntmps7
    go_wp2_with (fail)
    go_ret
    exact ⟨true, rfl, Below.refl _ _, fun h => by cases h⟩
  · have C0 := Lib.hid c0
    go_enter Try.func7, Try.ntmps7
    go_wp2_with (fail)
    clear c0
    go_loopw [10] (fun i wr => ∃ k : Nat, k ≤ l.length ∧ i = .int .i64 k ∧ Below w.heap.size w wr ∧ ∀ j (hj : j < l.length), j < k → l[j].x.t.ws.length ≤ 40) (fun i _ => l.length - (intOf i).toNat)
    case atStart => exact ⟨0, Nat.zero_le _, rfl, Below.refl _ _, fun _ _ hj => absurd hj (by omega)⟩
    case round =>
      obtain ⟨k, hk, rfl, hb, hs⟩ := hrel
      have hA := Lib.hid (h.below hb)
      have HB := Lib.hid hb
      have HS := Lib.hid hs
      clear h hs hb
      by_cases hlt : k < l.length
      · obtain ⟨b, o, e, hbl, _, c0, c1, c2, c3, c4, c5, c6⟩ := hA.out.at_ k hlt
        subst e
        have hfin : Hid (l[k].x.t.ws.length ≤ 40 → ∀ j (hj : j < l.length), j < k + 1 → l[j].x.t.ws.length ≤ 40) := by
          intro h1 j hj hj'
          by_cases e : j = k
          · subst e; exact h1
          · exact HS.out j hj (by omega)
        have HW := Lib.hid (hA.out.wk _ (List.getElem_mem hlt)).sh.rd
        generalize l[k] = a at *
        have B1 := Lib.hid (HB.out.alloc HB.out.size (.cells #[.int .i64 a.d, .int .i64 a.x.t.o, .int .i64 a.x.t.s, .int .i64 a.x.t.d0, .int .i64 a.x.t.d1, .int .i64 a.x.t.d2, .slice a.x.A a.x.t.ws.length a.x.c] 38))
        have HW1 := Lib.hid (HW.out.below ((Below.refl wr.heap.size wr).alloc (Nat.le_refl _) (.cells #[.int .i64 a.d, .int .i64 a.x.t.o, .int .i64 a.x.t.s, .int .i64 a.x.t.d0, .int .i64 a.x.t.d1, .int .i64 a.x.t.d2, .slice a.x.A a.x.t.ws.length a.x.c] 38)))
        go_wp2_with (fail)
        refine (large6_any a.x _ HW1.out).mono ?_
        rintro e w1 ⟨r, rfl, hr, hb1⟩
        have B2 := Lib.hid (B1.out.trans (hb1.mono B1.out.size))
        have HR := Lib.hid hr
        clear hr hb1
        cases r with
        | true =>
          go_wp2_with (fail)
          go_ret
          exact ⟨true, rfl, B2.out, fun e => by cases e⟩
        | false =>
          go_wp2_with (fail)
          go_roundw
          case rel => exact ⟨k + 1, by omega, by go_num, B2.out, hfin.out (HR.out (by trivial))⟩
          case measure => simp [intOf]; omega
      · go_wp2_with (fail)
        go_ret
        exact ⟨false, rfl, HB.out, fun _ => ⟨by have := C0.out; omega, fun j hj => HS.out j hj (by omega)⟩⟩
end Go.Proofs.Ytiomdclelbjmmaa
