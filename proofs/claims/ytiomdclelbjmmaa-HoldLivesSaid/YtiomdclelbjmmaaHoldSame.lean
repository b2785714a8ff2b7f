/-
  Of the tables: are writes, transactions, rows of transactions the same?
-/
import Derived.Test.YtiomdclelbjmmaaHoldAllW
set_option linter.unusedVariables false
set_option linter.unusedSimpArgs false
namespace Go.Proofs.Ytiomdclelbjmmaa
open Go.RowKit

theorem eq_wr (d : Nat) (x y : Wr) (w : World) : (Op.equalIn (d + 2) 65 (.agg #[.string x.k, .string x.v, .bool x.g]) (.agg #[.string y.k, .string y.v, .bool y.g])).run Try.prog w = .ok (x.k.toList == y.k.toList && (x.v.toList == y.v.toList && (x.g == y.g))) w := by
  have hp0 : ∀ (a b : ByteArray) (c : Bool) (w : World), (part 9 #[.string a, .string b, .bool c] 0).run Try.prog w = .ok (.string a) w := fun _ _ _ _ => by kernel_rfl
  have hp1 : ∀ (a b : ByteArray) (c : Bool) (w : World), (part 9 #[.string a, .string b, .bool c] 1).run Try.prog w = .ok (.string b) w := fun _ _ _ _ => by kernel_rfl
  have hp2 : ∀ (a b : ByteArray) (c : Bool) (w : World), (part 4 #[.string a, .string b, .bool c] 2).run Try.prog w = .ok (.bool c) w := fun _ _ _ _ => by kernel_rfl
  have hf : (Try.prog.fieldsOf 65).toList = [{ name := "Key", type := 9, offset := 0, embedded := false, tag := "", pkgPath := "", byteOffset := 0 }, { name := "Value", type := 9, offset := 1, embedded := false, tag := "", pkgPath := "", byteOffset := 16 }, { name := "Gone", type := 4, offset := 2, embedded := false, tag := "", pkgPath := "", byteOffset := 32 }] := by kernel_rfl
  have hs : ∀ (x y : ByteArray) (w : World), (Op.equalIn (d + 1) 9 (.string x) (.string y)).run Try.prog w = .ok (x.toList == y.toList) w := fun x y w => run_equalIn_string w d 9 x y Try.underlying9
  have hb : ∀ (x y : Bool) (w : World), (Op.equalIn (d + 1) 4 (.bool x) (.bool y)).run Try.prog w = .ok (x == y) w := fun x y w => run_equalIn_bool w d 4 x y Try.underlying4
  rw [run_equalIn_struct w (d + 1) _ _ _ (by kernel_rfl) (by kernel_rfl), hf]
  cases h0 : x.k.toList == y.k.toList <;> cases h1 : x.v.toList == y.v.toList <;> cases h2 : x.g == y.g <;> simp [Op.eqFields, Sem.run_bind, hp0, hp1, hp2, hs, hb, h0, h1, h2]

theorem run_neq_wr (x y : Wr) (w : World) : (binOp .neq 65 (.agg #[.string x.k, .string x.v, .bool x.g]) (.agg #[.string y.k, .string y.v, .bool y.g])).run Try.prog w = .ok (.bool (!(x.k.toList == y.k.toList && (x.v.toList == y.v.toList && (x.g == y.g))))) w := by
  simp only [binOp]
  simp [show Op.equal 65 = Op.equalIn (9998 + 2) 65 from rfl, eq_wr]

/-- Are writes the same? -/
def Wr.same (x y : Wr) : Bool := x.k.toList == y.k.toList && (x.v.toList == y.v.toList && (x.g == y.g))
theorem Wr.same_self (x : Wr) : x.same x = true := by simp [Wr.same]
theorem run_neq_wr' (x y : Wr) (w : World) : (binOp .neq 65 (.agg #[.string x.k, .string x.v, .bool x.g]) (.agg #[.string y.k, .string y.v, .bool y.g])).run Try.prog w = .ok (.bool (!(x.same y))) w := run_neq_wr x y w

/-- What the table's Same leaves. -/
def SmPost (t u : Tx) (w : World) (e : Ending) (w' : World) : Prop := ∃ r : Bool, e = .returned (.bool r) ∧ (t = u → r = true) ∧ Below w.heap.size w w'

/-- Two transactions lie boxed. -/
structure BoxT (w : World) (c1 c2 : Array Value) (W : World) : Prop where
  a : Bk W w.heap.size 36 c1
  b : Bk W (w.heap.size + 1) 36 c2
  l : Below w.heap.size w W

theorem BoxT.new (w : World) (c1 c2 : Array Value) : BoxT w c1 c2 ((w.alloc (.cells c1 36)).alloc (.cells c2 36)) := by
  refine ⟨(Bk.new w _ _).alloc _, ?_, ((Below.refl _ w).alloc (Nat.le_refl _) _).alloc (by simp) _⟩
  have := Bk.new (w.alloc (.cells c1 36)) 36 c2
  rwa [World.size_alloc] at this

set_option maxRecDepth 100000 in
set_option maxHeartbeats 4000000 in
theorem same_any (x y : Tv) (w : World) (hx : Rd w x.A (wrs x.t.ws)) (hy : Rd w y.A (wrs y.t.ws)) (hl : x.t.ws.length ≤ 1000000) (hl2 : y.t.ws.length ≤ 1000000) :
    Calls Try.prog 14 #[.agg #[.int .i64 x.t.o, .int .i64 x.t.s, .int .i64 x.t.d0, .int .i64 x.t.d1, .int .i64 x.t.d2, .slice x.A x.t.ws.length x.c], .agg #[.int .i64 y.t.o, .int .i64 y.t.s, .int .i64 y.t.d0, .int .i64 y.t.d1, .int .i64 y.t.d2, .slice y.A y.t.ws.length y.c]] w (SmPost x.t y.t w) := by
  have hnc := run_neq_clock
  have hnw := run_neq_wr'
  have HX := Lib.hid hx
  have HY := Lib.hid hy
  clear hx hy
  go_enter Try.func14, Try.ntmps14
  by_cases e0 : x.t.o = y.t.o
  rotate_left
  · go_wp2_with (fail)
    go_ret
    exact ⟨false, rfl, fun e => absurd (congrArg Tx.o e) e0, (BoxT.new w _ _).l⟩
  by_cases e1 : x.t.s = y.t.s
  rotate_left
  · go_wp2_with (fail)
    go_ret
    exact ⟨false, rfl, fun e => absurd (congrArg Tx.s e) e1, (BoxT.new w _ _).l⟩
  cases e2 : (x.t.d0 == y.t.d0 && (x.t.d1 == y.t.d1 && x.t.d2 == y.t.d2)) with
  | false =>
    go_wp2_with (fail)
    go_ret
    exact ⟨false, rfl, fun e => by rw [e] at e2; simp at e2, (BoxT.new w _ _).l⟩
  | true =>
    by_cases e3 : x.t.ws.length = y.t.ws.length
    rotate_left
    · go_wp2_with (fail)
      go_ret
      exact ⟨false, rfl, fun e => absurd (congrArg (fun t => t.ws.length) e) e3, (BoxT.new w _ _).l⟩
    have HB := Lib.hid (BoxT.new w #[.int .i64 y.t.o, .int .i64 y.t.s, .int .i64 x.t.d0, .int .i64 x.t.d1, .int .i64 x.t.d2, .slice x.A y.t.ws.length x.c] (txc y))
    go_wp2_with (fail)
    generalize hW : (w.alloc (.cells #[.int .i64 y.t.o, .int .i64 y.t.s, .int .i64 x.t.d0, .int .i64 x.t.d1, .int .i64 x.t.d2, .slice x.A y.t.ws.length x.c] 36)).alloc (.cells #[.int .i64 y.t.o, .int .i64 y.t.s, .int .i64 y.t.d0, .int .i64 y.t.d1, .int .i64 y.t.d2, .slice y.A y.t.ws.length y.c] 36) = W at *
    replace HB : Hid (BoxT w #[.int .i64 y.t.o, .int .i64 y.t.s, .int .i64 x.t.d0, .int .i64 x.t.d1, .int .i64 x.t.d2, .slice x.A y.t.ws.length x.c] (txc y) W) := by rw [← hW]; exact HB.out
    clear hW
    have HX2 := Lib.hid (HX.out.below HB.out.l)
    have HY2 := Lib.hid (HY.out.below HB.out.l)
    have p5 : W.cell? ⟨w.heap.size, 5, none⟩ = some (.slice x.A y.t.ws.length x.c) := HB.out.a.cell 5
    have q5 : W.cell? ⟨w.heap.size + 1, 5, none⟩ = some (.slice y.A y.t.ws.length y.c) := HB.out.b.cell 5
    have HE := Lib.hid e3
    clear e0 e1 e2 e3 HX HY
    go_loopw [5] (fun i wr => ∃ k n : Nat, k ≤ y.t.ws.length ∧ i = .int .i64 k ∧ wr = W.drewN n) (fun i _ => y.t.ws.length - (intOf i).toNat)
    case atStart => exact ⟨0, 0, Nat.zero_le _, rfl, rfl⟩
    case round =>
      obtain ⟨k, n, hk, rfl, rfl⟩ := hrel
      by_cases hlt : k < y.t.ws.length
      · have hltx : k < x.t.ws.length := by rw [HE.out]; exact hlt
        obtain ⟨b1, o1, ha1, _, s0, s1, s2⟩ := wr_cells HX2.out hltx
        obtain ⟨b2, o2, ha2, _, t0, t1, t2⟩ := wr_cells HY2.out hlt
        have HQ : Hid (x.t = y.t → x.t.ws[k] = y.t.ws[k]) := by intro e; simp only [e]
        generalize x.t.ws[k] = u at *
        generalize y.t.ws[k] = z at *
        clear hltx
        cases hs : u.same z with
        | false =>
          go_wp2_with (fail)
          go_quiet (fail)
          go_wp2_with (fail)
          go_ret
          exact ⟨false, rfl, (fun e => by rw [HQ.out e, Wr.same_self] at hs; cases hs), by exact ⟨HB.out.l.os, HB.out.l.tape, HB.out.l.output, HB.out.l.size, HB.out.l.block⟩⟩
        | true =>
          go_wp2_with (fail)
          go_quiet (fail)
          go_wp2_with (fail)
          go_roundw
          case rel => exact ⟨k + 1, _, by omega, by go_num, rfl⟩
          case measure => simp [intOf]; omega
      · go_wp2_with (fail)
        go_ret
        exact ⟨true, rfl, fun _ => rfl, ⟨HB.out.l.os, HB.out.l.tape, HB.out.l.output, HB.out.l.size, HB.out.l.block⟩⟩
end Go.Proofs.Ytiomdclelbjmmaa
