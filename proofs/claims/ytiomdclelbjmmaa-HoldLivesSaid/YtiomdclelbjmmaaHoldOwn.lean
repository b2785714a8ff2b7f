/-
  slices.Clone of writes and of transactions; own: a copy of a transaction.
-/
import Derived.Test.YtiomdclelbjmmaaHoldRCheck
set_option linter.unusedVariables false
set_option linter.unusedSimpArgs false
namespace Go.Proofs.Ytiomdclelbjmmaa
open Go.RowKit

theorem Try.infoWr : (Try.prog.info? 65).map (fun i => (i.zero, i.size, i.bytes)) = some (some (.agg #[.string ⟨#[]⟩, .string ⟨#[]⟩, .bool false]), 3, 40) := by kernel_rfl
theorem Try.infoTx : (Try.prog.info? 36).map (fun i => (i.zero, i.size, i.bytes)) = some (some (.agg #[.int .i64 0, .int .i64 0, .int .i64 0, .int .i64 0, .int .i64 0, .slice none 0 0]), 6, 64) := by kernel_rfl

/-- What a copy of a row leaves. -/
def RowPost (e size n : Nat) (xs : List Value) (w : World) (r : Ending) (w' : World) : Prop :=
  ∃ A c, r = .returned (.slice A n c) ∧ w'.ownsRow w.heap.size e size (.slice A n c) n xs ∧ Below w.heap.size w w'

set_option maxRecDepth 100000 in
set_option maxHeartbeats 1000000 in
theorem clone_ws (A : Option Addr) (c : Nat) (l : List Wr) (w : World) (h : Rd w A (wrs l)) (h0 : A = none → l.length = 0) (hn : l.length ≤ 1000000) :
    Calls Try.prog 39 #[.slice A l.length c] w (RowPost 65 3 l.length (wrs l) w) := by
  obtain ⟨i0, hi0, hz0, hz1, hz2⟩ := info_parts Try.infoWr
  have hnil : ∀ (w : World) (a : Option Addr) (n c n' c' : Nat), (binOp .eql 34 (.slice a n c) (.slice none n' c')).run Try.prog w = .ok (.bool a.isNone) w := fun w a n c n' c' => Lib.run_eql_slice_nil w _ _ a n c n' c' Try.underlying34
  cases A with
  | none =>
    obtain rfl : l = [] := List.eq_nil_of_length_eq_zero (h0 rfl)
    clear h h0
    go_enter Try.func39, Try.ntmps39
    go_wp2_with (fail)
    go_ret
    exact ⟨none, 0, rfl, ⟨rfl, .inl ⟨rfl, rfl⟩⟩, Below.refl _ _⟩
  | some ad =>
    have hown : Hid ((w.alloc (.cells #[] 65)).ownsRow w.heap.size 65 3 (.slice (some ⟨w.heap.size, 0, none⟩) 0 0) 0 []) := World.ownsRow_lit w #[] 0 (Nat.le_refl _) (by simp) rfl
    have hnews : Hid (Rd (w.alloc (.cells #[] 65)) (some ad) (wrs l)) := h.below ((Below.refl _ _).alloc (Nat.le_refl _) _)
    have HLen := Lib.hid (wrs_length l)
    clear h h0
    go_enter Try.func39, Try.ntmps39
    go_wp2_with (at_builtin; refine wpList_app rfl (.tmp 5) (.tmp 6) 34 rfl w.heap.size 65 i0 _ 3 40 Try.underlying34 hi0 hz0 hz1 hz2 rfl (by decide) _ 0 [] rfl hown.out (some ad) l.length c (wrs l) rfl (fun e => by cases e) HLen.out hnews.out (wrs_one l) (by simp only [maxLen]; omega) (by omega) (by simp) ?_; intro A2 c2 w1 hown' hgrow)
    go_ret
    rw [Nat.zero_add] at hown'
    exact ⟨A2, c2, rfl, hown', app_new (w1 := w) hgrow ((Below.refl _ _).alloc (Nat.le_refl _) _) (fun g hg => (own_ge hown.out g hg).1) rfl rfl rfl rfl⟩

set_option maxRecDepth 100000 in
set_option maxHeartbeats 1000000 in
theorem clone_ts (A : Option Addr) (c : Nat) (l : List Tv) (w : World) (h : Rd w A (txs l)) (h0 : A = none → l.length = 0) (hn : l.length ≤ 1000000) :
    Calls Try.prog 30 #[.slice A l.length c] w (RowPost 36 6 l.length (txs l) w) := by
  obtain ⟨i0, hi0, hz0, hz1, hz2⟩ := info_parts Try.infoTx
  have hnil : ∀ (w : World) (a : Option Addr) (n c n' c' : Nat), (binOp .eql 44 (.slice a n c) (.slice none n' c')).run Try.prog w = .ok (.bool a.isNone) w := fun w a n c n' c' => Lib.run_eql_slice_nil w _ _ a n c n' c' Try.underlying44
  cases A with
  | none =>
    obtain rfl : l = [] := List.eq_nil_of_length_eq_zero (h0 rfl)
    clear h h0
    go_enter Try.func30, Try.ntmps30
    go_wp2_with (fail)
    go_ret
    exact ⟨none, 0, rfl, ⟨rfl, .inl ⟨rfl, rfl⟩⟩, Below.refl _ _⟩
  | some ad =>
    have hown : Hid ((w.alloc (.cells #[] 36)).ownsRow w.heap.size 36 6 (.slice (some ⟨w.heap.size, 0, none⟩) 0 0) 0 []) := World.ownsRow_lit w #[] 0 (Nat.le_refl _) (by simp) rfl
    have hnews : Hid (Rd (w.alloc (.cells #[] 36)) (some ad) (txs l)) := h.below ((Below.refl _ _).alloc (Nat.le_refl _) _)
    have HLen := Lib.hid (txs_length l)
    clear h h0
    go_enter Try.func30, Try.ntmps30
    go_wp2_with (at_builtin; refine wpList_app rfl (.tmp 5) (.tmp 6) 44 rfl w.heap.size 36 i0 _ 6 64 Try.underlying44 hi0 hz0 hz1 hz2 rfl (by decide) _ 0 [] rfl hown.out (some ad) l.length c (txs l) rfl (fun e => by cases e) HLen.out hnews.out (txs_one l) (by simp only [maxLen]; omega) (by omega) (by simp) ?_; intro A2 c2 w1 hown' hgrow)
    go_ret
    rw [Nat.zero_add] at hown'
    exact ⟨A2, c2, rfl, hown', app_new (w1 := w) hgrow ((Below.refl _ _).alloc (Nat.le_refl _) _) (fun g hg => (own_ge hown.out g hg).1) rfl rfl rfl rfl⟩

/-- A copy of a transaction: its writes in a row of the call's own. -/
def OwnPost (t : Tx) (w : World) (r : Ending) (w' : World) : Prop :=
  ∃ A c, r = .returned (.agg #[.int .i64 t.o, .int .i64 t.s, .int .i64 t.d0, .int .i64 t.d1, .int .i64 t.d2, .slice A t.ws.length c]) ∧ w'.ownsRow w.heap.size 65 3 (.slice A t.ws.length c) t.ws.length (wrs t.ws) ∧ Below w.heap.size w w'

set_option maxRecDepth 100000 in
set_option maxHeartbeats 1000000 in
theorem own_any (x : Tv) (w : World) (h : Rd w x.A (wrs x.t.ws)) (h0 : x.A = none → x.t.ws.length = 0) (hn : x.t.ws.length ≤ 1000000) :
    Calls Try.prog 31 #[.agg #[.int .i64 x.t.o, .int .i64 x.t.s, .int .i64 x.t.d0, .int .i64 x.t.d1, .int .i64 x.t.d2, .slice x.A x.t.ws.length x.c]] w (OwnPost x.t w) := by
  obtain ⟨⟨o, s, d0, d1, d2, ws⟩, A, c⟩ := x
  dsimp only at *
  have D0 := (Bk.new w 36 #[.int .i64 o, .int .i64 s, .int .i64 d0, .int .i64 d1, .int .i64 d2, .slice A ws.length c]).alloc (.cells #[.int .i64 0, .int .i64 0, .int .i64 0, .int .i64 0, .int .i64 0, .slice none 0 0] 36)
  have E0 := Bk.new (w.alloc (.cells #[.int .i64 o, .int .i64 s, .int .i64 d0, .int .i64 d1, .int .i64 d2, .slice A ws.length c] 36)) 36 #[.int .i64 0, .int .i64 0, .int .i64 0, .int .i64 0, .int .i64 0, .slice none 0 0]
  have B0 := ((Below.refl w.heap.size w).alloc (Nat.le_refl _) (.cells #[.int .i64 o, .int .i64 s, .int .i64 d0, .int .i64 d1, .int .i64 d2, .slice A ws.length c] 36)).alloc (by simp) (.cells #[.int .i64 0, .int .i64 0, .int .i64 0, .int .i64 0, .int .i64 0, .slice none 0 0] 36)
  rw [World.size_alloc] at E0
  have HR := Lib.hid (h.below B0)
  have D0 := Lib.hid D0
  have E0 := Lib.hid E0
  have B0 := Lib.hid B0
  clear h
  go_enter Try.func31, Try.ntmps31
  go_wp2_with (fail)
  refine (clone_ws A c ws _ HR.out h0 hn).mono ?_
  rintro e w1 ⟨A1, c1, rfl, ho, hb⟩
  have O1 := Lib.hid (own_lower ho B0.out.size)
  have B1 := Lib.hid (B0.out.trans (hb.mono B0.out.size))
  have D1 := Lib.hid (D0.out.below hb D0.out.lt)
  have E1 := Lib.hid (E0.out.below hb E0.out.lt)
  obtain ⟨⟨p0, p1, p2, p3, p4, p5⟩, f0, f1, f2, f3, f4, f5⟩ := bk6 D1.out
  obtain ⟨⟨e0, e1, e2, e3, e4, e5⟩, g0, g1, g2, g3, g4, g5⟩ := bk6 E1.out
  clear D0 E0 B0 hb ho HR
  go_wp2_with (fail)
  have hG : Bk (set6 (w1.setCell ⟨w.heap.size, 5, none⟩ (.slice A1 ws.length c1)) (w.heap.size + 1) (.int .i64 o) (.int .i64 s) (.int .i64 d0) (.int .i64 d1) (.int .i64 d2) (.slice A1 ws.length c1)) (w.heap.size + 1) 36 #[.int .i64 o, .int .i64 s, .int .i64 d0, .int .i64 d1, .int .i64 d2, .slice A1 ws.length c1] :=
    set6_bk (E1.out.far (p := ⟨w.heap.size, 5, none⟩) (by simp) _) _ _ _ _ _ _
  have hK : Kp (fun k => k = w.heap.size ∨ k = w.heap.size + 1) w1 (set6 (w1.setCell ⟨w.heap.size, 5, none⟩ (.slice A1 ws.length c1)) (w.heap.size + 1) (.int .i64 o) (.int .i64 s) (.int .i64 d0) (.int .i64 d1) (.int .i64 d2) (.slice A1 ws.length c1)) :=
    set6_kp ((Kp.refl _ w1).setCell (p := ⟨w.heap.size, 5, none⟩) (.inl (.inl rfl)) _) (.inl (.inr rfl)) _ _ _ _ _ _
  obtain ⟨⟨z0, z1, z2, z3, z4, z5⟩, _⟩ := bk6 hG
  unfold set6 at z0 z1 z2 z3 z4 z5
  refine bodyPost_ret (v := .agg #[.int .i64 o, .int .i64 s, .int .i64 d0, .int .i64 d1, .int .i64 d2, .slice A1 ws.length c1]) (by simp [results, Try.results31, go_sem, z0, z1, z2, z3, z4, z5]) rfl ?_
  refine ⟨A1, c1, rfl, own_kp O1.out hK (fun g' hg' e => ?_), B1.out.trans (hK.below (fun k hk e => by omega) B1.out.size)⟩
  rcases e with e | e
  · exact own_ne_bk O1.out D1.out (by decide) (by rw [hg', e])
  · exact own_ne_bk O1.out E1.out (by decide) (by rw [hg', e])
end Go.Proofs.Ytiomdclelbjmmaa
