/-
  Awake: what the law's own script says of a hold.
-/
import Derived.Test.YtiomdclelbjmmaaHoldTwo
set_option linter.unusedVariables false
set_option linter.unusedSimpArgs false
namespace Go.Proofs.Ytiomdclelbjmmaa
open Go.RowKit

/-- A transaction that writes nothing. -/
def tx0 (o s d0 d1 d2 : Int) : Tx := ⟨o, s, d0, d1, d2, []⟩

theorem wk_nil {S : Nat → Prop} {W : World} (o s d0 d1 d2 : Int) : Wk S W ⟨tx0 o s d0 d1 d2, none, 0⟩ :=
  ⟨fun j u hj => by simp [tx0, wrs] at hj, fun _ => rfl⟩

theorem put0 {b : Nat} {h : Hk} (w : World) (o s d0 d1 d2 : Int) (H : HAt 61 (· = b) w b h) (hok : h.ok) :
    Calls Try.prog 10 #[.pointer (some ⟨b, 0, none⟩), .agg #[.int .i64 o, .int .i64 s, .int .i64 d0, .int .i64 d1, .int .i64 d2, .slice none 0 0]] w (PtPost 61 (· = b) b (h.put (tx0 o s d0 d1 d2)).1 (h.put (tx0 o s d0 d1 d2)).2 w) :=
  put_any b h ⟨tx0 o s d0 d1 d2, none, 0⟩ w H (fun k hk => by rw [hk]; exact H.lt) hok (wk_nil o s d0 d1 d2) (by simp [tx0])

theorem Hk.ok.fresh (c0 c1 c2 : Int) (h0 : okn c0) (h1 : okn c1) (h2 : okn c2) : (Hk.new c0 c1 c2).ok := by
  refine ⟨fun i hi => ?_, fun i hi => by simp [Hk.new], fun i hi j hj => by simp [Hk.new] at hj⟩
  have hc : i = 0 ∨ i = 1 ∨ i = 2 := by omega
  rcases hc with rfl | rfl | rfl
  · exact h0
  · exact h1
  · exact h2

/-- Where the script stands: the hold at g, the two transactions boxed. -/
structure AwS (w : World) (g f1 f2 : Nat) (h : Hk) (W : World) : Prop where
  x : HAt 61 (· = g) W g h
  ok : h.ok
  a : Bk W f1 36 (txc ⟨tx0 1 1 1 0 5, none, 0⟩)
  b : Bk W f2 36 (txc ⟨tx0 0 1 0 0 0, none, 0⟩)
  l : Below w.heap.size w W
  lg : w.heap.size ≤ g
  n1 : f1 ≠ g
  n2 : f2 ≠ g

theorem AwS.step {w W W1 : World} {g f1 f2 : Nat} {h h' : Hk} (m : AwS w g f1 f2 h W) (k : Kp (· = g) W W1) (hh : HAt 61 (· = g) W1 g h') (hok : h'.ok) : AwS w g f1 f2 h' W1 :=
  ⟨hh, hok, m.a.kp k m.n1, m.b.kp k m.n2, m.l.trans (k.below (B := w.heap.size) (fun i hi e => by have := m.lg; omega) m.l.size), m.lg, m.n1, m.n2⟩

theorem AwS.quiet {w W W1 : World} {g f1 f2 : Nat} {h : Hk} (m : AwS w g f1 f2 h W) (hb : Below W.heap.size W W1) : AwS w g f1 f2 h W1 :=
  ⟨m.x.below hb, m.ok, m.a.below hb m.a.lt, m.b.below hb m.b.lt, m.l.trans (hb.mono m.l.size), m.lg, m.n1, m.n2⟩

/-- The hold behind the three Puts. -/
def aw3 : Hk := (((Hk.new 0 0 5).put (tx0 1 1 1 0 5)).1.put (tx0 1 1 1 0 5)).1.put (tx0 0 1 0 0 0) |>.1

/-- .. behind All. -/
def aw5 : Hk := (aw3.took 0 [] 1).took 1 [] 1

theorem aw_run : Run aw3 [tx0 0 1 0 0 0, tx0 1 1 1 0 5] aw5 :=
  Run.snoc (l := [tx0 0 1 0 0 0]) (i := 1) (rest := []) (Run.snoc (l := []) (i := 0) (rest := []) (.nil aw3) (by omega) (by decide +kernel) rfl) (by omega) (by decide +kernel) rfl

theorem aw5_none : aw5.peek = none := by decide +kernel

/-- The hold behind k more Puts. -/
def aw6 : Nat → Hk
  | 0 => aw5
  | k + 1 => ((aw6 k).put (tx0 2 (6 + k) 9 0 (5 + k))).1

theorem aw6_step (s : Int) (h : 6 ≤ s) : aw6 (s + 1 - 6).toNat = ((aw6 (s - 6).toNat).put (tx0 2 s 9 0 (s - 1))).1 := by
  obtain ⟨k, rfl⟩ : ∃ k : Nat, s = 6 + (k : Int) := ⟨(s - 6).toNat, by omega⟩
  have e1 : (6 + (k : Int) + 1 - 6).toNat = k + 1 := by omega
  have e2 : (6 + (k : Int) - 6).toNat = k := by omega
  have e3 : 6 + (k : Int) - 1 = 5 + k := by omega
  rw [e1, e2, e3]
  rfl

/-- Where the script stands behind All. -/
structure AwL (w : World) (g f1 f2 f8 : Nat) (A11 A : Option Addr) (c11 c : Nat) (h : Hk) (W : World) : Prop where
  m : AwS w g f1 f2 h W
  t : Ts (· = g) W (.slice A11 2 c11) [tx0 0 1 0 0 0, tx0 1 1 1 0 5]
  f : Bk W f8 36 (txc ⟨tx0 0 1 0 0 0, A, c⟩)
  k : Wk (· = g) W ⟨tx0 0 1 0 0 0, A, c⟩
  n : f8 ≠ g

section
variable {w W W1 : World} {g f1 f2 f8 : Nat} {A11 A : Option Addr} {c11 c : Nat} {h h' : Hk}
theorem AwL.step (m : AwL w g f1 f2 f8 A11 A c11 c h W) (k : Kp (· = g) W W1) (hh : HAt 61 (· = g) W1 g h') (hok : h'.ok) : AwL w g f1 f2 f8 A11 A c11 c h' W1 :=
  ⟨m.m.step k hh hok, m.t.kp k (fun _ e => e), m.f.kp k m.n, m.k.kp k (fun _ e => e), m.n⟩

theorem AwL.quiet (m : AwL w g f1 f2 f8 A11 A c11 c h W) (hb : Below W.heap.size W W1) : AwL w g f1 f2 f8 A11 A c11 c h W1 :=
  ⟨m.m.quiet hb, m.t.below hb, m.f.below hb m.f.lt, m.k.below hb, m.n⟩
end

theorem aw7_applied : ((aw6 8).put (tx0 2 14 9 0 13)).2 = 7 ∧ ((aw6 8).put (tx0 2 14 9 0 13)).1.a 0 = 1 ∧ ((aw6 8).put (tx0 2 14 9 0 13)).1.a 1 = 1 ∧ ((aw6 8).put (tx0 2 14 9 0 13)).1.a 2 = 5 ∧ (((aw6 8).put (tx0 2 14 9 0 13)).1.q 2).length = 8 := by decide +kernel

/-- Two transactions that write nothing, in a row of their own. -/
theorem ts_two (S : Nat → Prop) (w : World) (o s d0 d1 d2 o' s' d0' d1' d2' : Int) (hS : ¬ S w.heap.size) :
    Ts S (w.alloc (.cells #[.int .i64 o, .int .i64 s, .int .i64 d0, .int .i64 d1, .int .i64 d2, .slice none 0 0, .int .i64 o', .int .i64 s', .int .i64 d0', .int .i64 d1', .int .i64 d2', .slice none 0 0] 36)) (.slice (some ⟨w.heap.size, 0, none⟩) 2 2) [tx0 o s d0 d1 d2, tx0 o' s' d0' d1' d2'] := by
  refine ⟨_, 2, [⟨tx0 o s d0 d1 d2, none, 0⟩, ⟨tx0 o' s' d0' d1' d2', none, 0⟩], rfl, by simp, (fun e => by cases e), rfl, ?_, fun x hx => ?_⟩
  · have hb := Bk.new w 36 #[.int .i64 o, .int .i64 s, .int .i64 d0, .int .i64 d1, .int .i64 d2, .slice none 0 0, .int .i64 o', .int .i64 s', .int .i64 d0', .int .i64 d1', .int .i64 d2', .slice none 0 0]
    refine Sh.of_rd (bk_rd hb) (fun g o e _ hs => ?_)
    injection e with e
    injection e with e1
    exact hS (e1 ▸ hs)
  · simp only [List.mem_cons, List.not_mem_nil, or_false] at hx
    rcases hx with rfl | rfl
    · exact wk_nil _ _ _ _ _
    · exact wk_nil _ _ _ _ _

set_option maxRecDepth 100000 in
set_option maxHeartbeats 4000000 in
theorem awake_true (w : World) : Calls Try.prog 6 #[] w (fun e w' => e = .returned (.bool true) ∧ Below w.heap.size w w') := by
  go_enter Try.func6, Try.ntmps6
  go_wp2_with (fail)
  refine (new_in 0 0 5 (by decide) (by decide) (by decide) _).mono ?_
  rintro e w1 ⟨g, hg, rfl, hbk, hb⟩
  have G := Lib.hid (hat_new (S := (· = g)) hbk rfl)
  have B := Lib.hid hb
  clear hbk hb
  go_wp2_with (fail)
  refine (new_out (-1) 0 0 (by decide) _).mono ?_
  rintro e w2 ⟨rfl, hb2⟩
  have G2 := Lib.hid (G.out.below hb2)
  have B2 := Lib.hid (B.out.trans (hb2.mono B.out.size))
  have F0 := Lib.hid (Bk.new w2 36 (txc ⟨tx0 1 1 1 0 5, none, 0⟩))
  have F1 := Lib.hid (Bk.new (w2.alloc (.cells (txc ⟨tx0 1 1 1 0 5, none, 0⟩) 36)) 36 (txc ⟨tx0 0 1 0 0 0, none, 0⟩))
  clear hb2
  have L2 : g < w2.heap.size := G2.out.lt
  have M3 : Hid (AwS w g w2.heap.size (w2.heap.size + 1) (Hk.new 0 0 5) ((w2.alloc (.cells (txc ⟨tx0 1 1 1 0 5, none, 0⟩) 36)).alloc (.cells (txc ⟨tx0 0 1 0 0 0, none, 0⟩) 36))) := by
    have hq := ((Below.refl w2.heap.size w2).alloc (Nat.le_refl _) (.cells (txc ⟨tx0 1 1 1 0 5, none, 0⟩) 36)).alloc (by simp) (.cells (txc ⟨tx0 0 1 0 0 0, none, 0⟩) 36)
    have f1 := F1.out
    rw [World.size_alloc] at f1
    exact ⟨G2.out.below hq, Hk.ok.fresh _ _ _ (by decide) (by decide) (by decide), F0.out.alloc _, f1, B2.out.trans (hq.mono B2.out.size), hg, by omega, by omega⟩
  go_wp2_with (fail)
  generalize hW : (w2.alloc (.cells #[.int .i64 1, .int .i64 1, .int .i64 1, .int .i64 0, .int .i64 5, .slice none 0 0] 36)).alloc (.cells #[.int .i64 0, .int .i64 1, .int .i64 0, .int .i64 0, .int .i64 0, .slice none 0 0] 36) = W3
  replace M3 : Hid (AwS w g w2.heap.size (w2.heap.size + 1) (Hk.new 0 0 5) W3) := by rw [← hW]; exact M3.out
  clear hW G G2 F0 F1 B B2
  have e4 : ((Hk.new 0 0 5).put (tx0 1 1 1 0 5)).2 = 0 := by decide +kernel
  refine (put0 W3 1 1 1 0 5 M3.out.x M3.out.ok).mono ?_
  rintro e w4 ⟨k4, rfl, hh4⟩
  rw [e4]
  have M4 := Lib.hid (M3.out.step k4 hh4 (M3.out.ok.put _))
  clear k4 hh4 e4 M3
  obtain ⟨⟨p0, p1, p2, p3, p4, p5⟩, _⟩ := bk6 M4.out.a
  go_wp2_with (fail)
  have e5 : (((Hk.new 0 0 5).put (tx0 1 1 1 0 5)).1.put (tx0 1 1 1 0 5)).2 = 6 := by decide +kernel
  refine (put0 w4 1 1 1 0 5 M4.out.x M4.out.ok).mono ?_
  rintro e w5 ⟨k5, rfl, hh5⟩
  rw [e5]
  have M5 := Lib.hid (M4.out.step k5 hh5 (M4.out.ok.put _))
  clear k5 hh5 e5 M4 p0 p1 p2 p3 p4 p5
  go_wp2_with (fail)
  have e6 : (((Hk.new 0 0 5).put (tx0 1 1 1 0 5)).1.put (tx0 1 1 1 0 5)).1.peek = none := by decide +kernel
  refine (peek_any g _ w5 M5.out.x (fun k hk => by rw [hk]; exact M5.out.x.lt) M5.out.ok.ws M5.out.ok.len).mono ?_
  rintro e w6 ⟨hb6, hp6⟩
  rcases hp6 with ⟨_, rfl⟩ | ⟨i, t, rest, A, c, _, h6, _⟩
  rotate_left
  · rw [e6] at h6; cases h6
  have M6 := Lib.hid (M5.out.quiet hb6)
  clear e6 hb6 M5
  obtain ⟨⟨p0, p1, p2, p3, p4, p5⟩, _⟩ := bk6 M6.out.b
  have l6 : w2.heap.size + 1 < w6.heap.size := M6.out.b.lt
  have M6b := Lib.hid (M6.out.quiet ((Below.refl w6.heap.size w6).alloc (Nat.le_refl _) (.cells #[.int .i64 0, .int .i64 0, .int .i64 0, .int .i64 0, .int .i64 0, .slice none 0 0] 36)))
  go_wp2_with (fail)
  have e7 : ((((Hk.new 0 0 5).put (tx0 1 1 1 0 5)).1.put (tx0 1 1 1 0 5)).1.put (tx0 0 1 0 0 0)).2 = 0 := by decide +kernel
  refine (put0 _ 0 1 0 0 0 M6b.out.x M6b.out.ok).mono ?_
  rintro e w7 ⟨k7, rfl, hh7⟩
  rw [e7]
  have M7 : Hid (AwS w g w2.heap.size (w2.heap.size + 1) aw3 w7) := M6b.out.step k7 hh7 (M6b.out.ok.put _)
  clear k7 hh7 e7 M6 M6b p0 p1 p2 p3 p4 p5
  go_wp2_with (fail)
  have e8 : aw3.peek = some 0 := by decide +kernel
  refine (peek_any g _ w7 M7.out.x (fun k hk => by rw [hk]; exact M7.out.x.lt) M7.out.ok.ws M7.out.ok.len).mono ?_
  rintro e w8 ⟨hb8, hp8⟩
  rcases hp8 with ⟨h8, _⟩ | ⟨i, t, rest, A, c, _, h8, q8, rfl, k8⟩
  · rw [e8] at h8; cases h8
  rw [e8] at h8
  injection h8 with h8
  subst h8
  obtain ⟨rfl, rfl⟩ : tx0 0 1 0 0 0 = t ∧ [] = rest := by
    have : aw3.q 0 = [tx0 0 1 0 0 0] := rfl
    rw [this] at q8
    injection q8 with a b
    exact ⟨a, b⟩
  have M8 := Lib.hid (M7.out.quiet hb8)
  clear e8 hb8 M7 q8
  have M8b := Lib.hid (M8.out.quiet ((Below.refl w8.heap.size w8).alloc (Nat.le_refl _) (.cells (txc ⟨tx0 0 1 0 0 0, A, c⟩) 36)))
  have F8 := Lib.hid (Bk.new w8 36 (txc ⟨tx0 0 1 0 0 0, A, c⟩))
  have K8 := Lib.hid (k8.below ((Below.refl w8.heap.size w8).alloc (Nat.le_refl _) (.cells (txc ⟨tx0 0 1 0 0 0, A, c⟩) 36)))
  clear k8
  go_wp2_with (fail)
  have e9 : aw3.a 1 + (aw3.q 1).length + 1 = 2 := by decide +kernel
  refine (next_in g 1 (by omega) aw3 _ M8b.out.x (by decide +kernel) (by decide +kernel) (by decide +kernel)).mono ?_
  rintro e w9 ⟨rfl, n9, rfl⟩
  rw [e9]
  clear e9
  go_wp2_with (fail)
  have M9 : Hid (AwS w g w2.heap.size (w2.heap.size + 1) aw3 ((w8.alloc (.cells (txc ⟨tx0 0 1 0 0 0, A, c⟩) 36)).drewN n9)) := M8b.out.quiet ⟨rfl, rfl, rfl, Nat.le_refl _, fun _ _ => rfl⟩
  have F9 : Hid (Bk ((w8.alloc (.cells (txc ⟨tx0 0 1 0 0 0, A, c⟩) 36)).drewN n9) w8.heap.size 36 (txc ⟨tx0 0 1 0 0 0, A, c⟩)) := F8.out.drewN n9
  have K9 : Hid (Wk (· = g) ((w8.alloc (.cells (txc ⟨tx0 0 1 0 0 0, A, c⟩) 36)).drewN n9) ⟨tx0 0 1 0 0 0, A, c⟩) := K8.out.below ⟨rfl, rfl, rfl, Nat.le_refl _, fun _ _ => rfl⟩
  have L8 : g < w8.heap.size := M8.out.x.lt
  clear M8 M8b F8 K8
  generalize (w8.alloc (.cells (txc ⟨tx0 0 1 0 0 0, A, c⟩) 36)).drewN n9 = w9 at *
  have e10 : (aw3.q 1).length = 1 := by decide +kernel
  refine (waiting_in g 1 (by omega) aw3 w9 M9.out.x).mono ?_
  rintro e w10 ⟨rfl, rfl⟩
  rw [e10]
  clear e10
  go_wp2_with (fail)
  refine (all_any g aw3 w10 M9.out.x (fun k hk => by rw [hk]; exact M9.out.x.lt) M9.out.ok).mono ?_
  rintro e w11 ⟨k11, l11, h11, A11, c11, r11, p11, rfl, t11, hh11⟩
  obtain ⟨rfl, rfl⟩ := r11.det p11 aw_run aw5_none
  have M11 := Lib.hid (M9.out.step k11 hh11 (aw_run.ok M9.out.ok))
  have T11 := Lib.hid t11
  have F11 := Lib.hid (F9.out.kp k11 (by omega))
  have K11 := Lib.hid (K9.out.kp k11 (fun _ e => e))
  have N8 : w8.heap.size ≠ g := by omega
  have A0 : Hid (AwL w g w2.heap.size (w2.heap.size + 1) w8.heap.size A11 A c11 c aw5 w11) := ⟨M11.out, T11.out, F11.out, K11.out, N8⟩
  clear k11 hh11 t11 F9 M9 r11 p11 M11 T11 F11 K11 K9 N8
  go_wp2_with (fail)
  refine (take_any g aw5 w11 A0.out.m.x (fun k hk => by rw [hk]; exact A0.out.m.x.lt) A0.out.m.ok).mono ?_
  rintro e w12 ⟨k12, hp12⟩
  rcases hp12 with ⟨_, rfl, hh12⟩ | ⟨i, t, rest, A', c', _, h12, _⟩
  rotate_left
  · rw [aw5_none] at h12; cases h12
  have A2 := Lib.hid ((A0.out.step k12 hh12 A0.out.m.ok).quiet ((Below.refl w12.heap.size w12).alloc (Nat.le_refl _) (.cells #[.int .i64 0, .int .i64 0, .int .i64 0, .int .i64 0, .int .i64 0, .slice none 0 0] 36)))
  clear k12 hh12 A0
  go_wp2_with (fail)
  generalize w12.alloc (.cells #[.int .i64 0, .int .i64 0, .int .i64 0, .int .i64 0, .int .i64 0, .slice none 0 0] 36) = w13 at *
  go_loopw [19] (fun i wr => ∃ s : Int, 6 ≤ s ∧ s ≤ 14 ∧ i = .int .i64 s ∧ AwL w g w2.heap.size (w2.heap.size + 1) w8.heap.size A11 A c11 c (aw6 (s - 6).toNat) wr) (fun i _ => (14 - intOf i).toNat)
  case atStart => exact ⟨6, by omega, by omega, rfl, A2.out⟩
  case round =>
    obtain ⟨s, hs6, hs14, rfl, hA⟩ := hrel
    have A3 := Lib.hid hA
    clear hA A2
    by_cases hlt : s < 14
    · go_wp2_with (fail)
      refine (put0 wr 2 s 9 0 (s - 1) A3.out.m.x A3.out.m.ok).mono ?_
      rintro e w14 ⟨k14, rfl, hh14⟩
      have A4 := Lib.hid (A3.out.step k14 hh14 (A3.out.m.ok.put _))
      rw [← aw6_step s hs6] at A4
      clear k14 hh14 A3
      go_wp2_with (fail)
      go_roundw
      case rel => exact ⟨s + 1, by omega, by omega, rfl, A4.out⟩
      case measure => simp [intOf]; omega
    · obtain rfl : s = 14 := by omega
      clear hlt hs6 hs14
      have A4 : Hid (AwL w g w2.heap.size (w2.heap.size + 1) w8.heap.size A11 A c11 c (aw6 8) wr) := A3.out
      clear A3
      go_wp2_with (fail)
      obtain ⟨v1, v2, v3, v4, v5⟩ := aw7_applied
      refine (put0 wr 2 14 9 0 13 A4.out.m.x A4.out.m.ok).mono ?_
      rintro e w14 ⟨k14, rfl, hh14⟩
      have A5 := Lib.hid (A4.out.step k14 hh14 (A4.out.m.ok.put _))
      clear k14 hh14 A4
      have ok5 := Lib.hid ((A5.out.m.ok))
      generalize (aw6 8).put (tx0 2 14 9 0 13) = D at *
      obtain ⟨D, dv⟩ := D
      have V1 := Lib.hid v1
      have V2 := Lib.hid v2
      have V3 := Lib.hid v3
      have V4 := Lib.hid v4
      have V5 := Lib.hid v5
      clear v1 v2 v3 v4 v5
      obtain rfl : dv = 7 := V1.out
      have A5 : Hid (AwL w g w2.heap.size (w2.heap.size + 1) w8.heap.size A11 A c11 c D w14) := A5.out
      obtain ⟨⟨p0, p1, p2, p3, p4, p5⟩, _⟩ := bk6 A5.out.f
      obtain ⟨⟨q0, q1, q2, q3, q4, q5⟩, _⟩ := bk6 A5.out.m.b
      go_wp2_with (fail)
      refine (same_any ⟨tx0 0 1 0 0 0, A, c⟩ ⟨tx0 0 1 0 0 0, none, 0⟩ w14 A5.out.k.sh.rd (wk_nil (S := (· = g)) _ _ _ _ _).sh.rd (by simp [tx0]) (by simp [tx0])).mono ?_
      rintro e w15 ⟨r15, rfl, hr15, hb15⟩
      obtain rfl : r15 = true := hr15 rfl
      have A6 := Lib.hid (A5.out.quiet hb15)
      clear hr15 hb15 A5 p0 p1 p2 p3 p4 p5 q0 q1 q2 q3 q4 q5
      obtain ⟨⟨p0, p1, p2, p3, p4, p5⟩, _⟩ := bk6 A6.out.m.a
      obtain ⟨⟨q0, q1, q2, q3, q4, q5⟩, _⟩ := bk6 A6.out.m.b
      go_wp2_with (fail)
      have Q := Lib.hid ((Below.refl w15.heap.size w15).alloc (Nat.le_refl _) (.cells #[.int .i64 0, .int .i64 1, .int .i64 0, .int .i64 0, .int .i64 0, .slice none 0 0, .int .i64 1, .int .i64 1, .int .i64 1, .int .i64 0, .int .i64 5, .slice none 0 0] 36))
      refine (txns_any (Q1 := [tx0 0 1 0 0 0, tx0 1 1 1 0 5]) (Q2 := [tx0 0 1 0 0 0, tx0 1 1 1 0 5]) _ (A6.out.t.below Q.out) (ts_two (· = g) w15 _ _ _ _ _ _ _ _ _ _ (by have := A6.out.m.x.lt; omega)) (by simp [tx0]) (by simp [tx0]) (by simp)).mono ?_
      rintro e w16 ⟨r16, rfl, hr16, hb16⟩
      obtain rfl : r16 = true := hr16 rfl
      have A7 := Lib.hid ((A6.out.quiet Q.out).quiet hb16)
      clear hr16 hb16 A6 p0 p1 p2 p3 p4 p5 q0 q1 q2 q3 q4 q5 Q
      go_wp2_with (fail)
      refine (applied_any g D w16 A7.out.m.x).mono ?_
      rintro e w17 ⟨rfl, hb17⟩
      rw [V2.out, V3.out, V4.out]
      have A8 := Lib.hid (A7.out.quiet hb17)
      clear hb17 A7
      have heq := run_eql_clock
      go_wp2_with (fail)
      refine (waiting_in g 2 (by omega) D w17 A8.out.m.x).mono ?_
      rintro e w18 ⟨rfl, rfl⟩
      rw [V5.out]
      go_wp2_with (fail)
      refine (next_out g 3 (by omega) _).mono ?_
      rintro e w19 ⟨rfl, rfl⟩
      go_wp2_with (fail)
      refine (waiting_out g (-1) (by omega) _).mono ?_
      rintro e w20 ⟨rfl, rfl⟩
      go_wp2_with (fail)
      go_ret
      exact ⟨rfl, A8.out.m.l⟩
end Go.Proofs.Ytiomdclelbjmmaa
