/-
  All of the hold, a range over a function: the iterator's walk.
-/
import Derived.Test.YtiomdclelbjmmaaHoldAll
set_option linter.unusedVariables false
set_option linter.unusedSimpArgs false
namespace Go.Proofs.Ytiomdclelbjmmaa
open Go.RowKit
attribute [local go_sem] Oper.semAt_some

/-- What a round leaves. -/
def AlY (S : Nat → Prop) (b : Nat) (h : Hk) (w : World) (l : Nat) (rc : Loop) (L : List Tv) (h1 : Hk) (x : Tv) (g : Nat) (e : Ending) (W' : World) : Prop :=
  e = .returned (.bool true) ∧ ∃ v', AlR S b h w l rc v' (L ++ [x]) h1 ((L ++ [x]).map Tv.t) g W' ∧ Bk W' g 36 (txc x) ∧ v'.ownBlock ≠ some g

/-- The word of a round. -/
def AlW (F : Fence) (n : Nat) (S : Nat → Prop) (b : Nat) (h : Hk) (w : World) (l : Nat) (rc : Loop) : Prop :=
  ∀ v L h1 x g W, AlR S b h w l rc v L h1 (L.map Tv.t ++ [x.t]) g W → w.heap.size + 3 < g → v.ownBlock ≠ some g → Bk W g 36 (txc x) → Wk (Sy S v w.heap.size l g) W x →
    YieldAt F n Try.prog l #[.agg #[.int .i64 x.t.o, .int .i64 x.t.s, .int .i64 x.t.d0, .int .i64 x.t.d1, .int .i64 x.t.d2, .slice x.A x.t.ws.length x.c]] W (AlY S b h w l rc L h1 x g)

theorem alq_false {S : Nat → Prop} {b : Nat} {h h1 : Hk} {w : World} {l : Nat} {rc : Loop} {v : Value} {L : List Tv} {g : Nat} {W : World} (m : AlR S b h w l rc v L h1 (L.map Tv.t) g W) (hSb : S b) (hn : h1.peek = none) (hg : w.heap.size + 3 < g) (hv : v.ownBlock ≠ some g) : AlQ S b h w l rc g false W :=
  ⟨v, L, h1, _, m, hg, hv, fun _ => ⟨rfl, hn⟩, fun e => by cases e⟩

theorem alq_true {S : Nat → Prop} {b : Nat} {h h1 : Hk} {w : World} {l : Nat} {rc : Loop} {v : Value} {L : List Tv} {g : Nat} {W : World} {x : Tv} (m : AlR S b h w l rc v L h1 (L.map Tv.t ++ [x.t]) g W) (hSb : S b) (hg : w.heap.size + 3 < g) (hv : v.ownBlock ≠ some g) (hb : Bk W g 36 (txc x)) (hw : Wk (Sy S v w.heap.size l g) W x) : AlQ S b h w l rc g true W :=
  ⟨v, L, h1, _, m, hg, hv, (fun e => by cases e), fun _ => ⟨x, rfl, hb, hw⟩⟩

set_option maxRecDepth 100000 in
set_option maxHeartbeats 4000000 in
theorem takes_in (F : Fence) (n : Nat) (hF : ∀ f, F.fn f) (hro : F.round = none) (hn : 1 ≤ n) {S : Nat → Prop} {b : Nat} {h : Hk} {w : World} {l : Nat} {rc : Loop} (hSb : S b) (hS : ∀ k, S k → k < w.heap.size)
    (hT : ∀ (S' : Nat → Prop) (h1 : Hk) (W : World), HAt 61 S' W b h1 → (∀ k, S' k → k < W.heap.size) → h1.ok → CallsIn F (n - 1) Try.prog 12 #[.pointer (some ⟨b, 0, none⟩)] W (TkPost 61 S' b h1 W))
    (hY : AlW F (n - 1) S b h w l rc) {v0 : Value} (W : World) (m : AlR S b h w l rc v0 [] h [] l W) :
    CallsIn F n Try.prog 40 #[.func (.yield l) #[] #[], .pointer (some ⟨w.heap.size + 1, 0, none⟩)] W (fun e W' => (∃ v, e = .returned v) ∧ AlE S b h w l rc W') := by
  have hF' := hF 40
  have HSb := Lib.hid hSb
  have HS := Lib.hid hS
  have HT := Lib.hid hT
  have HY := Lib.hid hY
  have HM := Lib.hid m
  have c0 : W.cell? ⟨w.heap.size + 1, 0, none⟩ = some (.pointer (some ⟨b, 0, none⟩)) := m.hbx.cell 0
  have hlt0 : ∀ k, Sy S v0 w.heap.size l l k → k < W.heap.size := m.lt hS m.llt
  have HL0 := Lib.hid hlt0
  clear hSb hS hT hY m hlt0
  refine callsIn_of_wp Try.func40 rfl hF' ?_ hro
  simp only [Try.ntmps40, List.size_toArray, List.length_cons, List.length_nil, Nat.reduceAdd, Nat.reduceSub, Array.replicate_succ, Array.replicate_zero, List.push_toArray, List.append_toArray, List.nil_append, List.cons_append]
  gi_wp2_with (gi_at_call 12; refine (HT.out _ _ _ HM.out.at_ HL0.out HM.out.ok).mono ?_; rintro e w1 hp; obtain ⟨hk1, ⟨rfl, m1, hpn⟩ | ⟨x, h2, rfl, m1, hw1, hcnt⟩⟩ := HM.out.took HSb.out hp <;> clear hp)
  · have c1 : Hid (AlQ S b h w l rc w1.heap.size false (w1.alloc (.cells #[.int .i64 0, .int .i64 0, .int .i64 0, .int .i64 0, .int .i64 0, .slice none 0 0] 36))) := alq_false (m1.alloc HSb.out _) HSb.out hpn m1.far.2.1 m1.far.2.2
    generalize w1.alloc (.cells #[.int .i64 0, .int .i64 0, .int .i64 0, .int .i64 0, .int .i64 0, .slice none 0 0] 36) = W1 at *
    gi_loopw [3, 4] (fun p is wr => p = .pointer (some ⟨w1.heap.size, 0, none⟩) ∧ is = .bool false ∧ wr = W1) (fun _ _ _ => 0)
    case atStart => exact ⟨rfl, rfl, rfl⟩
    case round =>
      obtain ⟨rfl, rfl, rfl⟩ := hrel
      gi_wp2
      go_end0
      obtain ⟨v, L, h3, rn, m3, _, _, hf, _⟩ := c1.out
      obtain ⟨rfl, hp⟩ := hf rfl
      exact ⟨⟨_, rfl⟩, v, L, h3, _, m3, hp⟩
  · have c1 : Hid (AlQ S b h w l rc w1.heap.size true (w1.alloc (.cells (txc x) 36))) := alq_true (L := []) (m1.alloc HSb.out _) HSb.out m1.far.2.1 m1.far.2.2 (Bk.new w1 _ _) (m1.news hw1 _)
    generalize hW1 : w1.alloc (.cells #[.int .i64 x.t.o, .int .i64 x.t.s, .int .i64 x.t.d0, .int .i64 x.t.d1, .int .i64 x.t.d2, .slice x.A x.t.ws.length x.c] 36) = W1 at *
    replace c1 : Hid (AlQ S b h w l rc w1.heap.size true W1) := by rw [← hW1]; exact c1.out
    clear hW1 m1 hw1 hcnt
    gi_loopw [3, 4] (fun p is wr => ∃ (g : Nat) (t : Bool), p = .pointer (some ⟨g, 0, none⟩) ∧ is = .bool t ∧ AlQ S b h w l rc g t wr) (fun _ is wr => lens wr b + isOne is)
    case atStart => exact ⟨_, true, rfl, rfl, c1.out⟩
    case round =>
      obtain ⟨g, t, rfl, rfl, v, L, h1, rn, m1, hg, hv, hf, ht⟩ := hrel
      cases t with
      | false =>
        obtain ⟨rfl, hp⟩ := hf rfl
        have m2 := Lib.hid m1
        clear m1 hf ht c1 HM
        gi_wp2
        go_end0
        exact ⟨⟨_, rfl⟩, v, L, h1, _, m2.out, hp⟩
      | true =>
        obtain ⟨y, rfl, hb, hw⟩ := ht rfl
        obtain ⟨⟨p0, p1, p2, p3, p4, p5⟩, _⟩ := bk6 hb
        have HLN := Lib.hid (lens_eq m1.at_)
        obtain ⟨yf, yt, ya, yb, hy, hR⟩ := HY.out _ _ _ _ _ _ m1 hg hv hb hw
        clear m1 hf ht hv hb hw c1 HM
        have HR := Lib.hid hR
        clear hR
        gi_wp2_with (refine HR.out.mono ?_; rintro e w5 ⟨rfl, v5, m5, hb5, hv5⟩; obtain ⟨⟨r0, r1, r2, r3, r4, r5⟩, _⟩ := bk6 hb5; have s0 : w5.cell? ⟨w.heap.size + 1, 0, none⟩ = some (.pointer (some ⟨b, 0, none⟩)) := m5.hbx.cell 0; have s1 : w.heap.size + 1 < w5.heap.size := m5.hbx.lt; have M5 := Lib.hid m5; have M6 : Hid (AlR S b h w l rc v5 (L ++ [y]) h1 ((L ++ [y]).map Tv.t) w5.heap.size (w5.alloc (.cells (txc y) 36))) := m5.alloc HSb.out _; have B6 : Hid (Bk (w5.alloc (.cells (txc y) 36)) w5.heap.size 36 (txc y)) := Bk.new w5 _ _; clear m5 hb5 hv5; clear HR)
        refine (HT.out _ _ (w5.alloc (.cells (txc y) 36)) M6.out.at_ (M6.out.lt HS.out (by simp)) M6.out.ok).mono ?_
        rintro e w7 hp
        obtain ⟨hk7, ⟨rfl, m7, hpn⟩ | ⟨z, h2, rfl, m7, hw7, hcnt⟩⟩ := M6.out.took HSb.out hp <;> (clear hp; have B7 : Hid (Bk w7 w5.heap.size 36 (txc y)) := B6.out.kp hk7 (by have := M5.out.far.2.1; have := M5.out.lb; omega); obtain ⟨⟨t0, t1, t2, t3, t4, t5⟩, u0, u1, u2, u3, u4, u5⟩ := bk6 B7.out; have M7 := Lib.hid m7; clear m7)
        · have Q7 : Hid (AlQ S b h w l rc w5.heap.size false (set6 w7 w5.heap.size (.int .i64 0) (.int .i64 0) (.int .i64 0) (.int .i64 0) (.int .i64 0) (.slice none 0 0))) := alq_false (M7.out.turn HSb.out M5.out.far.2.1 M5.out.far.2.2 _ _ _ _ _ _) HSb.out hpn M5.out.far.2.1 M5.out.far.2.2
          have LN7 := Lib.hid (lens_eq (M7.out.turn HSb.out M5.out.far.2.1 M5.out.far.2.2 (.int .i64 0) (.int .i64 0) (.int .i64 0) (.int .i64 0) (.int .i64 0) (.slice none 0 0)).at_)
          unfold set6 at Q7 LN7
          gi_wp2
          go_roundw
          case rel => exact ⟨_, false, rfl, rfl, Q7.out⟩
          case measure => rw [LN7.out, HLN.out]; simp [isOne]
        · have Q7 : Hid (AlQ S b h w l rc w5.heap.size true (set6 w7 w5.heap.size (.int .i64 z.t.o) (.int .i64 z.t.s) (.int .i64 z.t.d0) (.int .i64 z.t.d1) (.int .i64 z.t.d2) (.slice z.A z.t.ws.length z.c))) := alq_true (M7.out.turn HSb.out M5.out.far.2.1 M5.out.far.2.2 _ _ _ _ _ _) HSb.out M5.out.far.2.1 M5.out.far.2.2 (set6_bk B7.out _ _ _ _ _ _) (AlR.turns hw7 _ _ _ _ _ _)
          have LN7 := Lib.hid (lens_eq (M7.out.turn HSb.out M5.out.far.2.1 M5.out.far.2.2 (.int .i64 z.t.o) (.int .i64 z.t.s) (.int .i64 z.t.d0) (.int .i64 z.t.d1) (.int .i64 z.t.d2) (.slice z.A z.t.ws.length z.c)).at_)
          have HC := Lib.hid hcnt
          unfold set6 at Q7 LN7
          clear hcnt hw7
          gi_wp2
          go_roundw
          case rel => exact ⟨_, true, rfl, rfl, Q7.out⟩
          case measure => rw [LN7.out, HLN.out]; have := HC.out; simp [isOne]; omega
end Go.Proofs.Ytiomdclelbjmmaa
