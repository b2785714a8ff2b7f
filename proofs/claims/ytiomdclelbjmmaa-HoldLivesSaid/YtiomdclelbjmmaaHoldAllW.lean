/-
  All of the hold, a range over a function: its walk.
-/
import Derived.Test.YtiomdclelbjmmaaHoldTakes
set_option linter.unusedVariables false
set_option linter.unusedSimpArgs false
namespace Go.Proofs.Ytiomdclelbjmmaa
open Go.RowKit
attribute [local go_sem] Oper.semAt_some

/-- Here the walk halts. -/
structure Halt (p : Prop) : Prop where
  go : p

theorem takesbox_in (F : Fence) (n : Nat) (hF : ∀ f, F.fn f) (hro : F.round = none) (p : Option Addr) (w : World) :
    CallsIn F n Try.prog 33 #[.pointer p] w fun e w' => e = .returned (.func (.func 40) #[] #[.pointer (some ⟨w.heap.size, 0, none⟩)]) ∧ w' = w.alloc (.cells #[.pointer p] 27) := by
  refine callsIn_of_wp Try.func33 rfl (hF _) ?_ hro
  simp only [Try.ntmps33, List.size_toArray, List.length_cons, List.length_nil, Nat.reduceAdd, Nat.reduceSub, Array.replicate_succ, Array.replicate_zero, List.push_toArray, List.append_toArray, List.nil_append, List.cons_append]
  gi_wp2
  go_ret
  exact ⟨rfl, rfl⟩

set_option maxRecDepth 100000 in
set_option maxHeartbeats 4000000 in
theorem all_in (F : Fence) (n : Nat) (hF : ∀ f, F.fn f) (hro : F.round = none) (hn : 4 ≤ n) {S : Nat → Prop} {b : Nat} {h : Hk} {w : World} (H : HAt 61 S w b h) (hS : ∀ k, S k → k < w.heap.size) (hok : h.ok)
    (hT : ∀ (S' : Nat → Prop) (h1 : Hk) (W : World), HAt 61 S' W b h1 → (∀ k, S' k → k < W.heap.size) → h1.ok → CallsIn F (n - 1 - 1) Try.prog 12 #[.pointer (some ⟨b, 0, none⟩)] W (TkPost 61 S' b h1 W)) :
    CallsIn F n Try.prog 16 #[.pointer (some ⟨b, 0, none⟩)] w (AlPost 61 S b h w) := by
  have hF' := hF 16
  have h1' : 1 ≤ n := by omega
  refine callsIn_of_wp_marks Try.func16 rfl hF' ?_ hro
  simp only [Try.ntmps16, List.size_toArray, List.length_cons, List.length_nil, Nat.reduceAdd, Nat.reduceSub, Array.replicate_succ, Array.replicate_zero, List.push_toArray, List.append_toArray, List.nil_append, List.cons_append]
  gi_wp2_with (gi_at_call 33; refine (takesbox_in F (n - 1) hF hro _ _).mono ?_; rintro e w' ⟨rfl, rfl⟩)
  have hsz : ((w.alloc (.cells #[.slice none 0 0] 44)).alloc (.cells #[.pointer (some ⟨b, 0, none⟩)] 27)).heap.size = w.heap.size + 2 := by simp
  have HS := Lib.hid hS
  have HSb := Lib.hid H.mem
  have HO := Lib.hid hok
  have M0 := fun rc => alr_start H hok rc
  obtain ⟨i0, hi0, hz0, hz1, hz2⟩ := info_parts Try.infoTx
  have HT := Lib.hid hT
  clear H hS hok hT
  generalize hW0 : (w.alloc (.cells #[.slice none 0 0] 44)).alloc (.cells #[.pointer (some ⟨b, 0, none⟩)] 27) = W0 at *
  refine rangeFunc_at hro h1' (gf := 40) (lb := #[.pointer (some ⟨w.heap.size + 1, 0, none⟩)]) (by simp [Act.eval]) (hF _) (enters_of Try.func40 (by kernel_rfl) rfl) ?_
  intro fn hfn
  rw [hsz]
  generalize hrc : ({ state := .ready, pending := none, fn := fn, tmps := _, params := _, assign := _, body := _, defers := _ } : Loop) = rc
  have e1 := congrArg Loop.assign hrc.symm
  have e2 := congrArg Loop.body hrc.symm
  have e3 := congrArg Loop.params hrc.symm
  have e4 := congrArg Loop.tmps hrc.symm
  have e5 := congrArg Loop.state hrc.symm
  have e6 := congrArg Loop.pending hrc.symm
  have e7 := congrArg Loop.fn hrc.symm
  dsimp only at e1 e2 e3 e4 e5 e6 e7
  clear hrc
  refine (takes_in F (n - 1) hF hro (by omega) HSb.out HS.out HT.out ?hY _ (M0 rc)).mono ?done
  case hY =>
    intro v L h1 x g W m hg hv hb hw
    refine round_at e1 e2 e3 e4 m.rec_ e5 e6 rfl (hF _) ?_
    have hL24 : L.length ≤ 24 := by
      have h24 := cnt_le HO.out
      have hcl := Run.cnt m.run
      rw [List.length_append, List.length_map] at hcl
      omega
    have HX := Lib.hid hw
    have M2 := Lib.hid m
    have HB := Lib.hid hb
    have HV := Lib.hid hv
    clear m hb hw hv e1 e2 e3 e4 e5 e6 e7 M0 HT
    gi_wp2
    refine ⟨(M2.out.more HSb.out _).rec_, ?_⟩
    obtain ⟨mq, kq⟩ := (M2.out.more HSb.out (.cells (txc x) 36)).puts HSb.out { rc with state := .busy }
    have kn : Kp (· = w.heap.size + 3) W ((W.alloc (.cells (txc x) 36)).putObj (w.heap.size + 3) (.loop { rc with state := .busy })) := ((Kp.refl (· = w.heap.size + 3) W).alloc _).tr kq
    have bg := HB.out.kp kn (by omega)
    have bn := (Bk.new W 36 (txc x)).kp kq (by have := M2.out.far.2.1; omega)
    have wx := HX.out.ext kn (fun i _ e => .inr (.inr (.inr (.inl (.inl e))))) (fun i hi => .inl hi)
    clear kn kq
    generalize hW2 : (W.alloc (.cells #[.int .i64 x.t.o, .int .i64 x.t.s, .int .i64 x.t.d0, .int .i64 x.t.d1, .int .i64 x.t.d2, .slice x.A x.t.ws.length x.c] 36)).putObj (w.heap.size + 3) (.loop { rc with state := .busy }) = W2
    have MQ : Hid (AlR S b h w (w.heap.size + 3) { rc with state := .busy } v L h1 (L.map Tv.t ++ [x.t]) g W2) := by rw [← hW2]; exact mq
    have BG : Hid (Bk W2 g 36 (txc x)) := by rw [← hW2]; exact bg
    have BN : Hid (Bk W2 W.heap.size 36 (txc x)) := by rw [← hW2]; exact bn
    have WX : Hid (Wk (Sy S v w.heap.size (w.heap.size + 3) g) W2 x) := by rw [← hW2]; exact wx
    clear hW2 mq bg bn wx HX HB M2
    generalize hg2 : W.heap.size = g2 at *
    clear hg2
    have q0 : W2.cell? ⟨w.heap.size, 0, none⟩ = some v := MQ.out.box.cell 0
    obtain ⟨⟨t0, t1, t2, t3, t4, t5⟩, _⟩ := bk6 BN.out
    have hown := Lib.hid (own_new MQ.out.own ((Below.refl _ W2).alloc (Nat.le_refl _) (.cells (txc x) 36)))
    have hcy : Hid (Rd (W2.alloc (.cells (txc x) 36)) (some ⟨W2.heap.size, 0, none⟩) x.cells) := bk_rd (Bk.new W2 36 (txc x))
    have hsz2 := MQ.out.kp.size
    gi_wp2_with (gi_at_builtin; refine Halt.go ?_)
    refine ⟨?_⟩
    refine wpListIn_append_own_at _ rfl (.tmp 8) (.tmp 10) 44 rfl w.heap.size 36 i0 _ 6 64 Try.underlying44 hi0 hz0 hz1 hz2 rfl (by decide) v L.length (txs L) rfl hown.out ⟨W2.heap.size, 0, none⟩ 1 1 x.cells rfl rfl hcy.out.news (by intro u hu; simp [Tv.cells] at hu; rcases hu with rfl | rfl | rfl | rfl | rfl | rfl <;> rfl) (by simp only [maxLen]; omega) (by omega) (by simp; omega) ?_
    intro v' w4 ho hgr _ hv'; obtain ⟨A4, c4, rfl⟩ := own_shape ho; have hb4 : Hid (Bk w4 w.heap.size 44 #[v]) := bk_grown (MQ.out.box.alloc _) hgr MQ.out.ne_o; have r0 : w4.cell? ⟨w.heap.size, 0, none⟩ = some v := hb4.out.cell 0; have r1 := hb4.out.free 0; have HO4 := Lib.hid ho; have HG4 := Lib.hid hgr; have HV4 := Lib.hid hv'; clear ho hgr hv'
    gi_wp2
    obtain ⟨ma, ba, va⟩ := MQ.out.added HSb.out WX.out HV.out BG.out hg HO4.out HG4.out HV4.out
    exact ⟨ma.rec_, rfl, _, (ma.puts HSb.out rc).1, ba.kp (ma.puts HSb.out rc).2 (by omega), va⟩
  case done =>
    rintro e W ⟨⟨v0, rfl⟩, v, L, h1, g, m, hn⟩
    refine ⟨⟨_, rfl⟩, m.rec_, fun o => ?_⟩
    have mp := (m.puts HSb.out o).1
    have hbox : (W.putObj (w.heap.size + 3) (.loop o)).cell? ⟨w.heap.size, 0, none⟩ = some v := mp.box.cell 0
    have hK := mp.dfr
    have HF := fun o' => m.fin HSb.out HS.out hn o o'
    clear m mp
    gi_wp2
    refine ⟨by simp, .inl ⟨_, _, rfl, run_takeDeferred hK, ?_⟩⟩
    refine ⟨_, results_tmp rfl _ _ _, ?_⟩
    exact HF _

theorem all_any {S : Nat → Prop} (b : Nat) (h : Hk) (w : World) (H : HAt 61 S w b h) (hS : ∀ k, S k → k < w.heap.size) (hok : h.ok) :
    Calls Try.prog 16 #[.pointer (some ⟨b, 0, none⟩)] w (AlPost 61 S b h w) :=
  (callsIn_wide (n := 4)).1 (all_in Fence.wide 4 (fun _ => trivial) rfl (Nat.le_refl _) H hS hok (fun S' h1 W H1 hS1 hok1 => callsIn_wide.2 (take_any b h1 W H1 hS1 hok1)))
end Go.Proofs.Ytiomdclelbjmmaa
