/-
  Append of a slice that may be nil onto a row of the call's own, as a step of a region that draws its order; the document's Append where it lays bytes.
-/
import Derived.Test.YthblfkopofmdfaaDiskRefAppend
import Derived.Maps.AppendAt
import Derived.Deep.RegionLaw
set_option linter.unusedVariables false
set_option linter.unusedSimpArgs false
namespace Go.Proofs.Ythblfkopofmdfaa
open Go.RowKit

theorem rd_add {w : World} {ad : Addr} {xs : List Value} (h : Rd w (some ad) xs) : ∀ j u, xs[j]? = some u → w.cell? (ad.add j) = some u := h.news

theorem run_app {P : Program} (w : World) (base : Nat) (t ty e : TypeId) (i : TypeInfo) (z : Value) (size bytes : Nat) (ht : P.underlying t = some (.slice e)) (hi : P.info? e = some i) (hz : i.zero = some z)
    (hsize : i.size = size) (hby : i.bytes = bytes) (hzs : z.cells.size = size) (hsz : 0 < size) (v : Value) (n : Nat) (xs : List Value) (hown : w.ownsRow base e size v n xs)
    (A : Option Addr) (m c : Nat) (news : List Value) (hA : A = none → m = 0) (hl : news.length = m * size) (hnews : Rd w A news) (h1 : ∀ u ∈ news, u.oneCell' = true)
    (h63 : n + m ≤ maxLen) (hbytes : (n + m) * bytes ≤ 140737488355328) (hbase : base ≤ w.heap.size) :
    ∃ A' c' w', (Builtin.append_ #[t, t] ty #[v, .slice A m c]).run P w = .ok (.slice A' (n + m) c') w' ∧ w'.ownsRow base e size (.slice A' (n + m) c') (n + m) (xs ++ news) ∧ w.grownBy w' v.ownBlock := by
  cases A with
  | none =>
    obtain rfl := hA rfl
    obtain rfl : news = [] := List.eq_nil_of_length_eq_zero (by simpa using hl)
    obtain ⟨A', c', rfl⟩ := own_shape hown
    have hc : n ≤ c' := by
      rcases own_form hown with ⟨_, e1, _⟩ | ⟨g, cap, hv, _, _, e2, _⟩
      · omega
      · injection hv with _ _ hv; omega
    exact ⟨A', c', w, run_append_none w t e ty i ht hi A' n c' c hc, by simpa using hown, World.grownBy.refl w _⟩
  | some ad =>
    obtain ⟨v', w', hrun, h2, h3, _, _⟩ := run_append_own_at (P := P) w base t ty e i z size bytes ht hi hz hsize hby hzs hsz v n xs hown ad m c news hl hnews.news h1 h63 hbytes hbase
    obtain ⟨A', c', rfl⟩ := own_shape h2
    exact ⟨A', c', w', hrun, h2, h3⟩

theorem wp_app {P : Program} {w : World} {o : Oper} {a : Act} {K : Act → World → Prop} {Q : Exit → Act → World → Prop} (s x : Operand) (t : TypeId)
    (ho : o.op = .call { callee := .builtin .append, args := #[s, x], argTypes := #[t, t] })
    (base : Nat) (e : TypeId) (i : TypeInfo) (z : Value) (size bytes : Nat) (ht : P.underlying t = some (.slice e)) (hi : P.info? e = some i) (hz : i.zero = some z)
    (hsize : i.size = size) (hby : i.bytes = bytes) (hzs : z.cells.size = size) (hsz : 0 < size) (v : Value) (n : Nat) (xs : List Value) (hs : a.eval s = v) (hown : w.ownsRow base e size v n xs)
    (A : Option Addr) (m c : Nat) (news : List Value) (hx : a.eval x = .slice A m c) (hA : A = none → m = 0) (hl : news.length = m * size) (hnews : Rd w A news) (h1 : ∀ u ∈ news, u.oneCell' = true)
    (h63 : n + m ≤ maxLen) (hbytes : (n + m) * bytes ≤ 140737488355328) (hbase : base ≤ w.heap.size)
    (h : ∀ A' c' w', w'.ownsRow base e size (.slice A' (n + m) c') (n + m) (xs ++ news) → w.grownBy w' v.ownBlock → K (a.put o.dst (.slice A' (n + m) c')) w') : o.wp P a w K Q := by
  obtain ⟨A', c', w', hrun, h2, h3⟩ := run_app (P := P) w base t o.type e i z size bytes ht hi hz hsize hby hzs hsz v n xs hown A m c news hA hl hnews h1 h63 hbytes hbase
  unfold Oper.wp execOp
  simp only [ho, resolve, invoke, builtin, Sem.run_bind, Sem.run_pure, Result.andThen_ok, List.map_toArray, List.map_cons, List.map_nil, hs, hx, hrun]
  exact h A' c' w' h2 h3

theorem wpList_app {P : Program} {w : World} {ops : Array Oper} {rest : List Oper} {o : Oper} {a : Act} {Q : Exit → Act → World → Prop} (hgd : o.guard = none) (s x : Operand) (t : TypeId)
    (ho : o.op = .call { callee := .builtin .append, args := #[s, x], argTypes := #[t, t] })
    (base : Nat) (e : TypeId) (i : TypeInfo) (z : Value) (size bytes : Nat) (ht : P.underlying t = some (.slice e)) (hi : P.info? e = some i) (hz : i.zero = some z)
    (hsize : i.size = size) (hby : i.bytes = bytes) (hzs : z.cells.size = size) (hsz : 0 < size) (v : Value) (n : Nat) (xs : List Value) (hs : a.eval s = v) (hown : w.ownsRow base e size v n xs)
    (A : Option Addr) (m c : Nat) (news : List Value) (hx : a.eval x = .slice A m c) (hA : A = none → m = 0) (hl : news.length = m * size) (hnews : Rd w A news) (h1 : ∀ u ∈ news, u.oneCell' = true)
    (h63 : n + m ≤ maxLen) (hbytes : (n + m) * bytes ≤ 140737488355328) (hbase : base ≤ w.heap.size)
    (h : ∀ A' c' w', w'.ownsRow base e size (.slice A' (n + m) c') (n + m) (xs ++ news) → w.grownBy w' v.ownBlock → wpList P ops Q rest (a.put o.dst (.slice A' (n + m) c')) w') : wpList P ops Q (o :: rest) a w :=
  wpList_plain hgd fun _ hK => wp_app s x t ho base e i z size bytes ht hi hz hsize hby hzs hsz v n xs hs hown A m c news hx hA hl hnews h1 h63 hbytes hbase fun A' c' w' h2 h3 => hK _ _ (h A' c' w' h2 h3)

theorem step_app {P : Program} {w : World} {ops : Array Oper} {o : Oper} {a : Act} {K : Act → World → Prop} {Q : Exit → Act → World → Prop} {E : Prop} (hgd : o.guard = none) (s x : Operand) (t : TypeId)
    (ho : o.op = .call { callee := .builtin .append, args := #[s, x], argTypes := #[t, t] })
    (base : Nat) (e : TypeId) (i : TypeInfo) (z : Value) (size bytes : Nat) (ht : P.underlying t = some (.slice e)) (hi : P.info? e = some i) (hz : i.zero = some z)
    (hsize : i.size = size) (hby : i.bytes = bytes) (hzs : z.cells.size = size) (hsz : 0 < size) (v : Value) (n : Nat) (xs : List Value) (hs : a.eval s = v) (hown : w.ownsRow base e size v n xs)
    (A : Option Addr) (m c : Nat) (news : List Value) (hx : a.eval x = .slice A m c) (hA : A = none → m = 0) (hl : news.length = m * size) (hnews : Rd w A news) (h1 : ∀ u ∈ news, u.oneCell' = true)
    (h63 : n + m ≤ maxLen) (hbytes : (n + m) * bytes ≤ 140737488355328) (hbase : base ≤ w.heap.size)
    (h : ∀ A' c' w', w'.ownsRow base e size (.slice A' (n + m) c') (n + m) (xs ++ news) → w.grownBy w' v.ownBlock → K (a.put o.dst (.slice A' (n + m) c')) w') :
    if Region.wanted o (yielded ops a.tmps) = true then Oper.wp P o a w K Q else E := by
  have hw : Region.wanted o (yielded ops a.tmps) = true := by simp [Region.wanted, hgd]
  rw [if_pos hw]
  exact wp_app s x t ho base e i z size bytes ht hi hz hsize hby hzs hsz v n xs hs hown A m c news hx hA hl hnews h1 h63 hbytes hbase h

theorem bk_far {w : World} {b : Nat} {t : TypeId} {cs : Array Value} {j : Nat} {x : Value} (hk : Bk w b t cs) (q : w.cell? ⟨b, j, none⟩ = some x) (k : Nat) (o : Obj) : ((w.drewN k).alloc o).cell? ⟨b, j, none⟩ = some x := by
  have := ((hk.drewN k).alloc o).cell j
  rw [this, ← hk.cell j]
  exact q

/-- What Append of the document's disk leaves where it comes to its end. -/
theorem rappend_fin {B b i : Nat} {d : Dk} {cs : Array Value} {v : Value} {l : List Int} {w w1 w2 : World} (hB : B ≤ b) (hi : i < 64) (k1 : Kp (· = b) w w1) (hk : Bk w1 b 50 cs) (hc : Rs w1 B b d cs) (hb2 : Below w1.heap.size w1 w2)
    (ho : w2.ownsRow w1.heap.size 5 1 v l.length (bys l)) : RtPost B b { d with b := upd d.b i l } (.int .i64 0) w (.returned (.int .i64 0)) (w2.setCell ⟨b, i, none⟩ v) := by
  have h1 := hk.lt
  refine .of hB ((k1.tr (kp_below hb2)).set1 _ _) ((hk.below hb2 h1).put _ _) ?_
  refine Rs.putB ((hc.keep (kp_below hb2)).keep ((Kp.refl (· = b) w2).set1 _ _)) hi ?_
  exact ((own_fl (n := 0) ho h1).lower (by omega)).keep ((Kp.refl (· = b) w2).set1 _ _)

theorem below_drewN (B : Nat) (w : World) (k : Nat) : Below B w (w.drewN k) := ⟨rfl, rfl, rfl, Nat.le_refl _, fun _ _ => rfl⟩

theorem below_like {B : Nat} {w W W' : World} (h : Below B w W) (e1 : W'.heap = W.heap) (e2 : W'.os = W.os) (e3 : W'.tape = W.tape) (e4 : W'.output = W.output) : Below B w W' :=
  ⟨e2.trans h.os, e3.trans h.tape, e4.trans h.output, by rw [e1]; exact h.size, fun k hk => by rw [e1]; exact h.block k hk⟩

theorem app_new {w1 W0 W w2 : World} {r : Option Nat} (h : W.grownBy w2 r) (hb : Below w1.heap.size w1 W0) (hr : ∀ g, r = some g → w1.heap.size ≤ g) (e1 : W.heap = W0.heap) (e2 : W.os = W0.os) (e3 : W.tape = W0.tape) (e4 : W.output = W0.output) : Below w1.heap.size w1 w2 :=
  have hw := below_like hb e1 e2 e3 e4
  hw.grown h hw.size hr

theorem own_app0 {w : World} {B e : Nat} {A : Option Addr} {c : Nat} {l l' : List Int} (h : w.ownsRow B e 1 (.slice A (0 + l.length + l'.length) c) (0 + l.length + l'.length) ([] ++ bys l ++ bys l')) : w.ownsRow B e 1 (.slice A (l.length + l'.length) c) (l ++ l').length (bys (l ++ l')) := by
  rw [Nat.zero_add, List.nil_append] at h
  exact own_app h

set_option maxRecDepth 100000 in
set_option maxHeartbeats 4000000 in
theorem rappend_main (B b i : Nat) (hi : i < 64) (A : Option Addr) (c : Nat) (xs : List Int) (d : Dk) (hd : d.ok) (w : World) (h : RkAt w B b d) (h0 : d.step.2 = 0) (ht : (xs.length : Int) ≤ d.step.1.left) (hr : Rd w A (bys xs)) (hA : A = none → xs.length = 0) (hAb : ∀ g o, A = some ⟨g, o, none⟩ → bys xs ≠ [] → g ≠ b) (hx : xs.length ≤ 1048576) :
    Calls Try.prog 11 #[.pointer (some ⟨b, 0, none⟩), .int .i64 i, .slice A xs.length c] w (RtPost B b { d.step.1 with b := upd d.step.1.b i (d.step.1.b i ++ xs) } (.int .i64 0) w) := by
  have hs := rstep_any B b d hd w h
  have ho := d.step_ok hd
  have hge := h.ge
  rw [h0] at hs
  generalize d.step.1 = d' at *
  have HS := Lib.hid hs
  have HO := Lib.hid ho
  have HR := Lib.hid hr
  have HA := Lib.hid hA
  have HAb := Lib.hid hAb
  have t0 : decide (d'.left < (xs.length : Int)) = false := by simp; omega
  have hlen := ho.len hi
  obtain ⟨i0, hi0, hz0, hz1, hz2⟩ := info_parts Try.infoByte
  have HLx : Hid ((bys xs).length = xs.length * 1) := by unfold Hid; rw [bys_length, Nat.mul_one]
  clear h hs h0 hd ho ht hr hA hAb
  go_enter Try.func11, Try.ntmps11
  go_wp2_with (fail)
  refine (there_in i hi _).mono ?_
  rintro e w' ⟨rfl, rfl⟩
  go_wp2_with (fail)
  refine HS.out.mono ?_
  rintro e w1 ⟨rfl, k1, h1⟩
  have K1 := Lib.hid k1
  have H1 := Lib.hid h1
  clear k1 h1 HS
  go_wp2_with (fail)
  refine (rleft_any B b d' HO.out _ H1.out).mono ?_
  rintro e w1 ⟨rfl, rfl⟩
  obtain ⟨cs, hk, hc⟩ := H1.out.row
  obtain ⟨v, hv1, hv2⟩ := hc.files i hi
  obtain ⟨A1, c1, rfl, hr0, hr1, hr2, hr3⟩ := hv2.row
  have q0 : w1.cell? ⟨b, i, none⟩ = some (.slice A1 (d'.b i).length c1) := (hk.cell _).trans hv1
  have q1 := bk_far hk q0
  have f0 := hk.free i
  have hsz := hk.lt
  have HK := Lib.hid hk
  have HC := Lib.hid hc
  have HR1 := Lib.hid hr1
  have HR3 : Hid (A1 = none → (d'.b i).length = 0) := fun e => (hr3 e).1
  have HLb : Hid ((bys (d'.b i)).length = (d'.b i).length * 1) := by unfold Hid; rw [bys_length, Nat.mul_one]
  have hown : Hid ((w1.alloc (.cells #[] 5)).ownsRow w1.heap.size 5 1 (.slice (some ⟨w1.heap.size, 0, none⟩) 0 0) 0 []) := World.ownsRow_lit w1 #[] 0 (Nat.le_refl _) (by simp) rfl
  have HAl : Hid (Below w1.heap.size w1 (w1.alloc (.cells #[] 5))) := (Below.refl _ _).alloc (Nat.le_refl _) _
  have HRx : Hid (Rd w1 A (bys xs)) := rd_kp HR.out K1.out HAb.out
  clear hk hc hv1 hv2 hr1 hr2 hr3
  have hi2 : (i : Int) < 64 := by omega
  have hlt9 : (0 + (d'.b i).length) + xs.length ≤ 2097152 := by omega
  go_wp2_with (fail)
  go_region_law (first
    | (refine step_app rfl (.tmp 20) (.tmp 26) 32 rfl w1.heap.size 5 i0 _ 1 1 Try.underlying32 hi0 hz0 hz1 hz2 rfl (by decide) (.slice (some ⟨w1.heap.size, 0, none⟩) 0 0) 0 [] (by simp [Act.eval, Act.put]) (by exact hown.out) A1 (d'.b i).length c1 (bys (d'.b i)) (by simp [Act.eval, Act.put]) HR3.out HLb.out (by (exact HR1.out.below (below_like HAl.out rfl rfl rfl rfl))) (bys_one _) (by simp only [maxLen]; omega) (by omega) (by simp) ?_; intro A2 c2 w2 hown2 hgrow2; have HB2 := Lib.hid (app_new hgrow2 HAl.out (fun g hg => (own_ge hown.out g hg).1) rfl rfl rfl rfl); have HO2 := Lib.hid hown2; clear hown2 hgrow2)
    | (refine step_app rfl (.tmp 27) (.tmp 28) 32 rfl w1.heap.size 5 i0 _ 1 1 Try.underlying32 hi0 hz0 hz1 hz2 rfl (by decide) (.slice A2 (0 + (d'.b i).length) c2) (0 + (d'.b i).length) _ (by simp [Act.eval, Act.put]) (by exact HO2.out) A xs.length c (bys xs) (by simp [Act.eval, Act.put]) HA.out HLx.out (by (exact HRx.out.below HB2.out)) (bys_one _) (by simp only [maxLen]; omega) (by omega) (by (exact HB2.out.size)) ?_; intro A3 c3 w3 hown3 hgrow3; have HB3 := Lib.hid (HB2.out.grown hgrow3 HB2.out.size (fun g hg => (own_ge HO2.out g hg).1)); obtain ⟨z0, z1⟩ := append_z HK.out HB3.out q0; have HO3 := Lib.hid hown3; clear hown3 hgrow3))
  all_goals go_wp2_with (fail)
  all_goals go_ret
  all_goals exact rappend_fin hge hi K1.out HK.out HC.out HB3.out (own_app0 HO3.out)
end Go.Proofs.Ythblfkopofmdfaa
