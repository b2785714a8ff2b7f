/-
  The walks through package mark: Find, slices.Clone, Add.
-/
import Derived.Test.YtfeamnhhohineaaMarkWalks
import Derived.Deep.RegionLaw
import Derived.StillTailTactics
set_option linter.unusedVariables false
set_option linter.unusedSimpArgs false
namespace Go.Proofs.Ytfeamnhhohineaa
open Go.RowKit

def mv (m : Mk) : Value := .agg #[.int .i64 m.s, .int .i64 m.f, .int .i64 m.p]

def FindPost (l : List Mk) (q : Int) (w : World) (e : Ending) (w' : World) : Prop :=
  Below w.heap.size w w' ∧ ((Mk.Place l q 0 ∧ e = .returned (.tuple #[mv ⟨0, 0, 0⟩, .bool false])) ∨ ∃ (r : Nat) (h : r < l.length), Mk.Place l q (r + 1) ∧ e = .returned (.tuple #[mv l[r], .bool true]))

theorem own_shape {w : World} {B e size n : Nat} {v : Value} {xs : List Value} (h : w.ownsRow B e size v n xs) : ∃ A c, v = .slice A n c := by
  rcases own_form h with ⟨rfl, h0, _⟩ | ⟨g, cap, rfl, _⟩
  · exact ⟨none, 0, by rw [h0]⟩
  · exact ⟨_, cap, rfl⟩

set_option maxRecDepth 100000 in
set_option maxHeartbeats 1000000 in
theorem find_any (B b : Nat) (l : List Mk) (last q : Int) (w : World) (h : MkAt w B b l last) (hu : Mk.Up l) (hn : l.length ≤ 4611686018427387903) :
    Calls Try.prog 7 #[.pointer (some ⟨b, 0, none⟩), .int .i64 q] w (FindPost l q w) := by
  obtain ⟨v, hbk, hown⟩ := h.row
  obtain ⟨A, c, rfl⟩ := own_shape hown
  have hlt := hbk.lt
  have HB := Lib.hid hbk
  have HO := Lib.hid hown
  have HU := Lib.hid hu
  have HM := Lib.hid h
  clear hbk hown hu h
  go_enter Try.func7, Try.ntmps7
  go_wp2_with (fail)
  have HM2 : Hid (∀ o, MkAt (w.alloc o) B b l last) := fun o => ⟨HM.out.ge, _, HB.out.alloc o, own_new HO.out ((Below.refl _ _).alloc (Nat.le_refl _) _)⟩
  refine (place_any B b l last q _ (HM2.out _) HU.out hn).mono ?_
  rintro e w1 ⟨r, rfl, hb, hP⟩
  have hbb : Below w.heap.size w w1 := ((Below.refl _ _).alloc (Nat.le_refl _) _).trans (hb.mono (by simp))
  have hk : Bk w1 w.heap.size 29 #[.int .i64 0, .int .i64 0, .int .i64 0] := (Bk.new _ _ _).below hb (by simp)
  have k0 : w1.cell? ⟨w.heap.size, 0, none⟩ = some (.int .i64 0) := hk.cell 0
  have k1 : w1.cell? ⟨w.heap.size, 1, none⟩ = some (.int .i64 0) := hk.cell 1
  have k2 : w1.cell? ⟨w.heap.size, 2, none⟩ = some (.int .i64 0) := hk.cell 2
  have f0 := hk.free 0
  have f1 := hk.free 1
  have f2 := hk.free 2
  have hsz : w.heap.size < w1.heap.size := hk.lt
  cases r with
  | zero =>
    have HP := Lib.hid hP
    clear hP
    go_wp2_with (fail)
    have hk' : Bk (((w1.setCell ⟨w.heap.size, 0, none⟩ (.int .i64 0)).setCell ⟨w.heap.size, 1, none⟩ (.int .i64 0)).setCell ⟨w.heap.size, 2, none⟩ (.int .i64 0)) w.heap.size 29 #[.int .i64 0, .int .i64 0, .int .i64 0] := ((hk.put 0 _).put 1 _).put 2 _
    have q0 := hk'.cell 0
    have q1 := hk'.cell 1
    have q2 := hk'.cell 2
    refine bodyPost_ret (v := .tuple #[mv ⟨0, 0, 0⟩, .bool false]) (by simp [results, Try.results7, go_sem, mv, q0, q1, q2]) rfl ⟨?_, .inl ⟨HP.out, rfl⟩⟩
    exact ((hbb.setCell (Nat.le_refl _) _).setCell (Nat.le_refl _) _).setCell (Nat.le_refl _) _
  | succ r =>
    have hr := hP.1
    have HP := Lib.hid hP
    clear hP
    rcases own_form HO.out with ⟨_, e, _⟩ | ⟨g, cap, hv, hg, hgl, hnc, hcm⟩
    · omega
    · injection hv with hA _ hc
      subst hA; subst hc
      obtain ⟨p0, p1, p2⟩ := Mk.cells_at l r (by omega)
      have HO1 : w1.ownsRow B 29 3 (.slice (some ⟨g, 0, none⟩) l.length c) l.length (Mk.cells l) := own_new HO.out hbb
      have g0 : w1.cell? ⟨g, r * 3, none⟩ = some (.int .i64 l[r].s) := (HO1.cellAt _ (by omega)).trans p0
      have g1 : w1.cell? ⟨g, r * 3 + 1, none⟩ = some (.int .i64 l[r].f) := (HO1.cellAt _ (by omega)).trans p1
      have g2 : w1.cell? ⟨g, r * 3 + 2, none⟩ = some (.int .i64 l[r].p) := (HO1.cellAt _ (by omega)).trans p2
      have eb : w1.cell? ⟨b, 0, none⟩ = some (.slice (some ⟨g, 0, none⟩) l.length c) := (HB.out.below hbb hlt).cell 0
      have hr0 : (((r + 1 : Nat) : Int) == 0) = false := by simp; omega
      generalize hm : l[r] = m at *
      have Hm := Lib.hid hm
      clear hm p0 p1 p2 HO1
      go_wp2_with (fail)
      have hk' : Bk (((w1.setCell ⟨w.heap.size, 0, none⟩ (.int .i64 m.s)).setCell ⟨w.heap.size, 1, none⟩ (.int .i64 m.f)).setCell ⟨w.heap.size, 2, none⟩ (.int .i64 m.p)) w.heap.size 29 #[.int .i64 m.s, .int .i64 m.f, .int .i64 m.p] := ((hk.put 0 _).put 1 _).put 2 _
      have q0 := hk'.cell 0
      have q1 := hk'.cell 1
      have q2 := hk'.cell 2
      refine bodyPost_ret (v := .tuple #[mv m, .bool true]) (by simp [results, Try.results7, go_sem, mv, q0, q1, q2]) rfl ⟨?_, .inr ⟨r, by omega, HP.out, by rw [Hm.out]⟩⟩
      exact ((hbb.setCell (Nat.le_refl _) _).setCell (Nat.le_refl _) _).setCell (Nat.le_refl _) _

theorem Try.infoMark : (Try.prog.info? 29).map (fun i => (i.zero, i.size, i.bytes)) = some (some (.agg #[.int .i64 0, .int .i64 0, .int .i64 0]), 3, 24) := by kernel_rfl

set_option maxRecDepth 100000 in
set_option maxHeartbeats 1000000 in
/-- slices.Clone: a row of the call's own that shows the same. -/
theorem clone_any (A : Option Addr) (c : Nat) (l : List Mk) (w : World) (h : Rd w A (Mk.cells l)) (h0 : A = none → l.length = 0) (hn : l.length ≤ 1000000) :
    Calls Try.prog 17 #[.slice A l.length c] w fun e w' => ∃ v, e = .returned v ∧ w'.ownsRow w.heap.size 29 3 v l.length (Mk.cells l) ∧ Below w.heap.size w w' := by
  obtain ⟨i0, hi0, hz0, hz1, hz2⟩ := info_parts Try.infoMark
  have hnil : ∀ (w : World) (a : Option Addr) (n c n' c' : Nat), (binOp .eql 40 (.slice a n c) (.slice none n' c')).run Try.prog w = .ok (.bool a.isNone) w := fun w a n c n' c' => Lib.run_eql_slice_nil w _ _ a n c n' c' Try.underlying40
  cases A with
  | none =>
    obtain rfl : l = [] := List.eq_nil_of_length_eq_zero (h0 rfl)
    clear h h0
    go_enter Try.func17, Try.ntmps17
    go_wp2_with (fail)
    go_ret
    exact ⟨_, rfl, ⟨rfl, .inl ⟨rfl, rfl⟩⟩, Below.refl _ _⟩
  | some ad =>
    have HR := Lib.hid h
    clear h h0
    have hown : Hid ((w.alloc (.cells #[] 29)).ownsRow w.heap.size 29 3 (.slice (some ⟨w.heap.size, 0, none⟩) 0 0) 0 []) := World.ownsRow_lit w #[] 0 (Nat.le_refl _) (by simp) rfl
    have hnews : Hid (∀ j u, (Mk.cells l)[j]? = some u → (w.alloc (.cells #[] 29)).cell? (ad.add j) = some u) := (HR.out.below ((Below.refl _ _).alloc (Nat.le_refl _) _)).news
    have hlen := Mk.cells_length l
    have HLen := Lib.hid hlen
    clear hlen
    go_enter Try.func17, Try.ntmps17
    go_wp2_with (at_builtin; refine wpList_append_own _ rfl (.tmp 5) (.tmp 6) 40 rfl w.heap.size 29 i0 _ 3 24 Try.underlying40 hi0 hz0 hz1 hz2 rfl (by decide) _ 0 [] rfl hown.out ad l.length c (Mk.cells l) rfl HLen.out hnews.out (Mk.cells_one l) (by simp only [maxLen]; omega) (by omega) (by simp) ?_; intro v' w1 hown' hgrow _)
    go_ret
    refine ⟨_, rfl, by simpa using hown', ((Below.refl _ _).alloc (Nat.le_refl _) _).grown hgrow (by simp) (fun k hk => ?_)⟩
    exact (own_ge hown.out k hk).1

/-- What Add leaves. -/
def AddPost (B b : Nat) (l : List Mk) (last : Int) (r : Bool) (c : Int) (w : World) (e : Ending) (w' : World) : Prop :=
  e = .returned (.tuple #[.bool r, .int .i64 c]) ∧ Below B w w' ∧ MkAt w' B b l last ∧ w.heap.size ≤ w'.heap.size

def okMk (m : Mk) : Prop := 1 ≤ m.s ∧ m.s ≤ 4611686018427387903 ∧ 0 ≤ m.f ∧ m.f < 64 ∧ 0 ≤ m.p

/-- What the marks say of the test on the last one: skip, or mark. -/
def Near (l : List Mk) (m : Mk) : Prop := ∃ (h : 0 < l.length), (l[l.length - 1]).f = m.f ∧ m.s - (l[l.length - 1]).s < 2

/-- The index behind the number is laid. -/
theorem mk_last {w : World} {B b : Nat} {l : List Mk} {last s : Int} {A : Option Addr} {c : Nat} {o : Obj} (n : Nat)
    (HB : Bk w b 44 #[.slice A l.length c, .int .i64 last]) (HO : w.ownsRow B 29 3 (.slice A l.length c) l.length (Mk.cells l)) :
    Bk (((w.alloc o).drewN n).setCell ⟨b, 1, none⟩ (.int .i64 s)) b 44 #[.slice A l.length c, .int .i64 s] ∧
    World.ownsRow (((w.alloc o).drewN n).setCell ⟨b, 1, none⟩ (.int .i64 s)) B 29 3 (.slice A l.length c) l.length (Mk.cells l) ∧
    Kp (· = b) w (((w.alloc o).drewN n).setCell ⟨b, 1, none⟩ (.int .i64 s)) ∧
    w.heap.size < (((w.alloc o).drewN n).setCell ⟨b, 1, none⟩ (.int .i64 s)).heap.size :=
  ⟨((HB.alloc _).drewN _).put 1 _, own_kp HO ((((Kp.refl (· = b) w).alloc _).drewN n).set1 1 _) (fun g' hg' e => own_ne_bk HO HB (by decide) (by rw [hg', e])), (((Kp.refl (· = b) w).alloc _).drewN n).set1 1 _, by simp⟩

theorem mk_box {w : World} {b n : Nat} {t : TypeId} {cs : Array Value} {u : Value} (h : b < w.heap.size) : Bk (((w.alloc (.cells cs t)).drewN n).setCell ⟨b, 1, none⟩ u) w.heap.size t cs :=
  ((Bk.new w _ _).drewN n).far (p := ⟨b, 1, none⟩) (by simp; omega) _

theorem mk_cells {w : World} {B b : Nat} {l : List Mk} {A : Option Addr} {c : Nat} (HO : w.ownsRow B 29 3 (.slice A l.length c) l.length (Mk.cells l)) (h : 0 < l.length) :
    ∃ g, A = some ⟨g, 0, none⟩ ∧ w.cell? ⟨g, (l.length - 1) * 3, none⟩ = some (.int .i64 (l[l.length - 1]).s) ∧ w.cell? ⟨g, (l.length - 1) * 3 + 1, none⟩ = some (.int .i64 (l[l.length - 1]).f) := by
  rcases own_form HO with ⟨_, e, _⟩ | ⟨g, cap, hv, hg', hgl, hnc, hcm⟩
  · omega
  · injection hv with hA _ hc
    subst hA; subst hc
    obtain ⟨p0, p1, _⟩ := Mk.cells_at l (l.length - 1) (by omega)
    exact ⟨g, rfl, (HO.cellAt _ (by omega)).trans p0, (HO.cellAt _ (by omega)).trans p1⟩

theorem add_fin {B b : Nat} {l : List Mk} {A : Option Addr} {c : Nat} {ms mf mp : Int} {w W1 w' : World} {k g cap : Nat} {o : Obj} (hB : B ≤ b) (hBw : b < w.heap.size) (h1 : Kp (· = b) w W1)
    (hown : W1.ownsRow B 29 3 (.slice A l.length c) l.length (Mk.cells l)) (zk : Bk w' b 44 #[.slice A l.length c, .int .i64 ms])
    (hown' : w'.ownsRow B 29 3 (.slice (some ⟨g, 0, none⟩) (l.length + 1) cap) (l.length + 1) (Mk.cells l ++ [.int .i64 ms, .int .i64 mf, .int .i64 mp]))
    (hgrow : ((W1.drewN k).alloc o).grownBy w' (Value.slice A l.length c).ownBlock) :
    AddPost B b (l ++ [⟨ms, mf, mp⟩]) ms true 0 w (.returned (.tuple #[.bool true, .int .i64 0])) (w'.setCell ⟨b, 0, none⟩ (.slice (some ⟨g, 0, none⟩) (l.length + 1) cap)) := by
  have hs1 := h1.size
  have hs2 := hgrow.size
  simp at hs2
  refine ⟨rfl, ?_, ⟨hB, .slice (some ⟨g, 0, none⟩) (l.length + 1) cap, zk.put 0 _, ?_⟩, by simp; omega⟩
  · have hb1 : Below B w W1 := h1.below (fun i hi e => by omega) (by omega)
    have hb0 : Below B W1 (W1.drewN k) := ⟨rfl, rfl, rfl, Nat.le_refl _, fun _ _ => rfl⟩
    have hb2 : Below B W1 ((W1.drewN k).alloc o) := hb0.alloc (by show B ≤ W1.heap.size; omega) o
    exact ((hb1.trans hb2).grown hgrow (by simp; omega) (fun g' hg' => (own_ge hown g' hg').1)).setCell hB _
  · have hl : (l ++ [(⟨ms, mf, mp⟩ : Mk)]).length = l.length + 1 := by simp
    rw [hl, Mk.cells_append]
    exact own_kp hown' ((Kp.refl (· = b) w').set1 0 _) (fun g' hg' e => own_ne_bk hown' zk (by decide) (by rw [hg', e]))

theorem news3 {w : World} {g : Nat} {t : TypeId} {x y z : Value} (h : Bk w g t #[x, y, z]) : ∀ j u, [x, y, z][j]? = some u → w.cell? ((⟨g, 0, none⟩ : Addr).add j) = some u := by
  intro j u hu
  have e : (⟨g, 0, none⟩ : Addr).add j = ⟨g, j, none⟩ := by unfold Addr.add; split <;> simp_all
  rw [e, h.cell j]
  simpa using hu

set_option maxRecDepth 100000 in
set_option maxHeartbeats 2000000 in
theorem add_new (B b : Nat) (l : List Mk) (last : Int) (ms mf mp : Int) (w : World) (h : MkAt w B b l last) (hn : l.length ≤ 1000000) (hm : okMk ⟨ms, mf, mp⟩) (hg : last < ms) (hl : ¬ Near l ⟨ms, mf, mp⟩) (hr : ∀ m ∈ l, 0 ≤ m.s ∧ m.s ≤ last) :
    Calls Try.prog 6 #[.pointer (some ⟨b, 0, none⟩), mv ⟨ms, mf, mp⟩] w (AddPost B b (l ++ [⟨ms, mf, mp⟩]) ms true 0 w) := by
  obtain ⟨v, hbk, hown⟩ := h.row
  obtain ⟨A, c, rfl⟩ := own_shape hown
  obtain ⟨m1, m2, m3, m4, m5⟩ := hm
  have hlt := hbk.lt
  have eb : w.cell? ⟨b, 0, none⟩ = some (.slice A l.length c) := hbk.cell 0
  have eb1 : w.cell? ⟨b, 1, none⟩ = some (.int .i64 last) := hbk.cell 1
  have fb0 := hbk.free 0
  have fb1 := hbk.free 1
  have HB := Lib.hid hbk
  have HO := Lib.hid hown
  have HM := Lib.hid h
  dsimp only at m1 m2 m3 m4 m5
  have d1 : decide (ms < 1) = false := by simp; omega
  have d2 : decide (4611686018427387903 < ms) = false := by simp; omega
  have d3 : decide (mf < 0) = false := by simp; omega
  have d4 : decide (64 ≤ mf) = false := by simp; omega
  have d5 : decide (mp < 0) = false := by simp; omega
  have d6 : decide (ms ≤ last) = false := by simp; omega
  have hlt1 : b < w.heap.size + 1 := by omega
  have hcase : l.length = 0 ∨ ∃ (g : Nat) (mz : Mk), 0 < l.length ∧ A = some ⟨g, 0, none⟩ ∧ (∀ (w' : World) , w'.ownsRow B 29 3 (.slice A l.length c) l.length (Mk.cells l) → w'.cell? ⟨g, (l.length - 1) * 3, none⟩ = some (.int .i64 mz.s) ∧ w'.cell? ⟨g, (l.length - 1) * 3 + 1, none⟩ = some (.int .i64 mz.f)) ∧ (0 ≤ mz.s ∧ mz.s ≤ ms) ∧ ((mz.f == mf) = false ∨ ((mz.f == mf) = true ∧ decide (ms - mz.s < 2) = false)) := by
    rcases Nat.eq_zero_or_pos l.length with h0 | h0
    · exact .inl h0
    · right
      obtain ⟨g, hA, _, _⟩ := mk_cells (b := b) hown h0
      have hb := hr _ (List.getElem_mem (show l.length - 1 < l.length by omega))
      refine ⟨g, l[l.length - 1], h0, hA, fun w' hw' => ?_, ⟨hb.1, by omega⟩, ?_⟩
      · obtain ⟨g', hA', q1, q2⟩ := mk_cells (b := b) hw' h0
        rw [hA] at hA'
        injection hA' with hA'
        injection hA' with hA'
        subst hA'
        exact ⟨q1, q2⟩
      · by_cases c1 : (l[l.length - 1]).f = mf
        · right
          refine ⟨by simpa using c1, ?_⟩
          simp only [decide_eq_false_iff_not]
          intro c2
          exact hl ⟨h0, c1, c2⟩
        · left
          simpa using c1
  clear hbk hown h hl hg hr
  unfold mv
  rcases hcase with h0 | ⟨g, mz, h0, rfl, hcell, ⟨z1, z2⟩, hf | ⟨hf, hs⟩⟩
  · have hlz : decide (0 < l.length) = false := decide_eq_false (by omega)
    have HL0 := Lib.hid h0
    clear h0
    go_enter Try.func6, Try.ntmps6
    go_wp2_with (fail)
    go_quiet (fail)
    go_wp2_with (fail)
    obtain ⟨G1, G2, G3, G4⟩ := mk_last (s := ms) (o := .cells #[.int .i64 ms, .int .i64 mf, .int .i64 mp] 29) nq HB.out HO.out
    have G5 : Bk (((w.alloc (.cells #[.int .i64 ms, .int .i64 mf, .int .i64 mp] 29)).drewN nq).setCell ⟨b, 1, none⟩ (.int .i64 ms)) w.heap.size _ _ := mk_box hlt
    generalize (((w.alloc (.cells #[.int .i64 ms, .int .i64 mf, .int .i64 mp] 29)).drewN nq).setCell ⟨b, 1, none⟩ (.int .i64 ms)) = W1 at *
    have F1 := Lib.hid G1
    have F2 := Lib.hid G2
    have F3 := Lib.hid G3
    have F5 := Lib.hid G5
    clear G1 G2 G3 G5
    have q0 : W1.cell? ⟨b, 0, none⟩ = some (.slice A l.length c) := F1.out.cell 0
    have q1 : W1.cell? ⟨w.heap.size, 0, none⟩ = some (.int .i64 ms) := F5.out.cell 0
    have q2 : W1.cell? ⟨w.heap.size, 1, none⟩ = some (.int .i64 mf) := F5.out.cell 1
    have q3 : W1.cell? ⟨w.heap.size, 2, none⟩ = some (.int .i64 mp) := F5.out.cell 2
    go_quiet (fail)
    go_wp2_with (fail)
    obtain ⟨i0, hi0, hz0, hz1, hz2⟩ := info_parts Try.infoMark
    have hBb := HM.out.ge
    have hbW := F1.out.lt
    have q0' : ∀ (k : Nat) (o : Obj), ((W1.drewN k).alloc o).cell? ⟨b, 0, none⟩ = some (.slice A l.length c) := fun k o => ((F1.out.drewN k).alloc o).cell 0
    have hnob : (Value.slice A l.length c).ownBlock ≠ some b := own_ne_bk F2.out F1.out (by decide)
    go_region_law (first
      | (go_loud (refine step_append_lies _ rfl (.tmp 84) (.tmp 86) 40 rfl B 29 i0 _ 3 24 Try.underlying40 hi0 hz0 hz1 hz2 rfl (by decide) (.slice A l.length c) l.length (Mk.cells l) (by simp [Act.eval, Act.put]) (by go_must (exact own_new (own_drewN F2.out _) ((Below.refl _ _).alloc (Nat.le_refl _) _))) ⟨W1.heap.size, 0, none⟩ 1 1 [.int .i64 ms, .int .i64 mf, .int .i64 mp] (by simp [Act.eval, Act.put]) rfl (by go_must (exact news3 (Bk.new (W1.drewN _) _ _))) (by intro u hu; simp at hu; rcases hu with rfl | rfl | rfl <;> rfl) (by decide) (by simp only [maxLen]; omega) (by omega) (by simp; omega) _ rfl ?_); intro g cap w' hown' hgrow hor hlt'; have zk : Bk w' b 44 #[.slice A l.length c, .int .i64 ms] := bk_grown (((F1.out.drewN _).alloc _)) hgrow hnob; have z0 : w'.cell? ⟨b, 0, none⟩ = some (.slice A l.length c) := zk.cell 0; have z1 := zk.free 0))
    all_goals go_wp2_with (fail)
    all_goals go_ret2
    all_goals exact add_fin hBb hlt F3.out F2.out zk hown' hgrow
  · have HC := Lib.hid hcell
    clear hcell
    go_enter Try.func6, Try.ntmps6
    go_wp2_with (fail)
    go_quiet (fail)
    go_wp2_with (fail)
    obtain ⟨G1, G2, G3, G4⟩ := mk_last (s := ms) (o := .cells #[.int .i64 ms, .int .i64 mf, .int .i64 mp] 29) nq HB.out HO.out
    have G5 : Bk (((w.alloc (.cells #[.int .i64 ms, .int .i64 mf, .int .i64 mp] 29)).drewN nq).setCell ⟨b, 1, none⟩ (.int .i64 ms)) w.heap.size _ _ := mk_box hlt
    generalize (((w.alloc (.cells #[.int .i64 ms, .int .i64 mf, .int .i64 mp] 29)).drewN nq).setCell ⟨b, 1, none⟩ (.int .i64 ms)) = W1 at *
    have F1 := Lib.hid G1
    have F2 := Lib.hid G2
    have F3 := Lib.hid G3
    have F5 := Lib.hid G5
    clear G1 G2 G3 G5
    have q0 : W1.cell? ⟨b, 0, none⟩ = some (.slice (some ⟨g, 0, none⟩) l.length c) := F1.out.cell 0
    have q1 : W1.cell? ⟨w.heap.size, 0, none⟩ = some (.int .i64 ms) := F5.out.cell 0
    have q2 : W1.cell? ⟨w.heap.size, 1, none⟩ = some (.int .i64 mf) := F5.out.cell 1
    have q3 : W1.cell? ⟨w.heap.size, 2, none⟩ = some (.int .i64 mp) := F5.out.cell 2
    obtain ⟨q4, q5⟩ := HC.out W1 F2.out
    go_quiet (fail)
    go_wp2_with (fail)
    obtain ⟨i0, hi0, hz0, hz1, hz2⟩ := info_parts Try.infoMark
    have hBb := HM.out.ge
    have hbW := F1.out.lt
    have q0' : ∀ (k : Nat) (o : Obj), ((W1.drewN k).alloc o).cell? ⟨b, 0, none⟩ = some (.slice (some ⟨g, 0, none⟩) l.length c) := fun k o => ((F1.out.drewN k).alloc o).cell 0
    have hnob : (Value.slice (some ⟨g, 0, none⟩) l.length c).ownBlock ≠ some b := own_ne_bk F2.out F1.out (by decide)
    go_region_law (first
      | (go_loud (refine step_append_lies _ rfl (.tmp 84) (.tmp 86) 40 rfl B 29 i0 _ 3 24 Try.underlying40 hi0 hz0 hz1 hz2 rfl (by decide) (.slice (some ⟨g, 0, none⟩) l.length c) l.length (Mk.cells l) (by simp [Act.eval, Act.put]) (by go_must (exact own_new (own_drewN F2.out _) ((Below.refl _ _).alloc (Nat.le_refl _) _))) ⟨W1.heap.size, 0, none⟩ 1 1 [.int .i64 ms, .int .i64 mf, .int .i64 mp] (by simp [Act.eval, Act.put]) rfl (by go_must (exact news3 (Bk.new (W1.drewN _) _ _))) (by intro u hu; simp at hu; rcases hu with rfl | rfl | rfl <;> rfl) (by decide) (by simp only [maxLen]; omega) (by omega) (by simp; omega) _ rfl ?_); intro g2 cap w' hown' hgrow hor hlt'; have zk : Bk w' b 44 #[.slice (some ⟨g, 0, none⟩) l.length c, .int .i64 ms] := bk_grown (((F1.out.drewN _).alloc _)) hgrow hnob; have z0 : w'.cell? ⟨b, 0, none⟩ = some (.slice (some ⟨g, 0, none⟩) l.length c) := zk.cell 0; have z1 := zk.free 0))
    all_goals go_wp2_with (fail)
    all_goals go_ret2
    all_goals exact add_fin hBb hlt F3.out F2.out zk hown' hgrow
  · have HC := Lib.hid hcell
    clear hcell
    go_enter Try.func6, Try.ntmps6
    go_wp2_with (fail)
    go_quiet (fail)
    go_wp2_with (fail)
    obtain ⟨G1, G2, G3, G4⟩ := mk_last (s := ms) (o := .cells #[.int .i64 ms, .int .i64 mf, .int .i64 mp] 29) nq HB.out HO.out
    have G5 : Bk (((w.alloc (.cells #[.int .i64 ms, .int .i64 mf, .int .i64 mp] 29)).drewN nq).setCell ⟨b, 1, none⟩ (.int .i64 ms)) w.heap.size _ _ := mk_box hlt
    generalize (((w.alloc (.cells #[.int .i64 ms, .int .i64 mf, .int .i64 mp] 29)).drewN nq).setCell ⟨b, 1, none⟩ (.int .i64 ms)) = W1 at *
    have F1 := Lib.hid G1
    have F2 := Lib.hid G2
    have F3 := Lib.hid G3
    have F5 := Lib.hid G5
    clear G1 G2 G3 G5
    have q0 : W1.cell? ⟨b, 0, none⟩ = some (.slice (some ⟨g, 0, none⟩) l.length c) := F1.out.cell 0
    have q1 : W1.cell? ⟨w.heap.size, 0, none⟩ = some (.int .i64 ms) := F5.out.cell 0
    have q2 : W1.cell? ⟨w.heap.size, 1, none⟩ = some (.int .i64 mf) := F5.out.cell 1
    have q3 : W1.cell? ⟨w.heap.size, 2, none⟩ = some (.int .i64 mp) := F5.out.cell 2
    obtain ⟨q4, q5⟩ := HC.out W1 F2.out
    go_quiet (fail)
    go_wp2_with (fail)
    obtain ⟨i0, hi0, hz0, hz1, hz2⟩ := info_parts Try.infoMark
    have hBb := HM.out.ge
    have hbW := F1.out.lt
    have q0' : ∀ (k : Nat) (o : Obj), ((W1.drewN k).alloc o).cell? ⟨b, 0, none⟩ = some (.slice (some ⟨g, 0, none⟩) l.length c) := fun k o => ((F1.out.drewN k).alloc o).cell 0
    have hnob : (Value.slice (some ⟨g, 0, none⟩) l.length c).ownBlock ≠ some b := own_ne_bk F2.out F1.out (by decide)
    go_region_law (first
      | (go_loud (refine step_append_lies _ rfl (.tmp 84) (.tmp 86) 40 rfl B 29 i0 _ 3 24 Try.underlying40 hi0 hz0 hz1 hz2 rfl (by decide) (.slice (some ⟨g, 0, none⟩) l.length c) l.length (Mk.cells l) (by simp [Act.eval, Act.put]) (by go_must (exact own_new (own_drewN F2.out _) ((Below.refl _ _).alloc (Nat.le_refl _) _))) ⟨W1.heap.size, 0, none⟩ 1 1 [.int .i64 ms, .int .i64 mf, .int .i64 mp] (by simp [Act.eval, Act.put]) rfl (by go_must (exact news3 (Bk.new (W1.drewN _) _ _))) (by intro u hu; simp at hu; rcases hu with rfl | rfl | rfl <;> rfl) (by decide) (by simp only [maxLen]; omega) (by omega) (by simp; omega) _ rfl ?_); intro g2 cap w' hown' hgrow hor hlt'; have zk : Bk w' b 44 #[.slice (some ⟨g, 0, none⟩) l.length c, .int .i64 ms] := bk_grown (((F1.out.drewN _).alloc _)) hgrow hnob; have z0 : w'.cell? ⟨b, 0, none⟩ = some (.slice (some ⟨g, 0, none⟩) l.length c) := zk.cell 0; have z1 := zk.free 0))
    all_goals go_wp2_with (fail)
    all_goals go_ret2
    all_goals exact add_fin hBb hlt F3.out F2.out zk hown' hgrow
end Go.Proofs.Ytfeamnhhohineaa
