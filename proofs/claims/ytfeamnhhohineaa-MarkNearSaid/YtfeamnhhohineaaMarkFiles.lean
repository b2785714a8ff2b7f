/-
  Files, for the very marks that 'awake' lays: files 4, 4, 5.
-/
import Derived.Test.YtfeamnhhohineaaMarkLaw
set_option linter.unusedVariables false
set_option linter.unusedSimpArgs false
namespace Go.Proofs.Ytfeamnhhohineaa
open Go.RowKit

/-- The cells behind it. -/
theorem compact_fin {w : World} {g : Nat} (n : Nat) (c0 : w.cell? ⟨g, 0, none⟩ = some (.int .i64 4)) (c1 : w.cell? ⟨g, 1, none⟩ = some (.int .i64 4)) (hgl : g < w.heap.size) :
    Rd (((w.drewN n).setCell ⟨g, 1, none⟩ (.int .i64 5)).setCells g 2 [.int .i64 0]) (some ⟨g, 0, none⟩) (ints [4, 5]) ∧ Kp (· = g) w (((w.drewN n).setCell ⟨g, 1, none⟩ (.int .i64 5)).setCells g 2 [.int .i64 0]) := by
  refine ⟨?_, ?_⟩
  · intro j u hj
    refine ⟨g, 0, rfl, by simpa [World.setCells] using hgl, ?_⟩
    have hj2 : j < 2 := (List.getElem?_eq_some_iff.mp hj).1
    refine (World.cell?_setCells_out g [.int .i64 0] 2 _ ⟨g, 0 + j, none⟩ (fun _ _ => .inl (by simp; omega))).trans ?_
    match j, hj with
    | 0, hj => exact (World.cell?_setCells_out g [.int .i64 5] 1 (w.drewN n) ⟨g, 0, none⟩ (fun _ _ => .inl (Nat.zero_lt_one))).trans (c0.trans (by simpa [ints] using hj))
    | 1, hj => exact (World.cell?_setCells_in g [.int .i64 5] 1 (w.drewN n) (by intro j hj; obtain rfl : j = 0 := by simpa using hj
                                                                                exact by show (w.cell? ⟨g, 1, none⟩).isSome = true; rw [c1]; rfl) 0 (by decide)).trans (by simpa [ints] using hj)
  · exact (((Kp.refl _ w).drewN n).set1 1 _).set1 2 _

set_option maxRecDepth 100000 in
set_option maxHeartbeats 2000000 in
/-- slices.Compact of 4, 4, 5. -/
theorem compact_445 (B g cap : Nat) (w : World) (h : w.ownsRow B 3 1 (.slice (some ⟨g, 0, none⟩) 3 cap) 3 (ints [4, 4, 5])) :
    Calls Try.prog 16 #[.slice (some ⟨g, 0, none⟩) 3 cap] w fun e w' => e = .returned (.slice (some ⟨g, 0, none⟩) 2 cap) ∧ Rd w' (some ⟨g, 0, none⟩) (ints [4, 5]) ∧ Kp (· = g) w w' := by
  have c0 : w.cell? ⟨g, 0, none⟩ = some (.int .i64 4) := h.cellAt 0 (by decide)
  have c1 : w.cell? ⟨g, 1, none⟩ = some (.int .i64 4) := h.cellAt 1 (by decide)
  have c2 : w.cell? ⟨g, 2, none⟩ = some (.int .i64 5) := h.cellAt 2 (by decide)
  have f0 := h.frozenAt 0
  have f1 := h.frozenAt 1
  have f2 := h.frozenAt 2
  have hgl : g < w.heap.size := (own_ge h g rfl).2
  have hc3 : 3 ≤ cap := by
    rcases own_form h with ⟨hv, _⟩ | ⟨g', cap', hv, _, _, h3, _⟩
    · cases hv
    · injection hv with _ _ hc; subst hc; exact h3
  clear h
  have k1 : ¬ cap = 1 := by omega
  have k2 : ¬ cap = 2 := by omega
  have hz : ∀ W, (zeroValue 3).run Try.prog W = .ok (.int .i64 0) W := by intro W; kernel_rfl
  have hcl : ∀ m ty, (Builtin.clear_ #[33] ty #[.slice (some ⟨g, 2, none⟩) 1 (cap - 2)]).run Try.prog ((w.drewN m).setCell ⟨g, 1, none⟩ (.int .i64 5)) = .ok (.tuple #[]) (((w.drewN m).setCell ⟨g, 1, none⟩ (.int .i64 5)).setCells g 2 [.int .i64 0]) := by
    intro m ty
    refine Lib.run_clear_slice _ 33 3 ty (.int .i64 0) Try.underlying33 hz rfl rfl g 2 1 _ (by decide) ?_ ?_
    · intro j hj
      obtain rfl : j = 0 := by omega
      have e : ((w.drewN m).setCell ⟨g, 1, none⟩ (.int .i64 5)).cell? ⟨g, 2 + 0, none⟩ = w.cell? ⟨g, 2, none⟩ := World.cell?_setCells_out g [.int .i64 5] 1 (w.drewN m) ⟨g, 2, none⟩ (fun _ _ => .inr (Nat.le_refl 2))
      rw [e, c2]; rfl
    · intro j hj
      obtain rfl : j = 0 := by omega
      exact (World.frozen?_setCells g [.int .i64 5] 1 (w.drewN m) ⟨g, 2, none⟩).trans f2
  have HCL := Lib.hid hcl
  clear hcl hz
  go_enter Try.func16, Try.ntmps16
  go_wp2_with (fail)
  refine wp_loop_rounds 1 ?_
  rw [rounds_succ]
  go_wp2_with (fail)
  go_quiet (fail)
  go_wp2_with (fail)
  refine wp_loop_rounds 3 ?_
  rw [rounds_succ]
  go_wp2_with (fail)
  go_quiet (fail)
  go_wp2_with (fail)
  rw [rounds_succ]
  go_wp2_with (simp only [HCL.out])
  go_ret
  exact ⟨rfl, compact_fin _ c0 c1 hgl⟩

theorem ints_append (l : List Int) (x : Int) : ints (l ++ [x]) = ints l ++ [.int .i64 x] := by simp [ints]

/-- One cell lies in a new block. -/
theorem news1 {w : World} {g : Nat} {t : TypeId} {x : Value} (h : Bk w g t #[x]) : ∀ j u, [x][j]? = some u → w.cell? ((⟨g, 0, none⟩ : Addr).add j) = some u := by
  intro j u hj
  match j, hj with
  | 0, hj => exact (h.cell 0).trans (by simpa using hj)

def FilesPost (w : World) (e : Ending) (w' : World) : Prop :=
  ∃ A c, e = .returned (.slice A 2 c) ∧ Rd w' A (ints [4, 5]) ∧ Below w.heap.size w w' ∧ ∀ b o, A = some ⟨b, o, none⟩ → w.heap.size ≤ b

set_option maxRecDepth 100000 in
set_option maxHeartbeats 2000000 in
/-- Files, of three marks in the files 4, 4, 5. -/
theorem files_445 (B b : Nat) (l : List Mk) (last : Int) (w : World) (h : MkAt w B b l last) (h3 : l.length = 3) (hf : l.map Mk.f = [4, 4, 5]) :
    Calls Try.prog 8 #[.pointer (some ⟨b, 0, none⟩)] w (FilesPost w) := by
  obtain ⟨i0, hi0, hz0, hz1, hz2⟩ := info_parts Try.infoInt
  obtain ⟨A, c, hbk, hown, h0⟩ := h.parts
  have eb : w.cell? ⟨b, 0, none⟩ = some (.slice A l.length c) := hbk.cell 0
  have HR := Lib.hid (own_rd hown)
  clear hown
  have hown : Hid (w.ownsRow w.heap.size 3 1 (.slice none 0 0) 0 []) := World.ownsRow_nil w _ _ _
  have HF := Lib.hid hf
  clear hbk h0 h hf
  go_enter Try.func8, Try.ntmps8
  go_wp2_with (fail)
  go_loopw [3, 11] (fun v i wr => ∃ k : Nat, k ≤ l.length ∧ i = .int .i64 k ∧ wr.ownsRow w.heap.size 3 1 v k (ints ((l.take k).map Mk.f)) ∧ Below w.heap.size w wr ∧ w.heap.size ≤ wr.heap.size) (fun _ i _ => l.length - (intOf i).toNat)
  case atStart => exact ⟨0, Nat.zero_le _, rfl, by simpa [ints] using hown.out, Below.refl _ _, by simp⟩
  case round =>
    obtain ⟨k, hk, rfl, ho, hb, hsz⟩ := hrel
    have HO := Lib.hid ho
    clear ho hown
    by_cases hlt : k < l.length
    · obtain ⟨ab, ao, rfl, _, p0, p1, p2⟩ := rd_mark (HR.out.below hb) hlt
      have hcells : ints ((l.take (k + 1)).map Mk.f) = ints ((l.take k).map Mk.f) ++ [.int .i64 l[k].f] := by
        rw [List.take_succ_eq_append_getElem hlt, List.map_append]
        exact ints_append _ _
      have HC := Lib.hid hcells
      clear hcells
      generalize l[k] = m at *
      have hown2 : Hid (((wr.alloc (.cells #[.int .i64 m.s, .int .i64 m.f, .int .i64 m.p] 29)).alloc (.cells #[.int .i64 m.f] 3)).ownsRow w.heap.size 3 1 u3 k (ints ((l.take k).map Mk.f))) :=
        own_new HO.out (((Below.refl _ _).alloc (Nat.le_refl _) _).alloc (by simp) _)
      have hnews : Hid (∀ j u, [Value.int .i64 m.f][j]? = some u → ((wr.alloc (.cells #[.int .i64 m.s, .int .i64 m.f, .int .i64 m.p] 29)).alloc (.cells #[.int .i64 m.f] 3)).cell? ((⟨wr.heap.size + 1, 0, none⟩ : Addr).add j) = some u) :=
        news1 (by have h := Bk.new (wr.alloc (.cells #[.int .i64 m.s, .int .i64 m.f, .int .i64 m.p] 29)) 3 #[.int .i64 m.f]; rwa [World.size_alloc] at h)
      go_wp2_with (at_builtin; refine wpList_append_own _ rfl (.tmp 15) (.tmp 18) 33 rfl w.heap.size 3 i0 _ 1 8 Try.underlying33 hi0 hz0 hz1 hz2 rfl (by decide) _ k (ints ((l.take k).map Mk.f)) rfl hown2.out ⟨wr.heap.size + 1, 0, none⟩ 1 1 [.int .i64 m.f] rfl rfl hnews.out (by intro u hu; simp at hu; rcases hu with rfl; rfl) (by simp only [maxLen]; omega) (by omega) (by simp; omega) ?_; intro v' w1 hown' hgrow _)
      have hg1 := hgrow.size
      simp at hg1
      go_roundw
      case rel =>
        refine ⟨k + 1, by omega, by go_num, by rw [HC.out]; exact hown', ?_, by omega⟩
        exact ((hb.alloc hsz _).alloc (by simp; omega) _).grown hgrow (by simp; omega) (fun g hg => (own_ge HO.out g hg).1)
      case measure => simp [intOf]; omega
    · have hkl : k = 3 := by omega
      have HO2 : Hid (wr.ownsRow w.heap.size 3 1 u3 3 (ints [4, 4, 5])) := by
        have h := HO.out
        rwa [hkl, ← h3, List.take_length, HF.out, h3] at h
      clear HO
      rcases own_form HO2.out with ⟨_, e, _⟩ | ⟨g, cap, rfl, hg1, hg2, _⟩
      · cases e
      have HC := Lib.hid (compact_445 _ _ _ _ HO2.out)
      go_wp2_with (fail)
      refine HC.out.mono ?_
      rintro e w1 ⟨rfl, hr, hkp⟩
      have HK := Lib.hid hkp
      have HR1 := Lib.hid hr
      clear hkp hr
      go_wp2_with (fail)
      go_ret
      exact ⟨_, _, rfl, HR1.out, hb.trans (HK.out.below (fun k hk e => by omega) hsz), fun b o e => by injection e with e; injection e with e1; omega⟩
end Go.Proofs.Ytfeamnhhohineaa
