/-
  The law's own helpers over marks: own, Same, Ints; and Files for the very marks that 'awake' lays.
-/
import Derived.Test.YtfeamnhhohineaaMarkCut
set_option linter.unusedVariables false
set_option linter.unusedSimpArgs false
namespace Go.Proofs.Ytfeamnhhohineaa
open Go.RowKit

theorem Try.infoRefMark : (Try.prog.info? 42).map (fun i => (i.zero, i.size, i.bytes)) = some (some (.agg #[.int .i64 0, .int .i64 0, .int .i64 0]), 3, 24) := by kernel_rfl
theorem Try.infoInt : (Try.prog.info? 3).map (fun i => (i.zero, i.size, i.bytes)) = some (some (.int .i64 0), 1, 8) := by kernel_rfl

set_option maxRecDepth 100000 in
set_option maxHeartbeats 2000000 in
/-- own: the same marks, of the document's type. -/
theorem own_any (A : Option Addr) (c : Nat) (l : List Mk) (w : World) (h : Rd w A (Mk.cells l)) (hn : l.length ≤ 1000000) :
    Calls Try.prog 13 #[.slice A l.length c] w fun e w' => ∃ v, e = .returned v ∧ w'.ownsRow w.heap.size 42 3 v l.length (Mk.cells l) ∧ Below w.heap.size w w' := by
  obtain ⟨i0, hi0, hz0, hz1, hz2⟩ := info_parts Try.infoRefMark
  have HR := Lib.hid h
  clear h
  have hown : Hid ((w.alloc (.cells #[] 42)).ownsRow w.heap.size 42 3 (.slice (some ⟨w.heap.size, 0, none⟩) 0 0) 0 []) := World.ownsRow_lit w #[] 0 (Nat.le_refl _) (by simp) rfl
  go_enter Try.func13, Try.ntmps13
  go_wp2_with (fail)
  go_loopw [3, 9] (fun v i wr => ∃ k : Nat, k ≤ l.length ∧ i = .int .i64 k ∧ wr.ownsRow w.heap.size 42 3 v k (Mk.cells (l.take k)) ∧ Below w.heap.size w wr ∧ w.heap.size ≤ wr.heap.size) (fun _ i _ => l.length - (intOf i).toNat)
  case atStart => exact ⟨0, Nat.zero_le _, rfl, by simpa [Mk.cells] using hown.out, (Below.refl _ _).alloc (Nat.le_refl _) _, by simp⟩
  case round =>
    obtain ⟨k, hk, rfl, ho, hb, hsz⟩ := hrel
    have HO := Lib.hid ho
    clear ho hown
    by_cases hlt : k < l.length
    · obtain ⟨p0, p1, p2⟩ := Mk.cells_at l k hlt
      obtain ⟨ab, ao, hA, hl0, q0⟩ := (HR.out.below hb) _ _ p0
      obtain ⟨ab', ao', hA', _, q1⟩ := (HR.out.below hb) _ _ p1
      obtain ⟨ab'', ao'', hA'', _, q2⟩ := (HR.out.below hb) _ _ p2
      rw [hA] at hA' hA''
      injection hA' with hA'
      injection hA' with hA1 hA2
      injection hA'' with hA''
      injection hA'' with hA3 hA4
      subst hA1 hA2 hA3 hA4
      subst hA
      rw [← Nat.add_assoc] at q1 q2
      have hcells : Mk.cells (l.take (k + 1)) = Mk.cells (l.take k) ++ [.int .i64 l[k].s, .int .i64 l[k].f, .int .i64 l[k].p] := by
        rw [List.take_succ_eq_append_getElem hlt, Mk.cells_append]
        rfl
      have HC := Lib.hid hcells
      clear hcells p0 p1 p2
      generalize l[k] = m at *
      have hown2 : Hid (((wr.alloc (.cells #[.int .i64 m.s, .int .i64 m.f, .int .i64 m.p] 29)).alloc (.cells #[.int .i64 m.s, .int .i64 m.f, .int .i64 m.p] 42)).ownsRow w.heap.size 42 3 u3 k (Mk.cells (l.take k))) :=
        own_new HO.out (((Below.refl _ _).alloc (Nat.le_refl _) _).alloc (by simp) _)
      have hnews : Hid (∀ j u, [Value.int .i64 m.s, .int .i64 m.f, .int .i64 m.p][j]? = some u → ((wr.alloc (.cells #[.int .i64 m.s, .int .i64 m.f, .int .i64 m.p] 29)).alloc (.cells #[.int .i64 m.s, .int .i64 m.f, .int .i64 m.p] 42)).cell? ((⟨wr.heap.size + 1, 0, none⟩ : Addr).add j) = some u) :=
        news3 (by have h := Bk.new (wr.alloc (.cells #[.int .i64 m.s, .int .i64 m.f, .int .i64 m.p] 29)) 42 #[.int .i64 m.s, .int .i64 m.f, .int .i64 m.p]; rwa [World.size_alloc] at h)
      go_wp2_with (at_builtin; refine wpList_append_own _ rfl (.tmp 13) (.tmp 15) 38 rfl w.heap.size 42 i0 _ 3 24 Try.underlying38 hi0 hz0 hz1 hz2 rfl (by decide) _ k (Mk.cells (l.take k)) rfl hown2.out ⟨wr.heap.size + 1, 0, none⟩ 1 1 [.int .i64 m.s, .int .i64 m.f, .int .i64 m.p] rfl rfl hnews.out (by intro u hu; simp at hu; rcases hu with rfl | rfl | rfl <;> rfl) (by simp only [maxLen]; omega) (by omega) (by simp; omega) ?_; intro v' w1 hown' hgrow _)
      have hg1 := hgrow.size
      simp at hg1
      go_roundw
      case rel =>
        refine ⟨k + 1, by omega, by go_num, by rw [HC.out]; exact hown', ?_, by omega⟩
        exact ((hb.alloc hsz _).alloc (by simp; omega) _).grown hgrow (by simp; omega) (fun g hg => (own_ge HO.out g hg).1)
      case measure => simp [intOf]; omega
    · have hkl : k = l.length := by omega
      rw [hkl, List.take_length] at HO
      go_wp2_with (fail)
      go_ret
      exact ⟨_, rfl, HO.out, hb⟩

/-- Three cells of a readable row of marks. -/
theorem rd_mark {w : World} {A : Option Addr} {l : List Mk} (h : Rd w A (Mk.cells l)) {k : Nat} (hk : k < l.length) : ∃ b o, A = some ⟨b, o, none⟩ ∧ b < w.heap.size ∧ w.cell? ⟨b, o + k * 3, none⟩ = some (.int .i64 l[k].s) ∧ w.cell? ⟨b, o + k * 3 + 1, none⟩ = some (.int .i64 l[k].f) ∧ w.cell? ⟨b, o + k * 3 + 2, none⟩ = some (.int .i64 l[k].p) := by
  obtain ⟨p0, p1, p2⟩ := Mk.cells_at l k hk
  obtain ⟨ab, ao, hA, hl0, q0⟩ := h _ _ p0
  obtain ⟨ab', ao', hA', _, q1⟩ := h _ _ p1
  obtain ⟨ab'', ao'', hA'', _, q2⟩ := h _ _ p2
  rw [hA] at hA' hA''
  injection hA' with hA'
  injection hA' with hA1 hA2
  injection hA'' with hA''
  injection hA'' with hA3 hA4
  subst hA1 hA2 hA3 hA4
  rw [← Nat.add_assoc] at q1 q2
  exact ⟨ab, ao, hA, hl0, q0, q1, q2⟩

set_option maxRecDepth 100000 in
set_option maxHeartbeats 2000000 in
/-- Same, of the same marks: true. -/
theorem same_any (A A' : Option Addr) (c c' : Nat) (l : List Mk) (w : World) (h : Rd w A (Mk.cells l)) (h' : Rd w A' (Mk.cells l)) (hn : l.length ≤ 1000000) :
    Calls Try.prog 12 #[.slice A l.length c, .slice A' l.length c'] w fun e w' => e = .returned (.bool true) ∧ Below w.heap.size w w' := by
  have HR := Lib.hid h
  have HR' := Lib.hid h'
  clear h h'
  go_enter Try.func12, Try.ntmps12
  go_wp2_with (fail)
  go_loopw [5] (fun i wr => ∃ k : Nat, k ≤ l.length ∧ i = .int .i64 k ∧ Below w.heap.size w wr) (fun i _ => l.length - (intOf i).toNat)
  case atStart => exact ⟨0, Nat.zero_le _, rfl, Below.refl _ _⟩
  case round =>
    obtain ⟨k, hk, rfl, hb⟩ := hrel
    by_cases hlt : k < l.length
    · obtain ⟨ab, ao, rfl, _, p0, p1, p2⟩ := rd_mark (HR.out.below hb) hlt
      obtain ⟨ab', ao', rfl, _, q0, q1, q2⟩ := rd_mark (HR'.out.below hb) hlt
      generalize l[k] = m at *
      go_wp2_with (fail)
      go_quiet (fail)
      go_wp2_with (fail)
      go_roundw
      case rel => exact ⟨k + 1, by omega, by go_num, below_drewN hb _⟩
      case measure => simp [intOf]; omega
    · go_wp2_with (fail)
      go_ret
      exact ⟨rfl, hb⟩

def ints (l : List Int) : List Value := l.map (Value.int .i64)

theorem rd_int {w : World} {A : Option Addr} {l : List Int} (h : Rd w A (ints l)) {k : Nat} (hk : k < l.length) : ∃ b o, A = some ⟨b, o, none⟩ ∧ b < w.heap.size ∧ w.cell? ⟨b, o + k, none⟩ = some (.int .i64 l[k]) :=
  h k _ (by simp [ints, List.getElem?_eq_getElem hk])

set_option maxRecDepth 100000 in
set_option maxHeartbeats 2000000 in
/-- Ints, of the same numbers: true. -/
theorem ints_any (A A' : Option Addr) (c c' : Nat) (l : List Int) (w : World) (h : Rd w A (ints l)) (h' : Rd w A' (ints l)) (hn : l.length ≤ 1000000) :
    Calls Try.prog 11 #[.slice A l.length c, .slice A' l.length c'] w fun e w' => e = .returned (.bool true) ∧ Below w.heap.size w w' := by
  have HR := Lib.hid h
  have HR' := Lib.hid h'
  clear h h'
  go_enter Try.func11, Try.ntmps11
  go_wp2_with (fail)
  go_loopw [5] (fun i wr => ∃ k : Nat, k ≤ l.length ∧ i = .int .i64 k ∧ Below w.heap.size w wr) (fun i _ => l.length - (intOf i).toNat)
  case atStart => exact ⟨0, Nat.zero_le _, rfl, Below.refl _ _⟩
  case round =>
    obtain ⟨k, hk, rfl, hb⟩ := hrel
    by_cases hlt : k < l.length
    · obtain ⟨ab, ao, rfl, _, p0⟩ := rd_int (HR.out.below hb) hlt
      obtain ⟨ab', ao', rfl, _, q0⟩ := rd_int (HR'.out.below hb) hlt
      generalize l[k] = m at *
      go_wp2_with (fail)
      go_quiet (fail)
      go_wp2_with (fail)
      go_roundw
      case rel => exact ⟨k + 1, by omega, by go_num, below_drewN hb _⟩
      case measure => simp [intOf]; omega
    · go_wp2_with (fail)
      go_ret
      exact ⟨rfl, hb⟩
end Go.Proofs.Ytfeamnhhohineaa
