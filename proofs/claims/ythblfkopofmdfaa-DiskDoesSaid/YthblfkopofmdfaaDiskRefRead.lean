/-
  The document's disk: Read.
-/
import Derived.Test.YthblfkopofmdfaaDiskRefStep
set_option linter.unusedVariables false
set_option linter.unusedSimpArgs false
namespace Go.Proofs.Ythblfkopofmdfaa
open Go.RowKit

set_option maxRecDepth 100000 in
set_option maxHeartbeats 2000000 in
theorem rread_in (B b i : Nat) (hi : i < 64) (d : Dk) (hd : d.ok) (w : World) (h : RkAt w B b d) : Calls Try.prog 17 #[.pointer (some ⟨b, 0, none⟩), .int .i64 i] w (RdPost (d.b i) w) := by
  obtain ⟨cs, hk, hc⟩ := h.row
  obtain ⟨v, hv1, hv2⟩ := hc.files i hi
  obtain ⟨A, c, rfl, hr0, hr1, hr2, hr3⟩ := hv2.row
  have q0 : w.cell? ⟨b, i, none⟩ = some (.slice A (d.b i).length c) := (hk.cell _).trans hv1
  have hl := hd.len hi
  have hlt := hk.lt
  have hlt1 : b < w.heap.size + 1 := by omega
  obtain ⟨i0, hi0, hz0, hz1, hz2⟩ := info_parts Try.infoByte
  have hown : Hid ((w.alloc (.cells #[] 5)).ownsRow w.heap.size 5 1 (.slice (some ⟨w.heap.size, 0, none⟩) 0 0) 0 []) := World.ownsRow_lit w #[] 0 (Nat.le_refl _) (by simp) rfl
  have HR := Lib.hid hr1
  have HR3 := Lib.hid hr3
  clear hk hc hv1 hv2 hr1 hr2 hr3 h hd
  cases A with
  | none =>
    obtain ⟨e1, rfl⟩ := HR3.out rfl
    have e2 : d.b i = [] := List.eq_nil_of_length_eq_zero e1
    rw [e2] at q0 ⊢
    replace q0 : w.cell? ⟨b, i, none⟩ = some (.slice none 0 0) := q0
    clear e1 e2 HR HR3 hr0 hl
    go_enter Try.func17, Try.ntmps17
    go_wp2_with (fail)
    refine (there_in i hi _).mono ?_
    rintro e w ⟨rfl, rfl⟩
    go_wp2_with (at_builtin; refine wpList_append_none rfl (.tmp 9) (.tmp 15) 32 rfl 5 i0 Try.underlying32 hi0 _ 0 0 0 rfl rfl (Nat.le_refl _) ?_)
    go_ret2
    exact ⟨_, rfl, hown.out, (Below.refl _ _).alloc (Nat.le_refl _) _⟩
  | some ad =>
    have hnews : Hid (∀ j u, (bys (d.b i))[j]? = some u → (w.alloc (.cells #[] 5)).cell? (ad.add j) = some u) := (HR.out.below ((Below.refl _ _).alloc (Nat.le_refl _) _)).news
    have hlen : Hid ((bys (d.b i)).length = (d.b i).length * 1) := by unfold Hid; rw [bys_length, Nat.mul_one]
    clear HR HR3
    go_enter Try.func17, Try.ntmps17
    go_wp2_with (fail)
    refine (there_in i hi _).mono ?_
    rintro e w ⟨rfl, rfl⟩
    go_wp2_with (at_builtin; refine wpList_append_own _ rfl (.tmp 9) (.tmp 15) 32 rfl w.heap.size 5 i0 _ 1 1 Try.underlying32 hi0 hz0 hz1 hz2 rfl (by decide) _ 0 [] rfl hown.out ad (d.b i).length c (bys (d.b i)) rfl hlen.out hnews.out (bys_one _) (by simp only [maxLen]; omega) (by omega) (by simp) ?_; intro v' w1 hown' hgrow _)
    go_ret2
    refine ⟨_, rfl, by simpa using hown', ((Below.refl _ _).alloc (Nat.le_refl _) _).grown hgrow (by simp) (fun k hk => ?_)⟩
    exact (own_ge hown.out k hk).1
end Go.Proofs.Ythblfkopofmdfaa
