/-
  The document's disk: Files.
-/
import Derived.Test.YthblfkopofmdfaaDiskRefRead
set_option linter.unusedVariables false
set_option linter.unusedSimpArgs false
namespace Go.Proofs.Ythblfkopofmdfaa
open Go.RowKit

set_option maxRecDepth 100000 in
set_option maxHeartbeats 2000000 in
theorem rfiles_any (B b : Nat) (d : Dk) (hd : d.ok) (w : World) (h : RkAt w B b d) :
    Calls Try.prog 26 #[.pointer (some ⟨b, 0, none⟩)] w (FilesPost (filesK d.b 64) w) := by
  obtain ⟨i0, hi0, hz0, hz1, hz2⟩ := info_parts Try.infoInt
  have HD := Lib.hid h
  have HL := Lib.hid hd
  have hown : Hid ((w.alloc (.cells #[] 3)).ownsRow w.heap.size 3 1 (.slice (some ⟨w.heap.size, 0, none⟩) 0 0) 0 []) := World.ownsRow_lit w #[] 0 (Nat.le_refl _) (by simp) rfl
  clear h hd
  go_enter Try.func26, Try.ntmps26
  go_wp2_with (fail)
  go_loopw [3, 4] (fun v i wr => ∃ k : Nat, k ≤ 64 ∧ i = .int .i64 k ∧ wr.ownsRow w.heap.size 3 1 v (filesK d.b k).length (ints (filesK d.b k)) ∧ Below w.heap.size w wr ∧ w.heap.size ≤ wr.heap.size) (fun _ i _ => 64 - (intOf i).toNat)
  case atStart => exact ⟨0, Nat.zero_le _, rfl, by simpa [ints, filesK] using hown.out, (Below.refl _ _).alloc (Nat.le_refl _) _, by simp⟩
  case round =>
    obtain ⟨k, hk, rfl, ho, hb, hsz⟩ := hrel
    have HO := Lib.hid ho
    clear ho hown
    by_cases hlt : k < 64
    · have hlen := HL.out.len hlt
      have hfl := filesK_len d.b k
      obtain ⟨cs, hbk, hc⟩ := (HD.out.box hb).row
      obtain ⟨v, hv1, hv2⟩ := hc.files k hlt
      obtain ⟨A, c, rfl, _⟩ := hv2.row
      have q0 : wr.cell? ⟨b, k, none⟩ = some (.slice A (d.b k).length c) := (hbk.cell _).trans hv1
      clear hv1 hv2 hbk hc
      by_cases hp : 0 < (d.b k).length
      · have hcells : filesK d.b (k + 1) = filesK d.b k ++ [(k : Int)] := by simp only [filesK]; rw [if_pos hp]
        have HC := Lib.hid hcells
        clear hcells
        generalize filesK d.b k = l at *
        generalize (d.b k).length = len at *
        have hown2 : Hid ((wr.alloc (.cells #[.int .i64 k] 3)).ownsRow w.heap.size 3 1 u3 l.length (ints l)) := own_new HO.out ((Below.refl _ _).alloc (Nat.le_refl _) _)
        have hnews : Hid (∀ j u, [Value.int .i64 k][j]? = some u → (wr.alloc (.cells #[.int .i64 k] 3)).cell? ((⟨wr.heap.size, 0, none⟩ : Addr).add j) = some u) := news1 (Bk.new wr 3 #[.int .i64 k])
        go_wp2_with (at_builtin; go_loud (refine wpList_append_own _ rfl (.tmp 18) (.tmp 20) 33 rfl w.heap.size 3 i0 _ 1 8 Try.underlying33 hi0 hz0 hz1 hz2 rfl (by decide) _ l.length (ints l) rfl hown2.out ⟨wr.heap.size, 0, none⟩ 1 1 [.int .i64 k] rfl rfl hnews.out (by intro u hu; simp at hu; rcases hu with rfl; rfl) (by simp only [maxLen]; omega) (by omega) (by simp; omega) ?_); intro v' w1 hown' hgrow _)
        have hg1 := hgrow.size
        simp at hg1
        go_roundw
        case rel =>
          refine ⟨k + 1, by omega, by go_num, by rw [HC.out, ints_append, List.length_append]; exact hown', ?_, by omega⟩
          exact (hb.alloc hsz _).grown hgrow (by simp; omega) (fun g hg => (own_ge HO.out g hg).1)
        case measure => simp [intOf]; omega
      · have hcells : filesK d.b (k + 1) = filesK d.b k := by simp only [filesK]; rw [if_neg hp]
        have HC := Lib.hid hcells
        clear hcells
        generalize filesK d.b k = l at *
        generalize (d.b k).length = len at *
        go_wp2_with (fail)
        go_roundw
        case rel => exact ⟨k + 1, by omega, by go_num, by rw [HC.out]; exact HO.out, hb, hsz⟩
        case measure => simp [intOf]; omega
    · obtain rfl : k = 64 := by omega
      go_wp2_with (fail)
      go_ret
      exact ⟨_, rfl, HO.out, hb⟩
end Go.Proofs.Ythblfkopofmdfaa
