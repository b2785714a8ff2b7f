/-
  The document's disk: Append where it lays nothing (no such file; no power; no room).
-/
import Derived.Test.YthblfkopofmdfaaDiskRefNew
set_option linter.unusedVariables false
set_option linter.unusedSimpArgs false
namespace Go.Proofs.Ythblfkopofmdfaa
open Go.RowKit

theorem rappend_out (B b : Nat) (n : Int) (hn : n < 0 ∨ 64 ≤ n) (v : Value) (d : Dk) (w : World) (h : RkAt w B b d) :
    Calls Try.prog 11 #[.pointer (some ⟨b, 0, none⟩), .int .i64 n, v] w (RtPost B b d (.int .i64 1) w) := by
  have HD := Lib.hid h
  have HN := Lib.hid hn
  clear h hn
  go_enter Try.func11, Try.ntmps11
  go_wp2_with (fail)
  refine (there_out n HN.out _).mono ?_
  rintro e w' ⟨rfl, rfl⟩
  go_wp2_with (fail)
  go_ret
  exact ⟨rfl, Kp.refl _ _, HD.out⟩

theorem rappend_down (B b i : Nat) (hi : i < 64) (v : Value) (d : Dk) (hd : d.ok) (w : World) (h : RkAt w B b d) (h8 : d.step.2 = 8) :
    Calls Try.prog 11 #[.pointer (some ⟨b, 0, none⟩), .int .i64 i, v] w (RtPost B b d.step.1 (.int .i64 8) w) := by
  have hs := rstep_any B b d hd w h
  rw [h8] at hs
  have HS := Lib.hid hs
  clear h hs h8 hd
  go_enter Try.func11, Try.ntmps11
  go_wp2_with (fail)
  refine (there_in i hi _).mono ?_
  rintro e w' ⟨rfl, rfl⟩
  go_wp2_with (fail)
  refine HS.out.mono ?_
  rintro e w1 ⟨rfl, k1, h1⟩
  have K1 := Lib.hid k1
  have H1 := Lib.hid h1
  clear k1 h1 HS
  go_wp2_with (fail)
  go_ret
  exact ⟨rfl, K1.out, H1.out⟩

theorem rappend_full (B b i : Nat) (hi : i < 64) (A : Option Addr) (n c : Nat) (d : Dk) (hd : d.ok) (w : World) (h : RkAt w B b d) (h0 : d.step.2 = 0) (hl : d.step.1.left < (n : Int)) :
    Calls Try.prog 11 #[.pointer (some ⟨b, 0, none⟩), .int .i64 i, .slice A n c] w (RtPost B b d.step.1 (.int .i64 7) w) := by
  have hs := rstep_any B b d hd w h
  have ho := d.step_ok hd
  rw [h0] at hs
  generalize d.step.1 = d' at *
  have HS := Lib.hid hs
  have HO := Lib.hid ho
  have t0 : decide (d'.left < (n : Int)) = true := by simpa using hl
  clear h hs h0 hd ho hl
  go_enter Try.func11, Try.ntmps11
  go_wp2_with (fail)
  refine (there_in i hi _).mono ?_
  rintro e w' ⟨rfl, rfl⟩
  go_wp2_with (fail)
  refine HS.out.mono ?_
  rintro e w1 ⟨rfl, k1, h1⟩
  have K1 := Lib.hid k1
  have H1 := Lib.hid h1
  clear k1 h1 HS
  go_wp2_with (fail)
  refine (rleft_any B b d' HO.out _ H1.out).mono ?_
  rintro e w1 ⟨rfl, rfl⟩
  go_wp2_with (fail)
  go_ret
  exact ⟨rfl, K1.out, H1.out⟩
end Go.Proofs.Ythblfkopofmdfaa
