/-
  awake: calls whose answers the document fixes: true.
-/
import Derived.Test.YthblfkopofmdfaaDiskLaw
import Derived.Lib.SlBytesConst
set_option linter.unusedVariables false
set_option linter.unusedSimpArgs false
namespace Go.Proofs.Ythblfkopofmdfaa
open Go.RowKit

theorem rd_new {w : World} {b : Nat} {t : TypeId} {cs : Array Value} (h : Bk w b t cs) : Rd w (some ⟨b, 0, none⟩) cs.toList := by
  intro j u hj
  refine ⟨b, 0, rfl, h.lt, ?_⟩
  rw [Nat.zero_add, h.cell]
  simpa using hj

theorem rd_mark (w : World) (t : TypeId) (fr : Nat × Nat) (cs : Array Value) : Rd (w.alloc (.cells cs t fr)) (some ⟨w.heap.size, 0, none⟩) cs.toList := by
  intro j u hj
  refine ⟨w.heap.size, 0, rfl, by simp, ?_⟩
  rw [Nat.zero_add, World.cell?_alloc_mark]
  simpa using hj

def D0 : Dk := Dk.new 10
def D1 : Dk := (D0.append 0 [120, 121]).1
def D2 : Dk := (D1.sync 0).1
def D3 : Dk := (D2.append 0 [122, 117, 118]).1
def D4 : Dk := (D3.append 1 [49, 50, 51, 52, 53, 54]).1
def D5 : Dk := (D4.append 64 []).1
def D6 : Dk := D5.crash [1, 5]
def D7 : Dk := (D6.cut 0 4).1
def D8 : Dk := (D7.cut 0 1).1
def D9 : Dk := D8.fuse 1
def D10 : Dk := (D9.sync 0).1
def D11 : Dk := (D10.append 3 [113]).1
theorem ok0 : D0.ok := Dk.new_ok (by decide) (by decide)
theorem ok1 : D1.ok := D0.append_ok ok0 _ _
theorem ok2 : D2.ok := D1.sync_ok ok1 _
theorem ok3 : D3.ok := D2.append_ok ok2 _ _
theorem ok4 : D4.ok := D3.append_ok ok3 _ _
theorem ok5 : D5.ok := D4.append_ok ok4 _ _
theorem ok6 : D6.ok := D5.crash_ok ok5 _
theorem ok7 : D7.ok := D6.cut_ok ok6 _ _
theorem ok8 : D8.ok := D7.cut_ok ok7 _ _
theorem ok9 : D9.ok := D8.fuse_ok ok8 (by decide)
theorem ok10 : D10.ok := D9.sync_ok ok9 _
theorem ok11 : D11.ok := D10.append_ok ok10 _ _
theorem v1 : (D0.append 0 [120, 121]).2 = 0 := by decide +kernel
theorem v2 : (D1.sync 0).2 = 0 := by decide +kernel
theorem v3 : (D2.append 0 [122, 117, 118]).2 = 0 := by decide +kernel
theorem v4 : (D3.append 1 [49, 50, 51, 52, 53, 54]).2 = 7 := by decide +kernel
theorem v5 : (D4.append 64 []).2 = 1 := by decide +kernel
theorem vs : D5.s 0 = 2 := by decide +kernel
theorem vl : D5.left = 5 := by decide +kernel
theorem vr : D6.b 0 = [120, 121, 122] := by decide +kernel
theorem v7 : (D6.cut 0 4).2 = 1 := by decide +kernel
theorem v8 : (D7.cut 0 1).2 = 0 := by decide +kernel
theorem v10 : (D9.sync 0).2 = 0 := by decide +kernel
theorem v11 : (D10.append 3 [113]).2 = 8 := by decide +kernel
theorem vd : D11.down = true := by decide +kernel
theorem vf : filesK D11.b 64 = [0] := by decide +kernel
theorem vl2 : D11.left = 9 := by decide +kernel
theorem vs2 : D11.s 0 = 1 := by decide +kernel

set_option maxRecDepth 100000 in
set_option maxHeartbeats 4000000 in
theorem awake_any (w : World) : Calls Try.prog 6 #[] w fun e w' => e = .returned (.bool true) ∧ Below w.heap.size w w' := by
  have hcv : ∀ (w : World) (C : Array Value) (n c : Nat), (convert 32 32 (.slice (some ⟨w.heap.size, 0, none⟩) n c)).run Try.prog (w.alloc (.cells C 5)) = .ok (.slice (some ⟨w.heap.size, 0, none⟩) n c) (w.alloc (.cells C 5 (C.size, C.size + 1))) := fun w C n c => Lib.run_convert_bytes_const w _ _ C n c Try.underlying32 Try.underlying5
  go_enter Try.func6, Try.ntmps6
  go_wp2_with (fail)
  refine (new_in 10 (by decide) (by decide) _).mono ?_
  rintro e w0 ⟨rfl, hw⟩
  have M0 : Hid (DkAt w0 w.heap.size w.heap.size D0) := by rw [hw]; exact dk_new 10 w
  have B0 : Hid (Below w.heap.size w w0) := by rw [hw]; exact (Below.refl _ _).alloc (Nat.le_refl _) _
  clear hw
  go_wp2_with (fail)
  refine (new_out (-1) (by decide) _).mono ?_
  rintro e w0 ⟨rfl, rfl⟩
  go_wp2_with (fail)
  have MA := Lib.hid (M0.out.box ((Below.refl w0.heap.size w0).alloc (Nat.le_refl _) (.cells #[.int .u8 120, .int .u8 121] 5 (2, 3))))
  have BA := Lib.hid (B0.out.alloc B0.out.size (.cells #[.int .u8 120, .int .u8 121] 5 (2, 3)))
  have RA := Lib.hid (rd_mark w0 5 (2, 3) #[.int .u8 120, .int .u8 121])
  have NA : Hid (w0.heap.size ≠ w.heap.size) := Nat.ne_of_gt M0.out.lt
  refine (append_any _ _ 0 (some ⟨w0.heap.size, 0, none⟩) 2 [120, 121] D0 ok0 _ MA.out RA.out (fun e => by cases e) (fun g o e _ => by injection e with e; injection e with e1; exact e1 ▸ NA.out) (by decide)).mono ?_
  rintro e w1 ⟨he, hk, hm⟩
  obtain rfl : e = .returned (.int .i64 0) := he.trans (by rw [v1])
  have M1 : Hid (DkAt w1 w.heap.size w.heap.size D1) := hm
  have B1 := Lib.hid (BA.out.trans (hk.below (fun k hk e => by omega) BA.out.size))
  clear hk hm he MA BA M0 B0 RA NA
  go_wp2_with (fail)
  have MA := M1
  have BA := B1
  refine (sync_any _ _ 0 D1 ok1 _ MA.out).mono ?_
  rintro e w2 ⟨he, hk, hm⟩
  obtain rfl : e = .returned (.int .i64 0) := he.trans (by rw [v2])
  have M2 : Hid (DkAt w2 w.heap.size w.heap.size D2) := hm
  have B2 := Lib.hid (BA.out.trans (hk.below (fun k hk e => by omega) BA.out.size))
  clear hk hm he MA BA M1 B1
  go_wp2_with (fail)
  have MA := Lib.hid (M2.out.box ((Below.refl w2.heap.size w2).alloc (Nat.le_refl _) (.cells #[.int .u8 122, .int .u8 117, .int .u8 118] 5 (3, 4))))
  have BA := Lib.hid (B2.out.alloc B2.out.size (.cells #[.int .u8 122, .int .u8 117, .int .u8 118] 5 (3, 4)))
  have RA := Lib.hid (rd_mark w2 5 (3, 4) #[.int .u8 122, .int .u8 117, .int .u8 118])
  have NA : Hid (w2.heap.size ≠ w.heap.size) := Nat.ne_of_gt M2.out.lt
  refine (append_any _ _ 0 (some ⟨w2.heap.size, 0, none⟩) 3 [122, 117, 118] D2 ok2 _ MA.out RA.out (fun e => by cases e) (fun g o e _ => by injection e with e; injection e with e1; exact e1 ▸ NA.out) (by decide)).mono ?_
  rintro e w3 ⟨he, hk, hm⟩
  obtain rfl : e = .returned (.int .i64 0) := he.trans (by rw [v3])
  have M3 : Hid (DkAt w3 w.heap.size w.heap.size D3) := hm
  have B3 := Lib.hid (BA.out.trans (hk.below (fun k hk e => by omega) BA.out.size))
  clear hk hm he MA BA M2 B2 RA NA
  go_wp2_with (fail)
  have MA := Lib.hid (M3.out.box ((Below.refl w3.heap.size w3).alloc (Nat.le_refl _) (.cells #[.int .u8 49, .int .u8 50, .int .u8 51, .int .u8 52, .int .u8 53, .int .u8 54] 5 (6, 7))))
  have BA := Lib.hid (B3.out.alloc B3.out.size (.cells #[.int .u8 49, .int .u8 50, .int .u8 51, .int .u8 52, .int .u8 53, .int .u8 54] 5 (6, 7)))
  have RA := Lib.hid (rd_mark w3 5 (6, 7) #[.int .u8 49, .int .u8 50, .int .u8 51, .int .u8 52, .int .u8 53, .int .u8 54])
  have NA : Hid (w3.heap.size ≠ w.heap.size) := Nat.ne_of_gt M3.out.lt
  refine (append_any _ _ 1 (some ⟨w3.heap.size, 0, none⟩) 6 [49, 50, 51, 52, 53, 54] D3 ok3 _ MA.out RA.out (fun e => by cases e) (fun g o e _ => by injection e with e; injection e with e1; exact e1 ▸ NA.out) (by decide)).mono ?_
  rintro e w4 ⟨he, hk, hm⟩
  obtain rfl : e = .returned (.int .i64 7) := he.trans (by rw [v4])
  have M4 : Hid (DkAt w4 w.heap.size w.heap.size D4) := hm
  have B4 := Lib.hid (BA.out.trans (hk.below (fun k hk e => by omega) BA.out.size))
  clear hk hm he MA BA M3 B3 RA NA
  go_wp2_with (fail)
  have MA := M4
  have BA := B4
  refine (append_any _ _ 64 none 0 [] D4 ok4 _ MA.out (by intro j u hj; simp [bys] at hj) (fun _ => rfl) (fun g o e _ => by cases e) (by decide)).mono ?_
  rintro e w5 ⟨he, hk, hm⟩
  obtain rfl : e = .returned (.int .i64 1) := he.trans (by rw [v5])
  have M5 : Hid (DkAt w5 w.heap.size w.heap.size D5) := hm
  have B5 := Lib.hid (BA.out.trans (hk.below (fun k hk e => by omega) BA.out.size))
  clear hk hm he MA BA M4 B4
  go_wp2_with (fail)
  refine (sure_in _ _ 0 (by decide) D5 _ M5.out).mono ?_
  rintro e w5 ⟨he, rfl⟩
  obtain rfl : e = .returned (.int .i64 2) := he.trans (by rw [vs]; rfl)
  clear he
  go_wp2_with (fail)
  refine (left_any _ _ D5 ok5 _ M5.out).mono ?_
  rintro e w5 ⟨he, rfl⟩
  obtain rfl : e = .returned (.int .i64 5) := he.trans (by rw [vl])
  clear he
  go_wp2_with (fail)
  have MA := Lib.hid (M5.out.box ((Below.refl w5.heap.size w5).alloc (Nat.le_refl _) (.cells #[.int .i64 1, .int .i64 5] 3)))
  have BA := Lib.hid (B5.out.alloc B5.out.size (.cells #[.int .i64 1, .int .i64 5] 3))
  have RA := Lib.hid (rd_new (Bk.new w5 3 #[.int .i64 1, .int .i64 5]))
  have NA : Hid (w5.heap.size ≠ w.heap.size) := Nat.ne_of_gt M5.out.lt
  refine (crash_any _ _ (some ⟨w5.heap.size, 0, none⟩) 2 [1, 5] D5 ok5 _ MA.out RA.out (fun g o e _ => by injection e with e; injection e with e1; exact e1 ▸ NA.out) (by decide)).mono ?_
  rintro e w6 ⟨he, hk, hm⟩
  obtain rfl : e = .returned (.tuple #[]) := he
  have M6 : Hid (DkAt w6 w.heap.size w.heap.size D6) := hm
  have B6 := Lib.hid (BA.out.trans (hk.below (fun k hk e => by omega) BA.out.size))
  clear hk hm MA BA M5 B5 RA NA
  go_wp2_with (fail)
  refine (read_in _ _ 0 (by decide) D6 ok6 _ M6.out).mono ?_
  rintro e w7 ⟨v, he, ho, hb⟩
  rw [vr] at ho
  obtain ⟨AR, cR, rfl⟩ := own_shape ho
  obtain rfl : e = .returned (.tuple #[.slice AR 3 cR, .int .i64 0]) := he
  have R7 := Lib.hid (own_rd ho)
  have G7 : Hid (∀ g o, AR = some ⟨g, o, none⟩ → bys [120, 121, 122] ≠ [] → g ≠ w.heap.size) := by
    intro g o e _
    have := (own_ge ho g (by rw [e]; rfl)).1
    have := M6.out.lt
    omega
  have M7 := Lib.hid (M6.out.box hb)
  have B7 := Lib.hid (B6.out.trans (hb.mono B6.out.size))
  clear hb ho M6 B6
  go_wp2_with (fail)
  refine (read_out _ (-1) (by decide) _).mono ?_
  rintro e w6 ⟨rfl, rfl⟩
  have M6 := M7
  have B6 := B7
  have R6 := R7
  clear M7 B7 R7
  go_wp2_with (fail)
  have MA := M6
  have BA := B6
  refine (cut_any _ _ 0 4 D6 ok6 _ MA.out).mono ?_
  rintro e w7 ⟨he, hk, hm⟩
  obtain rfl : e = .returned (.int .i64 1) := he.trans (by rw [v7])
  have M7 : Hid (DkAt w7 w.heap.size w.heap.size D7) := hm
  have B7 := Lib.hid (BA.out.trans (hk.below (fun k hk e => by omega) BA.out.size))
  have R7 := Lib.hid (rd_kp R6.out hk G7.out)
  clear hk hm he MA BA M6 B6 R6
  go_wp2_with (fail)
  have MA := M7
  have BA := B7
  refine (cut_any _ _ 0 1 D7 ok7 _ MA.out).mono ?_
  rintro e w8 ⟨he, hk, hm⟩
  obtain rfl : e = .returned (.int .i64 0) := he.trans (by rw [v8])
  have M8 : Hid (DkAt w8 w.heap.size w.heap.size D8) := hm
  have B8 := Lib.hid (BA.out.trans (hk.below (fun k hk e => by omega) BA.out.size))
  have R8 := Lib.hid (rd_kp R7.out hk G7.out)
  clear hk hm he MA BA M7 B7 R7
  go_wp2_with (fail)
  have MA := M8
  have BA := B8
  refine (fuse_any _ _ 1 D8 _ MA.out).mono ?_
  rintro e w9 ⟨he, hk, hm⟩
  obtain rfl : e = .returned (.tuple #[]) := he
  have M9 : Hid (DkAt w9 w.heap.size w.heap.size D9) := hm
  have B9 := Lib.hid (BA.out.trans (hk.below (fun k hk e => by omega) BA.out.size))
  have R9 := Lib.hid (rd_kp R8.out hk G7.out)
  clear hk hm MA BA M8 B8 R8
  go_wp2_with (fail)
  have MA := M9
  have BA := B9
  refine (sync_any _ _ 0 D9 ok9 _ MA.out).mono ?_
  rintro e w10 ⟨he, hk, hm⟩
  obtain rfl : e = .returned (.int .i64 0) := he.trans (by rw [v10])
  have M10 : Hid (DkAt w10 w.heap.size w.heap.size D10) := hm
  have B10 := Lib.hid (BA.out.trans (hk.below (fun k hk e => by omega) BA.out.size))
  have R10 := Lib.hid (rd_kp R9.out hk G7.out)
  clear hk hm he MA BA M9 B9 R9
  go_wp2_with (fail)
  have MA := Lib.hid (M10.out.box ((Below.refl w10.heap.size w10).alloc (Nat.le_refl _) (.cells #[.int .u8 113] 5 (1, 2))))
  have BA := Lib.hid (B10.out.alloc B10.out.size (.cells #[.int .u8 113] 5 (1, 2)))
  have RA := Lib.hid (rd_mark w10 5 (1, 2) #[.int .u8 113])
  have NA : Hid (w10.heap.size ≠ w.heap.size) := Nat.ne_of_gt M10.out.lt
  refine (append_any _ _ 3 (some ⟨w10.heap.size, 0, none⟩) 1 [113] D10 ok10 _ MA.out RA.out (fun e => by cases e) (fun g o e _ => by injection e with e; injection e with e1; exact e1 ▸ NA.out) (by decide)).mono ?_
  rintro e w11 ⟨he, hk, hm⟩
  obtain rfl : e = .returned (.int .i64 8) := he.trans (by rw [v11])
  have M11 : Hid (DkAt w11 w.heap.size w.heap.size D11) := hm
  have B11 := Lib.hid (BA.out.trans (hk.below (fun k hk e => by omega) BA.out.size))
  have R11 := Lib.hid (rd_kp (R10.out.below ((Below.refl w10.heap.size w10).alloc (Nat.le_refl _) (.cells #[.int .u8 113] 5 (1, 2)))) hk G7.out)
  clear hk hm he MA BA M10 B10 RA NA R10
  go_wp2_with (fail)
  refine (same_any AR (some ⟨w11.heap.size, 0, none⟩) cR 3 [120, 121, 122] _ (R11.out.below ((Below.refl _ _).alloc (Nat.le_refl _) _)) (rd_mark w11 5 (3, 4) #[.int .u8 120, .int .u8 121, .int .u8 122]) (by decide)).mono ?_
  rintro e w12 ⟨rfl, hb⟩
  have A12 := ((Below.refl w11.heap.size w11).alloc (Nat.le_refl _) (.cells #[.int .u8 120, .int .u8 121, .int .u8 122] 5 (3, 4))).trans (hb.mono (by simp))
  have M12 := Lib.hid (M11.out.box A12)
  have B12 := Lib.hid (B11.out.trans (A12.mono B11.out.size))
  clear hb A12 B11 M11 R11
  go_wp2_with (fail)
  refine (down_any _ _ D11 _ M12.out).mono ?_
  rintro e w12 ⟨he, rfl⟩
  obtain rfl : e = .returned (.bool true) := he.trans (by rw [vd])
  clear he
  go_wp2_with (fail)
  refine (files_any _ _ D11 ok11 _ M12.out).mono ?_
  rintro e w13 ⟨v, rfl, ho, hb⟩
  rw [vf] at ho
  obtain ⟨AF, cF, rfl⟩ := own_shape ho
  have R13 := Lib.hid (own_rd ho)
  have M13 := Lib.hid (M12.out.box hb)
  have B13 := Lib.hid (B12.out.trans (hb.mono B12.out.size))
  clear hb ho M12 B12
  go_wp2_with (fail)
  refine (ints_any AF (some ⟨w13.heap.size, 0, none⟩) cF 1 [0] _ (R13.out.below ((Below.refl _ _).alloc (Nat.le_refl _) _)) (rd_new (Bk.new w13 3 #[.int .i64 0])) (by decide)).mono ?_
  rintro e w14 ⟨rfl, hb⟩
  have A14 := ((Below.refl w13.heap.size w13).alloc (Nat.le_refl _) (.cells #[.int .i64 0] 3)).trans (hb.mono (by simp))
  have M14 := Lib.hid (M13.out.box A14)
  have B14 := Lib.hid (B13.out.trans (A14.mono B13.out.size))
  clear hb A14 B13 M13 R13
  go_wp2_with (fail)
  refine (left_any _ _ D11 ok11 _ M14.out).mono ?_
  rintro e w14 ⟨he, rfl⟩
  obtain rfl : e = .returned (.int .i64 9) := he.trans (by rw [vl2])
  clear he
  go_wp2_with (fail)
  refine (sure_in _ _ 0 (by decide) D11 _ M14.out).mono ?_
  rintro e w14 ⟨he, rfl⟩
  obtain rfl : e = .returned (.int .i64 1) := he.trans (by rw [vs2]; rfl)
  clear he
  go_wp2_with (fail)
  go_ret
  exact ⟨rfl, B14.out⟩
end Go.Proofs.Ythblfkopofmdfaa
