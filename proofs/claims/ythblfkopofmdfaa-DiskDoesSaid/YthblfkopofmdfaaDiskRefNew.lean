/-
  The document's disk: New.
-/
import Derived.Test.YthblfkopofmdfaaDiskRefSync
set_option linter.unusedVariables false
set_option linter.unusedSimpArgs false
namespace Go.Proofs.Ythblfkopofmdfaa
open Go.RowKit

def rT (room fu : Int) : List Value := [.int .i64 room, .int .i64 fu, .bool false]
def rA (room fu : Int) : Array Value := (List.replicate 64 (Value.slice none 0 0) ++ (List.replicate 64 (Value.int .i64 0) ++ rT room fu)).toArray

theorem rA_size (room fu : Int) : (rA room fu).size = 131 := by
  unfold rA rT
  simp

theorem rA_file (room fu : Int) (i : Nat) (hi : i < 64) : (rA room fu)[i]? = some (.slice none 0 0) := by
  unfold rA
  rw [List.getElem?_toArray, List.getElem?_append_left (by simpa using hi), List.getElem?_replicate, if_pos hi]

theorem rA_sure (room fu : Int) (i : Nat) (hi : i < 64) : (rA room fu)[64 + i]? = some (.int .i64 0) := by
  unfold rA
  rw [List.getElem?_toArray, List.getElem?_append_right (by simp), List.length_replicate, Nat.add_sub_cancel_left, List.getElem?_append_left (by simpa using hi), List.getElem?_replicate, if_pos hi]

theorem rA_end (room fu : Int) (j : Nat) : (rA room fu)[128 + j]? = (rT room fu)[j]? := by
  unfold rA
  have e1 : 128 + j - 64 = 64 + j := by omega
  rw [List.getElem?_toArray, List.getElem?_append_right (by simp; omega), List.length_replicate, e1, List.getElem?_append_right (by simp), List.length_replicate, Nat.add_sub_cancel_left]

theorem rA_ext (cs : Array Value) (room fu : Int) (h : ∀ i, i < 128 → cs[i]? = (rA room fu)[i]?) (h2 : ∀ j, cs[128 + j]? = (rT room fu)[j]?) : cs = rA room fu := by
  apply Array.ext_getElem?
  intro k
  rcases Nat.lt_or_ge k 128 with hk | hk
  · exact h k hk
  · obtain ⟨j, rfl⟩ : ∃ j, k = 128 + j := ⟨k - 128, by omega⟩
    rw [h2, rA_end]

theorem rA_same (a b a' b' : Int) (i : Nat) (hi : i < 128) : (rA a b)[i]? = (rA a' b')[i]? := by
  rcases Nat.lt_or_ge i 64 with h | h
  · rw [rA_file _ _ _ h, rA_file _ _ _ h]
  · obtain ⟨j, rfl⟩ : ∃ j, i = 64 + j := ⟨i - 64, by omega⟩
    rw [rA_sure _ _ _ (by omega), rA_sure _ _ _ (by omega)]

theorem rA_room (room : Int) : (rA 0 0).setIfInBounds 128 (.int .i64 room) = rA room 0 := by
  refine rA_ext _ _ _ (fun i hi => ?_) (fun j => ?_)
  · rw [set_at _ _ _ _ (by rw [rA_size]; decide), if_neg (by omega)]
    exact rA_same _ _ _ _ i hi
  · rw [set_at _ _ _ _ (by rw [rA_size]; decide)]
    match j with
    | 0 => rw [if_pos rfl]; rfl
    | j + 1 => rw [if_neg (by omega), rA_end]; rfl

theorem rA_fuse (room : Int) : (rA room 0).setIfInBounds 129 (.int .i64 (-1)) = rA room (-1) := by
  refine rA_ext _ _ _ (fun i hi => ?_) (fun j => ?_)
  · rw [set_at _ _ _ _ (by rw [rA_size]; decide), if_neg (by omega)]
    exact rA_same _ _ _ _ i hi
  · rw [set_at _ _ _ _ (by rw [rA_size]; decide)]
    match j with
    | 0 => rw [if_neg (by omega), rA_end]; rfl
    | 1 => rw [if_pos rfl]; rfl
    | j + 2 => rw [if_neg (by omega), rA_end]; rfl

theorem rk_new (room : Int) (w : World) : RkAt (w.alloc (.cells (rA room (-1)) 50)) w.heap.size w.heap.size (Dk.new room) :=
  ⟨Nat.le_refl _, _, Bk.new w _ _, ⟨rA_size _ _, fun i hi => ⟨_, rA_file _ _ i hi, ⟨none, 0, rfl, by simp [Dk.new], by intro j u hj; simp [bys, Dk.new] at hj, .inl rfl, fun _ => ⟨rfl, rfl⟩⟩⟩, fun i hi => rA_sure _ _ i hi, rA_end room (-1) 0, rA_end room (-1) 1, rA_end room (-1) 2⟩⟩

set_option maxRecDepth 100000 in
theorem rnew_in (room : Int) (h0 : 0 ≤ room) (h1 : room ≤ 1048576) (w : World) : Calls Try.prog 9 #[.int .i64 room] w fun e w' => e = .returned (.tuple #[.pointer (some ⟨w.heap.size, 0, none⟩), .int .i64 0]) ∧ w' = w.alloc (.cells (rA room (-1)) 50) := by
  have d1 : decide (room < 0) = false := by simp; omega
  have d2 : decide (1048576 < room) = false := by simp; omega
  have hz : ∀ w, (zeroValue 50).run Try.prog w = .ok (.agg (rA 0 0)) w := by intro w; kernel_rfl
  have hsz := rA_size 0 0
  have hsz2 := rA_size room 0
  have hset := rA_room room
  have hset2 := rA_fuse room
  go_enter Try.func9, Try.ntmps9
  go_wp2_with (fail)
  go_ret2
  exact ⟨rfl, rfl⟩

theorem rnew_out (room : Int) (h : room < 0 ∨ 1048576 < room) (w : World) : Calls Try.prog 9 #[.int .i64 room] w fun e w' => e = .returned (.tuple #[.pointer none, .int .i64 1]) ∧ w' = w := by
  go_enter Try.func9, Try.ntmps9
  by_cases h0 : room < 0
  · go_wp2_with (fail)
    go_ret2
    exact ⟨rfl, rfl⟩
  · have d2 : decide (1048576 < room) = true := by simp; omega
    go_wp2_with (fail)
    go_ret2
    exact ⟨rfl, rfl⟩
end Go.Proofs.Ythblfkopofmdfaa
