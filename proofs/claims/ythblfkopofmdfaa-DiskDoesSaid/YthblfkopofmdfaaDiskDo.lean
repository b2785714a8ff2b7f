/-
  What holds of every disk; New; do.
-/
import Derived.Test.YthblfkopofmdfaaDiskCrash
set_option linter.unusedVariables false
set_option linter.unusedSimpArgs false
namespace Go.Proofs.Ythblfkopofmdfaa
open Go.RowKit

theorem sumLen_upd (f : Nat → List Int) (i : Nat) (l : List Int) (k : Nat) (hi : i < k) : sumLen (upd f i l) k + (f i).length = sumLen f k + l.length := by
  induction k with
  | zero => omega
  | succ k ih =>
    have e1 : sumLen (upd f i l) (k + 1) = sumLen (upd f i l) k + (upd f i l k).length := rfl
    have e2 : sumLen f (k + 1) = sumLen f k + (f k).length := rfl
    rw [e1, e2]
    by_cases h : i < k
    · have := ih h
      have e3 : upd f i l k = f k := by unfold upd; rw [if_neg (by omega)]
      rw [e3]
      omega
    · obtain rfl : k = i := by omega
      have e3 : upd f k l k = l := by unfold upd; rw [if_pos rfl]
      have e4 : ∀ j, j ≤ k → sumLen (upd f k l) j = sumLen f j := by
        intro j
        induction j with
        | zero => intro _; rfl
        | succ j ihj =>
          intro hj
          have a1 : sumLen (upd f k l) (j + 1) = sumLen (upd f k l) j + (upd f k l j).length := rfl
          have a2 : sumLen f (j + 1) = sumLen f j + (f j).length := rfl
          have a3 : upd f k l j = f j := by unfold upd; rw [if_neg (by omega)]
          rw [a1, a2, a3, ihj (by omega)]
      rw [e3, e4 k (Nat.le_refl _)]
      omega

theorem sumLen_le {f g : Nat → List Int} (h : ∀ i, (f i).length ≤ (g i).length) (k : Nat) : sumLen f k ≤ sumLen g k := by
  induction k with
  | zero => exact Nat.le_refl _
  | succ k ih =>
    have e1 : sumLen f (k + 1) = sumLen f k + (f k).length := rfl
    have e2 : sumLen g (k + 1) = sumLen g k + (g k).length := rfl
    have := h k
    omega

theorem Dk.fuse_ok {d : Dk} (h : d.ok) {n : Int} (hn : n ≤ 9223372036854775807) : (d.fuse n).ok := by
  refine ⟨h.sure, h.sum, h.room, ?_⟩
  intro m hm
  unfold Dk.fuse at hm
  dsimp only at hm
  split at hm
  · injection hm with hm; omega
  · cases hm

theorem Dk.sync_ok {d : Dk} (h : d.ok) (n : Int) : (d.sync n).1.ok := by
  unfold Dk.sync
  have hs := d.step_ok h
  obtain ⟨e1, e2, e3⟩ := d.step_b
  split
  · exact h
  · split
    · refine ⟨?_, hs.sum, hs.room, hs.fuse⟩
      intro i hi
      dsimp only
      rw [e1]
      unfold upd
      split
      · rename_i e; subst e; exact Nat.le_refl _
      · exact h.sure i hi
    · exact hs

theorem Dk.append_ok {d : Dk} (h : d.ok) (n : Int) (xs : List Int) : (d.append n xs).1.ok := by
  unfold Dk.append
  have hs := d.step_ok h
  obtain ⟨e1, e2, e3⟩ := d.step_b
  split
  · exact h
  · rename_i hn
    split
    · split
      · rename_i hl
        have hsum := sumLen_upd d.b n.toNat (d.b n.toNat ++ xs) 64 (by omega)
        rw [List.length_append] at hsum
        unfold Dk.left at hl
        have hsm := h.sum
        refine ⟨?_, ?_, hs.room, hs.fuse⟩
        · intro i hi
          dsimp only
          rw [e2]
          unfold upd
          have := h.sure i hi
          split
          · rename_i e; subst e; rw [List.length_append]; omega
          · exact this
        · dsimp only
          rw [e3]
          generalize sumLen d.b 64 = S at *
          generalize sumLen (upd d.b n.toNat (d.b n.toNat ++ xs)) 64 = S' at *
          omega
      · exact hs
    · exact hs

theorem Dk.cut_ok {d : Dk} (h : d.ok) (n left : Int) : (d.cut n left).1.ok := by
  unfold Dk.cut
  have hs := d.step_ok h
  obtain ⟨e1, e2, e3⟩ := d.step_b
  split
  · exact h
  · rename_i hn
    split
    · refine ⟨?_, ?_, hs.room, hs.fuse⟩
      · intro i hi
        dsimp only
        unfold upd
        have := h.sure i hi
        split
        · rename_i e; subst e; rw [List.length_take]; omega
        · exact this
      · have hle := sumLen_le (f := upd d.b n.toNat ((d.b n.toNat).take left.toNat)) (g := d.b) (fun i => by
          unfold upd
          split
          · rename_i e; subst e; rw [List.length_take]; omega
          · exact Nat.le_refl _) 64
        have hsm := h.sum
        dsimp only
        rw [e3]
        generalize sumLen d.b 64 = S at *
        generalize sumLen (upd d.b n.toNat ((d.b n.toNat).take left.toNat)) 64 = S' at *
        omega
    · exact hs

theorem more_le (kept : List Int) (i r : Nat) : more kept i r ≤ r := by
  unfold more
  split <;> omega

theorem Dk.crash_ok {d : Dk} (h : d.ok) (kept : List Int) : (d.crash kept).ok := by
  refine ⟨?_, ?_, h.room, fun n hn => by cases hn⟩
  · intro i hi
    have h1 := h.sure i hi
    have h2 := more_le kept i ((d.b i).length - d.s i)
    show (if i < 64 then _ else _) ≤ (if i < 64 then _ else _ : List Int).length
    rw [if_pos hi, if_pos hi, List.length_take]
    omega
  · have hle := sumLen_le (f := (d.crash kept).b) (g := d.b) (fun i => by
      show (if i < 64 then _ else _ : List Int).length ≤ _
      split
      · rw [List.length_take]; omega
      · exact Nat.le_refl _) 64
    have hsm := h.sum
    show ((sumLen (d.crash kept).b 64 : Nat) : Int) ≤ d.room
    generalize sumLen d.b 64 = S at *
    generalize sumLen (d.crash kept).b 64 = S' at *
    omega

/-- An act. -/
structure Ac where
  d : Int
  f : Int
  n : Int
  b : List Int
  k : List Int

def Dk.act (d : Dk) (a : Ac) : Dk × Int :=
  if a.d = 0 then d.append a.f a.b else if a.d = 1 then d.sync a.f else if a.d = 2 then d.cut a.f a.n else if a.d = 3 then (d.fuse a.n, 0) else if a.d = 4 then (d.crash a.k, 0) else (d, 0)

theorem Dk.act_ok {d : Dk} (h : d.ok) (a : Ac) (hn : a.n ≤ 9223372036854775807) : (d.act a).1.ok := by
  unfold Dk.act
  repeat' split
  · exact d.append_ok h _ _
  · exact d.sync_ok h _
  · exact d.cut_ok h _ _
  · exact d.fuse_ok h hn
  · exact d.crash_ok h _
  · exact h

def Dk.new (room : Int) : Dk := ⟨fun _ => [], fun _ => 0, room, none, false⟩

theorem Dk.new_ok {room : Int} (h0 : 0 ≤ room) (h1 : room ≤ 1048576) : (Dk.new room).ok := by
  refine ⟨fun _ _ => Nat.le_refl _, ?_, h1, fun n hn => by cases hn⟩
  have : ∀ k, sumLen (Dk.new room).b k = 0 := by
    intro k
    induction k with
    | zero => rfl
    | succ k ih =>
      have e : sumLen (Dk.new room).b (k + 1) = sumLen (Dk.new room).b k + 0 := rfl
      rw [e, ih]
  rw [this 64]
  exact h0

def pairs : Nat → List Value
  | 0 => []
  | k + 1 => Value.slice none 0 0 :: Value.int .i64 0 :: pairs k

theorem pairs_length : ∀ n, (pairs n).length = n * 2
  | 0 => rfl
  | n + 1 => by simp only [pairs, List.length_cons, pairs_length n]; omega

theorem pairs_at : ∀ (n i : Nat) (t : List Value), i < n → (pairs n ++ t)[i * 2]? = some (.slice none 0 0) ∧ (pairs n ++ t)[i * 2 + 1]? = some (.int .i64 0)
  | n + 1, 0, t, _ => ⟨rfl, rfl⟩
  | n + 1, i + 1, t, h => by
    have := pairs_at n i t (by omega)
    rw [show (i + 1) * 2 = i * 2 + 1 + 1 from by omega]
    simpa [pairs] using this

def newT (room : Int) : List Value := [.int .i64 room, .int .i64 0, .bool false, .bool false]
def newA (room : Int) : Array Value := (pairs 64 ++ newT room).toArray

theorem newA_size (room : Int) : (newA room).size = 132 := by
  unfold newA newT
  simp [pairs_length]

theorem newA_end (room : Int) (j : Nat) : (newA room)[128 + j]? = (newT room)[j]? := by
  unfold newA
  rw [List.getElem?_toArray, List.getElem?_append_right (by rw [pairs_length]; omega), pairs_length]
  have e : 128 + j - 64 * 2 = j := by omega
  rw [e]

theorem newA_at (room : Int) (i : Nat) (hi : i < 64) : (newA room)[i * 2]? = some (.slice none 0 0) ∧ (newA room)[i * 2 + 1]? = some (.int .i64 0) := by
  unfold newA
  rw [List.getElem?_toArray, List.getElem?_toArray]
  exact pairs_at 64 i _ hi

theorem newA_set (room : Int) : (newA 0).setIfInBounds 128 (.int .i64 room) = newA room := by
  apply Array.ext_getElem?
  intro k
  rw [set_at _ _ _ _ (by rw [newA_size]; decide)]
  by_cases hk : k = 128
  · subst hk
    rw [if_pos rfl]
    exact (newA_end room 0).symm
  · rw [if_neg hk]
    rcases Nat.lt_or_ge k 128 with h | h
    · have h0 := newA_at 0 (k / 2) (by omega)
      have h1 := newA_at room (k / 2) (by omega)
      rcases Nat.mod_two_eq_zero_or_one k with e | e
      · rw [show k = k / 2 * 2 by omega, h0.1, h1.1]
      · rw [show k = k / 2 * 2 + 1 by omega, h0.2, h1.2]
    · obtain ⟨j, rfl⟩ : ∃ j, k = 128 + j := ⟨k - 128, by omega⟩
      rw [newA_end, newA_end]
      cases j with
      | zero => exact absurd rfl hk
      | succ j => rfl

set_option maxRecDepth 100000 in
theorem new_in (room : Int) (h0 : 0 ≤ room) (h1 : room ≤ 1048576) (w : World) : Calls Try.prog 8 #[.int .i64 room] w fun e w' => e = .returned (.tuple #[.pointer (some ⟨w.heap.size, 0, none⟩), .int .i64 0]) ∧ w' = w.alloc (.cells (newA room) 61) := by
  have d1 : decide (room < 0) = false := by simp; omega
  have d2 : decide (1048576 < room) = false := by simp; omega
  have hz : ∀ w, (zeroValue 61).run Try.prog w = .ok (.agg (newA 0)) w := by intro w; kernel_rfl
  have hsz := newA_size 0
  have hset := newA_set
  go_enter Try.func8, Try.ntmps8
  go_wp2_with (fail)
  go_ret2
  exact ⟨rfl, rfl⟩

theorem dk_new (room : Int) (w : World) : DkAt (w.alloc (.cells (newA room) 61)) w.heap.size w.heap.size (Dk.new room) := by
  refine ⟨Nat.le_refl _, _, Bk.new w _ _, ?_⟩
  refine ⟨newA_size room, fun i hi => ⟨_, (newA_at room i hi).1, ⟨none, 0, rfl, by simp [Dk.new], by intro j u hj; simp [bys, Dk.new] at hj, .inl rfl, fun _ => ⟨rfl, rfl⟩⟩⟩, fun i hi => (newA_at room i hi).2, newA_end room 0, ⟨0, newA_end room 1, fun n hn => by cases hn⟩, newA_end room 2, newA_end room 3⟩

theorem new_out (room : Int) (h : room < 0 ∨ 1048576 < room) (w : World) : Calls Try.prog 8 #[.int .i64 room] w fun e w' => e = .returned (.tuple #[.pointer none, .int .i64 1]) ∧ w' = w := by
  go_enter Try.func8, Try.ntmps8
  by_cases h0 : room < 0
  · go_wp2_with (fail)
    go_ret2
    exact ⟨rfl, rfl⟩
  · have d2 : decide (1048576 < room) = true := by simp; omega
    go_wp2_with (fail)
    go_ret2
    exact ⟨rfl, rfl⟩
end Go.Proofs.Ythblfkopofmdfaa
