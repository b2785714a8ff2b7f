/-
  The walks through package disk: New, of, Sure, Down, Fuse, Left, step.
-/
import Derived.Test.YthblfkopofmdfaaRows
import Derived.Test.YthblfkopofmdfaaOwn
import Derived.WalkSpells
import Derived.WalkLawsBesides
import Derived.StillTactics
import Derived.Laws.Pointers
import Derived.Laws.EntriesVeiled
import Derived.Deep.QuietTactic
import Derived.BigQuiet
import Derived.Deep.RegionHeld3
import Derived.Defers
set_option linter.unusedVariables false
set_option linter.unusedSimpArgs false
namespace Go.Proofs.Ythblfkopofmdfaa
open Go.RowKit

/-- Files, with how many bytes of each are sure; the room; after how many steps the power goes, if it does; is it gone? -/
structure Dk where
  b : Nat → List Int
  s : Nat → Nat
  room : Int
  fu : Option Nat
  down : Bool

def bys (l : List Int) : List Value := l.map (Value.int .u8)
theorem bys_length (l : List Int) : (bys l).length = l.length := by simp [bys]

/-- What a file's slice shows. -/
structure Fl (w : World) (B b : Nat) (v : Value) (l : List Int) : Prop where
  row : ∃ A c, v = .slice A l.length c ∧ l.length ≤ c ∧ Rd w A (bys l) ∧ (A = none ∨ ∃ g o, A = some ⟨g, o, none⟩ ∧ B ≤ g ∧ g ≠ b ∧ g < w.heap.size) ∧ (A = none → l.length = 0 ∧ c = 0)

theorem Fl.keep {w w' : World} {B b : Nat} {v : Value} {l : List Int} (h : Fl w B b v l) (k : Kp (· = b) w w') : Fl w' B b v l := by
  obtain ⟨A, c, rfl, hc, hr, hA, h0⟩ := h.row
  refine ⟨A, c, rfl, hc, ?_, ?_, h0⟩
  · intro j u hj
    obtain ⟨g, o, rfl, hl, hcell⟩ := hr j u hj
    have hne : g ≠ b := by
      rcases hA with hA | ⟨g', o', hA, _, hne, _⟩
      · cases hA
      · injection hA with hA; injection hA with h1; omega
    exact ⟨g, o, rfl, Nat.lt_of_lt_of_le hl k.size, (k.cell (p := ⟨g, o + j, none⟩) hl hne).trans hcell⟩
  · rcases hA with rfl | ⟨g, o, rfl, h1, h2, h3⟩
    · exact .inl rfl
    · exact .inr ⟨g, o, rfl, h1, h2, Nat.lt_of_lt_of_le h3 k.size⟩

/-- The cells of a disk. -/
structure Cs (w : World) (B b : Nat) (d : Dk) (cs : Array Value) : Prop where
  size : cs.size = 132
  files : ∀ i, i < 64 → ∃ v, cs[i * 2]? = some v ∧ Fl w B b v (d.b i)
  sure : ∀ i, i < 64 → cs[i * 2 + 1]? = some (.int .i64 (d.s i))
  room : cs[128]? = some (.int .i64 d.room)
  fuse : ∃ z : Int, cs[129]? = some (.int .i64 z) ∧ ∀ n : Nat, d.fu = some n → z = n
  down : cs[130]? = some (.bool d.down)
  fused : cs[131]? = some (.bool d.fu.isSome)

/-- At block b lies a disk. -/
structure DkAt (w : World) (B b : Nat) (d : Dk) : Prop where
  ge : B ≤ b
  row : ∃ cs, Bk w b 61 cs ∧ Cs w B b d cs

theorem DkAt.lt {w : World} {B b : Nat} {d : Dk} (h : DkAt w B b d) : b < w.heap.size := by
  obtain ⟨cs, hb, _⟩ := h.row
  exact hb.lt

theorem Cs.keep {w w' : World} {B b : Nat} {d : Dk} {cs : Array Value} (h : Cs w B b d cs) (k : Kp (· = b) w w') : Cs w' B b d cs :=
  ⟨h.size, fun i hi => by obtain ⟨v, h1, h2⟩ := h.files i hi; exact ⟨v, h1, h2.keep k⟩, h.sure, h.room, h.fuse, h.down, h.fused⟩

theorem kp_below {w w' : World} {b : Nat} (hb : Below w.heap.size w w') : Kp (· = b) w w' := (Kp.of_below hb).mono (fun i hi (h : w.heap.size ≤ i) => absurd hi (by omega))

theorem DkAt.box {w : World} {B b : Nat} {d : Dk} (h : DkAt w B b d) {w' : World} (hb : Below w.heap.size w w') : DkAt w' B b d := by
  obtain ⟨cs, hk, hc⟩ := h.row
  exact ⟨h.ge, cs, hk.below hb hk.lt, hc.keep (kp_below hb)⟩

theorem of_in (b i : Nat) (hi : i < 64) (w : World) : Calls Try.prog 34 #[.pointer (some ⟨b, 0, none⟩), .int .i64 i] w fun e w' => e = .returned (.pointer (some ⟨b, i * 2, none⟩)) ∧ w' = w := by
  have h0 : decide ((i : Int) < 0) = false := by simp
  have h1 : decide ((i : Int) ≥ 64) = false := by simp; omega
  go_enter Try.func34, Try.ntmps34
  go_wp2_with (fail)
  go_ret
  exact ⟨rfl, rfl⟩

theorem of_out (b : Nat) (n : Int) (hn : n < 0 ∨ 64 ≤ n) (w : World) : Calls Try.prog 34 #[.pointer (some ⟨b, 0, none⟩), .int .i64 n] w fun e w' => e = .returned (.pointer none) ∧ w' = w := by
  go_enter Try.func34, Try.ntmps34
  rcases hn with hn | hn
  · go_wp2_with (fail)
    go_ret
    exact ⟨rfl, rfl⟩
  · by_cases h0 : n < 0
    · go_wp2_with (fail)
      go_ret
      exact ⟨rfl, rfl⟩
    · go_wp2_with (fail)
      go_ret
      exact ⟨rfl, rfl⟩

theorem sure_in (B b i : Nat) (hi : i < 64) (d : Dk) (w : World) (h : DkAt w B b d) : Calls Try.prog 19 #[.pointer (some ⟨b, 0, none⟩), .int .i64 i] w fun e w' => e = .returned (.int .i64 (d.s i)) ∧ w' = w := by
  obtain ⟨cs, hk, hc⟩ := h.row
  have q : w.cell? ⟨b, i * 2 + 1, none⟩ = some (.int .i64 (d.s i)) := (hk.cell _).trans (hc.sure i hi)
  clear hk hc h
  go_enter Try.func19, Try.ntmps19
  go_wp2_with (fail)
  refine (of_in b i hi _).mono ?_
  rintro e w' ⟨rfl, rfl⟩
  go_wp2_with (fail)
  go_ret
  exact ⟨rfl, rfl⟩

theorem sure_out (b : Nat) (n : Int) (hn : n < 0 ∨ 64 ≤ n) (w : World) : Calls Try.prog 19 #[.pointer (some ⟨b, 0, none⟩), .int .i64 n] w fun e w' => e = .returned (.int .i64 0) ∧ w' = w := by
  go_enter Try.func19, Try.ntmps19
  go_wp2_with (fail)
  refine (of_out b n hn _).mono ?_
  rintro e w' ⟨rfl, rfl⟩
  go_wp2_with (fail)
  go_ret
  exact ⟨rfl, rfl⟩

theorem down_any (B b : Nat) (d : Dk) (w : World) (h : DkAt w B b d) : Calls Try.prog 23 #[.pointer (some ⟨b, 0, none⟩)] w fun e w' => e = .returned (.bool d.down) ∧ w' = w := by
  obtain ⟨cs, hk, hc⟩ := h.row
  have q : w.cell? ⟨b, 130, none⟩ = some (.bool d.down) := (hk.cell _).trans hc.down
  clear hk hc h
  go_enter Try.func23, Try.ntmps23
  go_wp2_with (fail)
  go_ret
  exact ⟨rfl, rfl⟩

def upd {α : Type} (f : Nat → α) (i : Nat) (x : α) : Nat → α := fun k => if k = i then x else f k

theorem set_at (cs : Array Value) (j k : Nat) (u : Value) (hj : j < cs.size) : (cs.setIfInBounds j u)[k]? = if k = j then some u else cs[k]? := by
  rw [Array.getElem?_setIfInBounds]
  by_cases h : j = k
  · subst h; simp [hj]
  · rw [if_neg h, if_neg (fun e => h e.symm)]

/-- Other numbers at the end, the files as they were. -/
theorem Cs.scal {w : World} {B b : Nat} {d : Dk} {cs cs' : Array Value} (h : Cs w B b d cs) (hs : cs'.size = 132) (hf : ∀ k, k < 129 → cs'[k]? = cs[k]?) {fu : Option Nat} {down : Bool} (fuse : ∃ z : Int, cs'[129]? = some (.int .i64 z) ∧ ∀ n : Nat, fu = some n → z = n)
    (hd : cs'[130]? = some (.bool down)) (hfd : cs'[131]? = some (.bool fu.isSome)) : Cs w B b { d with fu := fu, down := down } cs' :=
  ⟨hs, fun i hi => by obtain ⟨v, h1, h2⟩ := h.files i hi; exact ⟨v, (hf _ (by omega)).trans h1, h2⟩, fun i hi => (hf _ (by omega)).trans (h.sure i hi), (hf _ (by omega)).trans h.room, fuse, hd, hfd⟩

theorem Cs.putB {w : World} {B b : Nat} {d : Dk} {cs : Array Value} (h : Cs w B b d cs) {i : Nat} (hi : i < 64) {v : Value} {l : List Int} (hv : Fl w B b v l) : Cs w B b { d with b := upd d.b i l } (cs.setIfInBounds (i * 2) v) := by
  have hz := h.size
  refine ⟨by simp [hz], fun k hk => ?_, fun k hk => ?_, ?_, ?_, ?_, ?_⟩
  · obtain ⟨v', h1, h2⟩ := h.files k hk
    by_cases e : k = i
    · subst e
      exact ⟨v, by rw [set_at _ _ _ _ (by omega), if_pos rfl], by simpa [upd] using hv⟩
    · exact ⟨v', by rw [set_at _ _ _ _ (by omega), if_neg (by omega)]; exact h1, by simpa [upd, e] using h2⟩
  · rw [set_at _ _ _ _ (by omega), if_neg (by omega)]; exact h.sure k hk
  · rw [set_at _ _ _ _ (by omega), if_neg (by omega)]; exact h.room
  · rw [set_at _ _ _ _ (by omega), if_neg (by omega)]; exact h.fuse
  · rw [set_at _ _ _ _ (by omega), if_neg (by omega)]; exact h.down
  · rw [set_at _ _ _ _ (by omega), if_neg (by omega)]; exact h.fused

theorem Cs.putS {w : World} {B b : Nat} {d : Dk} {cs : Array Value} (h : Cs w B b d cs) {i : Nat} (hi : i < 64) (n : Nat) : Cs w B b { d with s := upd d.s i n } (cs.setIfInBounds (i * 2 + 1) (.int .i64 n)) := by
  have hz := h.size
  refine ⟨by simp [hz], fun k hk => ?_, fun k hk => ?_, ?_, ?_, ?_, ?_⟩
  · obtain ⟨v', h1, h2⟩ := h.files k hk
    exact ⟨v', by rw [set_at _ _ _ _ (by omega), if_neg (by omega)]; exact h1, h2⟩
  · by_cases e : k = i
    · subst e
      rw [set_at _ _ _ _ (by omega), if_pos rfl]; simp [upd]
    · rw [set_at _ _ _ _ (by omega), if_neg (by omega)]; simpa [upd, e] using h.sure k hk
  · rw [set_at _ _ _ _ (by omega), if_neg (by omega)]; exact h.room
  · rw [set_at _ _ _ _ (by omega), if_neg (by omega)]; exact h.fuse
  · rw [set_at _ _ _ _ (by omega), if_neg (by omega)]; exact h.down
  · rw [set_at _ _ _ _ (by omega), if_neg (by omega)]; exact h.fused

def Dk.fuse (d : Dk) (n : Int) : Dk := { d with fu := if 0 ≤ n then some n.toNat else none }

/-- What a step without an answer's value leaves. -/
def StPost (B b : Nat) (d : Dk) (v : Value) (w : World) (e : Ending) (w' : World) : Prop :=
  e = .returned v ∧ Kp (· = b) w w' ∧ DkAt w' B b d

theorem fuse_any (B b : Nat) (n : Int) (d : Dk) (w : World) (h : DkAt w B b d) : Calls Try.prog 28 #[.pointer (some ⟨b, 0, none⟩), .int .i64 n] w (StPost B b (d.fuse n) (.tuple #[]) w) := by
  obtain ⟨cs, hk, hc⟩ := h.row
  have hge := h.ge
  have hz := hc.size
  obtain ⟨z, q, _⟩ := hc.fuse
  have q0 : w.cell? ⟨b, 129, none⟩ = some (.int .i64 z) := (hk.cell _).trans q
  have q1 : w.cell? ⟨b, 131, none⟩ = some (.bool d.fu.isSome) := (hk.cell _).trans hc.fused
  have f0 := hk.free 129
  have f1 := hk.free 131
  have HK := Lib.hid hk
  have HC := Lib.hid hc
  clear hk hc q h
  go_enter Try.func28, Try.ntmps28
  go_wp2_with (fail)
  go_end0
  refine ⟨rfl, ((Kp.refl _ w).set1 129 _).set1 131 _, hge, _, (HK.out.put 129 _).put 131 _, ?_⟩
  have hsz : (cs.setIfInBounds 129 (.int .i64 n)).size = 132 := by simp [hz]
  refine (HC.out.keep (((Kp.refl (· = b) w).set1 129 (.int .i64 n)).set1 131 (.bool (decide (0 ≤ n))))).scal (by simp [hz]) (fun k hk => ?_) ⟨n, ?_, fun m hm => ?_⟩ ?_ ?_
  · rw [set_at _ _ _ _ (by omega), if_neg (by omega), set_at _ _ _ _ (by omega), if_neg (by omega)]
  · rw [set_at _ _ _ _ (by omega), if_neg (by omega), set_at _ _ _ _ (by omega), if_pos rfl]
  · split at hm
    · injection hm with hm; omega
    · cases hm
  · rw [set_at _ _ _ _ (by omega), if_neg (by omega), set_at _ _ _ _ (by omega), if_neg (by omega)]; exact HC.out.down
  · rw [set_at _ _ _ _ (by omega), if_pos rfl]
    by_cases e : 0 ≤ n
    · simp [e]
    · simp [e]

def sumLen (f : Nat → List Int) : Nat → Nat
  | 0 => 0
  | k + 1 => sumLen f k + (f k).length

theorem sumLen_mono (f : Nat → List Int) {j k : Nat} (h : j ≤ k) : sumLen f j ≤ sumLen f k := by
  induction k with
  | zero =>
    obtain rfl : j = 0 := by omega
    exact Nat.le_refl _
  | succ k ih =>
    rcases Nat.lt_or_ge j (k + 1) with hj | hj
    · have := ih (by omega)
      simp only [sumLen]
      omega
    · obtain rfl : j = k + 1 := by omega
      exact Nat.le_refl _

/-- What holds of every disk. -/
structure Dk.ok (d : Dk) : Prop where
  sure : ∀ i, i < 64 → d.s i ≤ (d.b i).length
  sum : (sumLen d.b 64 : Int) ≤ d.room
  room : d.room ≤ 1048576
  fuse : ∀ n, d.fu = some n → n ≤ 9223372036854775807

theorem Dk.ok.len {d : Dk} (h : d.ok) {i : Nat} (hi : i < 64) : (d.b i).length ≤ 1048576 := by
  have h1 := sumLen_mono d.b (show i + 1 ≤ 64 by omega)
  have h2 := h.sum
  have h3 := h.room
  have h4 : sumLen d.b (i + 1) = sumLen d.b i + (d.b i).length := rfl
  rw [h4] at h1
  generalize sumLen d.b 64 = S at *
  omega

def Dk.left (d : Dk) : Int := d.room - (sumLen d.b 64 : Int)

theorem left_any (B b : Nat) (d : Dk) (hd : d.ok) (w : World) (h : DkAt w B b d) : Calls Try.prog 21 #[.pointer (some ⟨b, 0, none⟩)] w fun e w' => e = .returned (.int .i64 d.left) ∧ w' = w := by
  obtain ⟨cs, hk, hc⟩ := h.row
  have q0 : w.cell? ⟨b, 128, none⟩ = some (.int .i64 d.room) := (hk.cell _).trans hc.room
  have hq : Hid (∀ i, i < 64 → ∃ A c, w.cell? ⟨b, i * 2, none⟩ = some (.slice A (d.b i).length c)) := by
    intro i hi
    obtain ⟨v, h1, h2⟩ := hc.files i hi
    obtain ⟨A, c, rfl, _⟩ := h2.row
    exact ⟨A, c, (hk.cell _).trans h1⟩
  have hs := hd.sum
  have hr := hd.room
  have HD := Lib.hid hd
  clear hk hc h hd
  go_enter Try.func21, Try.ntmps21
  go_wp2_with (fail)
  go_loopw [3, 9] (fun l i wr => ∃ k : Nat, k ≤ 64 ∧ i = .int .i64 k ∧ l = .int .i64 (d.room - (sumLen d.b k : Int)) ∧ wr = w) (fun _ i _ => 64 - (intOf i).toNat)
  case atStart => exact ⟨0, Nat.zero_le _, rfl, by simp [sumLen], rfl⟩
  case round =>
    obtain ⟨k, hk, rfl, rfl, rfl⟩ := hrel
    by_cases hlt : k < 64
    · obtain ⟨A, c, q1⟩ := hq.out k hlt
      have hm := sumLen_mono d.b (show k + 1 ≤ 64 by omega)
      have hl := HD.out.len hlt
      have hstep : d.room - (sumLen d.b k : Int) - ((d.b k).length : Int) = d.room - (sumLen d.b (k + 1) : Int) := by simp only [sumLen]; omega
      have HS := Lib.hid hstep
      have hmm : sumLen d.b (k + 1) = sumLen d.b k + (d.b k).length := rfl
      rw [hmm] at hm
      clear hstep hmm
      generalize (d.b k).length = len at *
      generalize hS : sumLen d.b k = S at *
      go_wp2_with (fail)
      go_roundw
      case rel => exact ⟨k + 1, by omega, by go_num, by rw [← HS.out], trivial⟩
      case measure => simp [intOf]; omega
    · obtain rfl : k = 64 := by omega
      go_wp2_with (fail)
      go_ret
      exact ⟨rfl, rfl⟩
end Go.Proofs.Ythblfkopofmdfaa
