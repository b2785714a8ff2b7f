/-
  The methods' contracts in one form for every case; both holds with two boxes beside them.
-/
import Derived.Test.YtiomdclelbjmmaaHoldAwake
set_option linter.unusedVariables false
set_option linter.unusedSimpArgs false
namespace Go.Proofs.Ytiomdclelbjmmaa
open Go.RowKit

def txZ : Tx := ⟨0, 0, 0, 0, 0, []⟩

/-- What Take and Peek tell. -/
def Hk.tkT (h : Hk) : Tx := match h.peek with
  | none => txZ
  | some i => (h.q i).headD txZ

def Hk.tkB (h : Hk) : Bool := h.peek.isSome

/-- .. and what Take leaves. -/
def Hk.tkH (h : Hk) : Hk := match h.peek with
  | none => h
  | some i => match h.q i with
    | [] => h
    | t :: rest => h.took i rest t.s

theorem peek_lt {h : Hk} {i : Nat} (hp : h.peek = some i) : i < 3 ∧ h.mayB i = true := by
  unfold Hk.peek at hp
  split at hp
  · injection hp with e; subst e; exact ⟨by omega, by assumption⟩
  · split at hp
    · injection hp with e; subst e; exact ⟨by omega, by assumption⟩
    · split at hp
      · injection hp with e; subst e; exact ⟨by omega, by assumption⟩
      · cases hp

theorem Hk.ok.tkH {h : Hk} (H : h.ok) : h.tkH.ok := by
  unfold Hk.tkH
  split
  · exact H
  · rename_i i hp
    split
    · exact H
    · rename_i t rest hq
      exact (H.took (peek_lt hp).1 hq).1

theorem Hk.ok.tkT {h : Hk} (H : h.ok) : h.tkT.ws.length ≤ 1000000 := by
  unfold Hk.tkT
  split
  · simp [txZ]
  · rename_i i hp
    cases hq : h.q i with
    | nil => simp [txZ]
    | cons t rest => exact H.ws i (peek_lt hp).1 t (by rw [hq]; simp)

def TkOne (T : TypeId) (S : Nat → Prop) (b : Nat) (h : Hk) (w : World) (e : Ending) (w' : World) : Prop :=
  Kp (· = b) w w' ∧ ∃ x : Tv, x.t = h.tkT ∧ e = .returned (.tuple #[.agg #[.int .i64 x.t.o, .int .i64 x.t.s, .int .i64 x.t.d0, .int .i64 x.t.d1, .int .i64 x.t.d2, .slice x.A x.t.ws.length x.c], .bool h.tkB]) ∧ Wk S w' x ∧ HAt T S w' b h.tkH

def PkOne (S : Nat → Prop) (h : Hk) (w : World) (e : Ending) (w' : World) : Prop :=
  Below w.heap.size w w' ∧ ∃ x : Tv, x.t = h.tkT ∧ e = .returned (.tuple #[.agg #[.int .i64 x.t.o, .int .i64 x.t.s, .int .i64 x.t.d0, .int .i64 x.t.d1, .int .i64 x.t.d2, .slice x.A x.t.ws.length x.c], .bool h.tkB]) ∧ Wk S w' x

theorem wk_z {S : Nat → Prop} {W : World} : Wk S W ⟨txZ, none, 0⟩ := wk_nil 0 0 0 0 0

theorem tk_one {T : TypeId} {S : Nat → Prop} {b : Nat} {h : Hk} {w : World} {e : Ending} {w' : World} (H : TkPost T S b h w e w') : TkOne T S b h w e w' := by
  obtain ⟨k, H⟩ := H
  refine ⟨k, ?_⟩
  rcases H with ⟨hp, rfl, hh⟩ | ⟨i, t, rest, A, c, hi, hp, hq, rfl, hk, hh⟩
  · refine ⟨⟨txZ, none, 0⟩, by simp [Hk.tkT, hp], by simp [Hk.tkB, hp, txZ], wk_z, by simpa [Hk.tkH, hp] using hh⟩
  · refine ⟨⟨t, A, c⟩, by simp [Hk.tkT, hp, hq], by simp [Hk.tkB, hp], hk, by simpa [Hk.tkH, hp, hq] using hh⟩

theorem pk_one {S : Nat → Prop} {h : Hk} {w : World} {e : Ending} {w' : World} (H : PkPost S h w e w') : PkOne S h w e w' := by
  obtain ⟨k, H⟩ := H
  refine ⟨k, ?_⟩
  rcases H with ⟨hp, rfl⟩ | ⟨i, t, rest, A, c, hi, hp, hq, rfl, hk⟩
  · refine ⟨⟨txZ, none, 0⟩, by simp [Hk.tkT, hp], by simp [Hk.tkB, hp, txZ], wk_z⟩
  · refine ⟨⟨t, A, c⟩, by simp [Hk.tkT, hp, hq], by simp [Hk.tkB, hp], hk⟩

def Hk.nxt (h : Hk) (n : Int) : Int := if 0 ≤ n ∧ n < 3 then h.a n.toNat + (h.q n.toNat).length + 1 else 0
def Hk.wtg (h : Hk) (n : Int) : Int := if 0 ≤ n ∧ n < 3 then (h.q n.toNat).length else 0

section
variable {S : Nat → Prop} {b : Nat} {h : Hk} {w : World}
theorem says_num {x : Int} {e : Ending} {w' : World} (H : Num x w e w') : Says (.int .i64 x) w e w' := by
  obtain ⟨rfl, n, rfl⟩ := H
  exact ⟨rfl, ⟨rfl, rfl, rfl, Nat.le_refl _, fun _ _ => rfl⟩⟩

theorem nextU (n : Int) (H : HAt 61 S w b h) (hok : h.ok) : Calls Try.prog 21 #[.pointer (some ⟨b, 0, none⟩), .int .i64 n] w (Says (.int .i64 (h.nxt n)) w) := by
  unfold Hk.nxt
  by_cases hn : 0 ≤ n ∧ n < 3
  · obtain ⟨i, rfl⟩ : ∃ i : Nat, n = (i : Int) := ⟨n.toNat, by omega⟩
    have hi : i < 3 := by omega
    rw [if_pos hn, Int.toNat_natCast]
    exact (next_in b i hi h w H (hok.a i hi).1 (hok.a i hi).2 (hok.len i hi)).mono fun e w' H => says_num H
  · rw [if_neg hn]
    refine (next_out b n (by omega) w).mono ?_
    rintro e w' ⟨rfl, rfl⟩
    exact ⟨rfl, Below.refl _ _⟩

theorem rnextU (n : Int) (H : HAt 49 S w b h) (hok : h.ok) : Calls Try.prog 22 #[.pointer (some ⟨b, 0, none⟩), .int .i64 n] w (Says (.int .i64 (h.nxt n)) w) := by
  unfold Hk.nxt
  by_cases hn : 0 ≤ n ∧ n < 3
  · obtain ⟨i, rfl⟩ : ∃ i : Nat, n = (i : Int) := ⟨n.toNat, by omega⟩
    have hi : i < 3 := by omega
    rw [if_pos hn, Int.toNat_natCast]
    exact (rnext_in b i hi h w H (hok.a i hi).1 (hok.a i hi).2 (hok.len i hi)).mono fun e w' H => says_num H
  · rw [if_neg hn]
    refine (rnext_out b n (by omega) w).mono ?_
    rintro e w' ⟨rfl, rfl⟩
    exact ⟨rfl, Below.refl _ _⟩

theorem waitingU (n : Int) (H : HAt 61 S w b h) : Calls Try.prog 23 #[.pointer (some ⟨b, 0, none⟩), .int .i64 n] w (Says (.int .i64 (h.wtg n)) w) := by
  unfold Hk.wtg
  by_cases hn : 0 ≤ n ∧ n < 3
  · obtain ⟨i, rfl⟩ : ∃ i : Nat, n = (i : Int) := ⟨n.toNat, by omega⟩
    have hi : i < 3 := by omega
    rw [if_pos hn, Int.toNat_natCast]
    refine (waiting_in b i hi h w H).mono ?_
    rintro e w' ⟨rfl, rfl⟩
    exact ⟨rfl, Below.refl _ _⟩
  · rw [if_neg hn]
    refine (waiting_out b n (by omega) w).mono ?_
    rintro e w' ⟨rfl, rfl⟩
    exact ⟨rfl, Below.refl _ _⟩

theorem rwaitingU (n : Int) (H : HAt 49 S w b h) : Calls Try.prog 24 #[.pointer (some ⟨b, 0, none⟩), .int .i64 n] w (Says (.int .i64 (h.wtg n)) w) := by
  unfold Hk.wtg
  by_cases hn : 0 ≤ n ∧ n < 3
  · obtain ⟨i, rfl⟩ : ∃ i : Nat, n = (i : Int) := ⟨n.toNat, by omega⟩
    have hi : i < 3 := by omega
    rw [if_pos hn, Int.toNat_natCast]
    refine (rwaiting_in b i hi h w H).mono ?_
    rintro e w' ⟨rfl, rfl⟩
    exact ⟨rfl, Below.refl _ _⟩
  · rw [if_neg hn]
    refine (rwaiting_out b n (by omega) w).mono ?_
    rintro e w' ⟨rfl, rfl⟩
    exact ⟨rfl, Below.refl _ _⟩
end

/-- The cells of an act's box. -/
def actc (a : Act) : Array Value := #[.int .i64 a.d, .int .i64 a.x.t.o, .int .i64 a.x.t.s, .int .i64 a.x.t.d0, .int .i64 a.x.t.d1, .int .i64 a.x.t.d2, .slice a.x.A a.x.t.ws.length a.x.c]

/-- Both holds, and an act's box. -/
structure TwA (w : World) (b r : Nat) (A : Option Addr) (l : List Act) (cc : Nat) (a : Act) (h1 h2 : Hk) (W : World) : Prop where
  t : Two w b r A l h1 h2 W
  box : Bk W cc 38 (actc a)
  wk : Wk (Sb b r) W a.x
  nb : cc ≠ b
  nr : cc ≠ r

section
variable {w W W1 : World} {b r cc : Nat} {A : Option Addr} {l : List Act} {a : Act} {h1 h2 h3 : Hk}
theorem TwA.stepX (m : TwA w b r A l cc a h1 h2 W) (k : Kp (· = b) W W1) (hh : HAt 61 (Sb b r) W1 b h3) : TwA w b r A l cc a h3 h2 W1 :=
  ⟨m.t.stepX k hh, m.box.kp k m.nb, m.wk.kp k (fun i e => .inl e), m.nb, m.nr⟩
theorem TwA.stepY (m : TwA w b r A l cc a h1 h2 W) (k : Kp (· = r) W W1) (hh : HAt 49 (Sb b r) W1 r h3) : TwA w b r A l cc a h1 h3 W1 :=
  ⟨m.t.stepY k hh, m.box.kp k m.nr, m.wk.kp k (fun i e => .inr e), m.nb, m.nr⟩
theorem TwA.quiet (m : TwA w b r A l cc a h1 h2 W) (hb : Below W.heap.size W W1) : TwA w b r A l cc a h1 h2 W1 :=
  ⟨m.t.quiet hb, m.box.below hb m.box.lt, m.wk.below hb, m.nb, m.nr⟩
theorem TwA.drew (m : TwA w b r A l cc a h1 h2 W) : TwA w b r A l cc a h1 h2 W.drew :=
  m.quiet ⟨rfl, rfl, rfl, Nat.le_refl _, fun _ _ => rfl⟩
theorem TwA.cells (m : TwA w b r A l cc a h1 h2 W) : W.cell? ⟨cc, 1, none⟩ = some (.int .i64 a.x.t.o) ∧ W.cell? ⟨cc, 2, none⟩ = some (.int .i64 a.x.t.s) ∧ W.cell? ⟨cc, 3, none⟩ = some (.int .i64 a.x.t.d0) ∧ W.cell? ⟨cc, 4, none⟩ = some (.int .i64 a.x.t.d1) ∧ W.cell? ⟨cc, 5, none⟩ = some (.int .i64 a.x.t.d2) ∧ W.cell? ⟨cc, 6, none⟩ = some (.slice a.x.A a.x.t.ws.length a.x.c) :=
  ⟨m.box.cell 1, m.box.cell 2, m.box.cell 3, m.box.cell 4, m.box.cell 5, m.box.cell 6⟩
end

/-- Both holds alike, and two boxes with what both tell. -/
structure TwB (w : World) (b r : Nat) (A : Option Addr) (l : List Act) (c1 c2 : Nat) (x y : Tv) (h : Hk) (W : World) : Prop where
  t : Two w b r A l h h W
  p : Bk W c1 36 (txc x)
  q : Bk W c2 36 (txc y)
  kx : Wk (Sb b r) W x
  ky : Wk (Sb b r) W y

section
variable {w W W1 : World} {b r c1 c2 : Nat} {A : Option Addr} {l : List Act} {x y : Tv} {h : Hk}
theorem TwB.quiet (m : TwB w b r A l c1 c2 x y h W) (hb : Below W.heap.size W W1) : TwB w b r A l c1 c2 x y h W1 :=
  ⟨m.t.quiet hb, m.p.below hb m.p.lt, m.q.below hb m.q.lt, m.kx.below hb, m.ky.below hb⟩
theorem TwB.drew (m : TwB w b r A l c1 c2 x y h W) : TwB w b r A l c1 c2 x y h W.drew :=
  m.quiet ⟨rfl, rfl, rfl, Nat.le_refl _, fun _ _ => rfl⟩
theorem TwB.cells (m : TwB w b r A l c1 c2 x y h W) : W.cell? ⟨c1, 0, none⟩ = some (.int .i64 x.t.o) ∧ W.cell? ⟨c1, 1, none⟩ = some (.int .i64 x.t.s) ∧ W.cell? ⟨c1, 2, none⟩ = some (.int .i64 x.t.d0) ∧ W.cell? ⟨c1, 3, none⟩ = some (.int .i64 x.t.d1) ∧ W.cell? ⟨c1, 4, none⟩ = some (.int .i64 x.t.d2) ∧ W.cell? ⟨c1, 5, none⟩ = some (.slice x.A x.t.ws.length x.c) ∧
    W.cell? ⟨c2, 0, none⟩ = some (.int .i64 y.t.o) ∧ W.cell? ⟨c2, 1, none⟩ = some (.int .i64 y.t.s) ∧ W.cell? ⟨c2, 2, none⟩ = some (.int .i64 y.t.d0) ∧ W.cell? ⟨c2, 3, none⟩ = some (.int .i64 y.t.d1) ∧ W.cell? ⟨c2, 4, none⟩ = some (.int .i64 y.t.d2) ∧ W.cell? ⟨c2, 5, none⟩ = some (.slice y.A y.t.ws.length y.c) ∧
    W.cell? ⟨r, 0, none⟩ = some (.int .i64 (h.a 0)) ∧ W.cell? ⟨r, 1, none⟩ = some (.int .i64 (h.a 1)) ∧ W.cell? ⟨r, 2, none⟩ = some (.int .i64 (h.a 2)) :=
  ⟨m.p.cell 0, m.p.cell 1, m.p.cell 2, m.p.cell 3, m.p.cell 4, m.p.cell 5, m.q.cell 0, m.q.cell 1, m.q.cell 2, m.q.cell 3, m.q.cell 4, m.q.cell 5, m.t.y.ap (by omega), m.t.y.ap (by omega), m.t.y.ap (by omega)⟩
end
end Go.Proofs.Ytiomdclelbjmmaa
