/-
  The walks through package mark: New, the comparison, the binary search, place, Find.
-/
import Derived.Test.YtfeamnhhohineaaRows
import Derived.Test.YtfeamnhhohineaaOwn
import Derived.Test.YtfeamnhhohineaaMarkPure
import Derived.WalkSpells
import Derived.WalkLawsBesides
import Derived.StillTactics
import Derived.Laws.Pointers
import Derived.Laws.EntriesVeiled
import Derived.Deep.QuietTactic
import Derived.BigQuiet
import Derived.Deep.RegionHeld3
set_option linter.unusedVariables false
set_option linter.unusedSimpArgs false
namespace Go.Proofs.Ytfeamnhhohineaa
open Go.RowKit

/-- At block b lies an index: its marks in a row of the code's own, from block B on, and the greatest number that came. -/
structure MkAt (w : World) (B b : Nat) (l : List Mk) (last : Int) : Prop where
  ge : B ≤ b
  row : ∃ v, Bk w b 44 #[v, .int .i64 last] ∧ w.ownsRow B 29 3 v l.length (Mk.cells l)

theorem mark_new (w : World) : Calls Try.prog 5 #[] w fun e w' => e = .returned (.pointer (some ⟨w.heap.size, 0, none⟩)) ∧ w' = w.alloc (.cells #[.slice none 0 0, .int .i64 0] 44) := by
  go_enter Try.func5, Try.ntmps5
  go_wp2
  go_ret
  exact ⟨rfl, rfl⟩

theorem above_any (s f p q : Int) (w : World) : Calls Try.prog 18 #[.agg #[.int .i64 s, .int .i64 f, .int .i64 p], .int .i64 q] w fun e w' => e = .returned (.bool (decide (q < s))) ∧ w' = w.alloc (.cells #[.int .i64 s, .int .i64 f, .int .i64 p] 29) := by
  go_enter Try.func18, Try.ntmps18
  go_wp2
  go_ret
  exact ⟨rfl, rfl⟩

/-- What the search's closure holds: three variables of its own. -/
structure Closed (w : World) (c5 c2 c3 b : Nat) (q : Int) : Prop where
  f : Bk w c5 47 #[.func (.func 18) #[] #[]]
  x : Bk w c2 23 #[.pointer (some ⟨b, 0, none⟩)]
  q : Bk w c3 2 #[.int .i64 q]

theorem Closed.below {w w' : World} {c5 c2 c3 b : Nat} {q : Int} (h : Closed w c5 c2 c3 b q) (hb : Below w.heap.size w w') : Closed w' c5 c2 c3 b q :=
  ⟨h.f.below hb h.f.lt, h.x.below hb h.x.lt, h.q.below hb h.q.lt⟩

set_option maxRecDepth 100000 in
set_option maxHeartbeats 1000000 in
theorem place1_any (c5 c2 c3 b g n cap : Nat) (q last : Int) (m : Mk) (i : Nat) (hi : i < n) (hn : n ≤ 4611686018427387903) (w : World) (hc : Closed w c5 c2 c3 b q) (hb : Bk w b 44 #[.slice (some ⟨g, 0, none⟩) n cap, .int .i64 last])
    (h0 : w.cell? ⟨g, i * 3, none⟩ = some (.int .i64 m.s)) (h1 : w.cell? ⟨g, i * 3 + 1, none⟩ = some (.int .i64 m.f)) (h2 : w.cell? ⟨g, i * 3 + 2, none⟩ = some (.int .i64 m.p)) :
    Calls Try.prog 20 #[.int .i64 i, .pointer (some ⟨c5, 0, none⟩), .pointer (some ⟨c2, 0, none⟩), .pointer (some ⟨c3, 0, none⟩)] w fun e w' => e = .returned (.bool (decide (q < m.s))) ∧ Below w.heap.size w w' := by
  have e5 : w.cell? ⟨c5, 0, none⟩ = some (.func (.func 18) #[] #[]) := hc.f.cell 0
  have e2 : w.cell? ⟨c2, 0, none⟩ = some (.pointer (some ⟨b, 0, none⟩)) := hc.x.cell 0
  have e3 : w.cell? ⟨c3, 0, none⟩ = some (.int .i64 q) := hc.q.cell 0
  have eb : w.cell? ⟨b, 0, none⟩ = some (.slice (some ⟨g, 0, none⟩) n cap) := hb.cell 0
  go_enter Try.func20, Try.ntmps20
  go_wp2_with (fail)
  go_region_held3 (fun w' => w'.cell? ⟨c5, 0, none⟩ = some (.func (.func 18) #[] #[]) ∧ w'.cell? ⟨c2, 0, none⟩ = some (.pointer (some ⟨b, 0, none⟩)) ∧ w'.cell? ⟨c3, 0, none⟩ = some (.int .i64 q) ∧
      w'.cell? ⟨b, 0, none⟩ = some (.slice (some ⟨g, 0, none⟩) n cap) ∧ w'.cell? ⟨g, i * 3, none⟩ = some (.int .i64 m.s) ∧ w'.cell? ⟨g, i * 3 + 1, none⟩ = some (.int .i64 m.f) ∧ w'.cell? ⟨g, i * 3 + 2, none⟩ = some (.int .i64 m.p)) (go_keep)
    (first
      | (go_at_call 18; refine (above_any m.s m.f m.p q _).mono ?_; rintro e w' ⟨rfl, rfl⟩))
  go_wp2_with (fail)
  go_ret
  exact ⟨rfl, ((Below.refl _ _).alloc (Nat.le_refl _) _).drew⟩

/-- What a binary search finds: the place at which the answers turn. -/
def SearchPost (n : Nat) (p : Nat → Bool) (w : World) (e : Ending) (w' : World) : Prop :=
  ∃ r : Nat, e = .returned (.int .i64 r) ∧ Below w.heap.size w w' ∧ r ≤ n ∧ (0 < r → p (r - 1) = false) ∧ (r < n → p r = true)

set_option maxRecDepth 100000 in
set_option maxHeartbeats 1000000 in
theorem search_any (n : Nat) (hn : n ≤ 4611686018427387903) (p : Nat → Bool) (x y z : Value) (w : World)
    (hcl : ∀ (i : Nat) (w' : World), i < n → Below w.heap.size w w' → Calls Try.prog 20 #[.int .i64 i, x, y, z] w' fun e w'' => e = .returned (.bool (p i)) ∧ Below w'.heap.size w' w'') :
    Calls Try.prog 19 #[.int .i64 n, .func (.func 20) #[] #[x, y, z]] w (SearchPost n p w) := by
  have HC := Lib.hid hcl
  clear hcl
  go_enter Try.func19, Try.ntmps19
  go_wp2_with (fail)
  go_loopw [5, 6] (fun i j wr => ∃ a b : Nat, i = .int .i64 a ∧ j = .int .i64 b ∧ a ≤ b ∧ b ≤ n ∧ Below w.heap.size w wr ∧ (0 < a → p (a - 1) = false) ∧ (b < n → p b = true)) (fun i j _ => (intOf j).toNat - (intOf i).toNat)
  case atStart => exact ⟨0, n, rfl, rfl, Nat.zero_le _, Nat.le_refl _, Below.refl _ _, fun h => absurd h (by omega), fun h => absurd h (by omega)⟩
  case round =>
    obtain ⟨a, b, rfl, rfl, hab, hbn, hb, hlo, hhi⟩ := hrel
    have HL := Lib.hid hlo
    have HU := Lib.hid hhi
    clear hlo hhi
    by_cases hlt : a < b
    · go_wp2_with (fail)
      obtain ⟨h, hh, hh1, hh2⟩ : ∃ h : Nat, ((a : Int) + b) / 2 = h ∧ a ≤ h ∧ h < b := ⟨(a + b) / 2, by omega, by omega, by omega⟩
      rw [hh]
      clear hh
      refine (HC.out h wr (by omega) hb).mono ?_
      rintro e w2 ⟨rfl, hb2⟩
      have hb3 : Below w.heap.size w w2 := hb.trans (hb2.mono hb.size)
      cases hp : p h with
      | true =>
        have HP := Lib.hid hp
        clear hp
        go_wp2_with (fail)
        go_roundw
        case rel => exact ⟨a, h, rfl, rfl, hh1, by omega, hb3, HL.out, fun _ => HP.out⟩
        case measure => simp [intOf]; omega
      | false =>
        have HP := Lib.hid hp
        clear hp
        go_wp2_with (fail)
        go_roundw
        case rel => exact ⟨h + 1, b, by go_num, rfl, by omega, hbn, hb3, fun _ => HP.out, HU.out⟩
        case measure => simp [intOf]; omega
    · have hab2 : a = b := by omega
      subst hab2
      go_wp2_with (fail)
      go_ret
      exact ⟨a, rfl, hb, hbn, HL.out, HU.out⟩

/-- What place answers: so many marks have a number that is no more. -/
def PlacePost (l : List Mk) (q : Int) (w : World) (e : Ending) (w' : World) : Prop :=
  ∃ r : Nat, e = .returned (.int .i64 r) ∧ Below w.heap.size w w' ∧ Mk.Place l q r

set_option maxRecDepth 100000 in
set_option maxHeartbeats 1000000 in
theorem place_any (B b : Nat) (l : List Mk) (last q : Int) (w : World) (h : MkAt w B b l last) (hu : Mk.Up l) (hn : l.length ≤ 4611686018427387903) :
    Calls Try.prog 15 #[.pointer (some ⟨b, 0, none⟩), .int .i64 q] w (PlacePost l q w) := by
  obtain ⟨v, hbk, hown⟩ := h.row
  have hmf : ∀ (fn : Fn) (first cap : Array Value) (w : World), (Instr.makeFunc fn first cap).run Try.prog w = .ok (.func fn first cap) w := fun _ _ _ _ => rfl
  obtain ⟨A, c, rfl⟩ : ∃ A c, v = .slice A l.length c := by
    rcases own_form hown with ⟨rfl, e, _⟩ | ⟨g, cap, rfl, _⟩
    · exact ⟨none, 0, by rw [e]⟩
    · exact ⟨_, cap, rfl⟩
  have eb : w.cell? ⟨b, 0, none⟩ = some (.slice A l.length c) := hbk.cell 0
  have hlt := hbk.lt
  have hlt1 : b < w.heap.size + 1 := by omega
  have hlt2 : b < w.heap.size + 1 + 1 := by omega
  have HB := Lib.hid hbk
  have HO := Lib.hid hown
  have HU := Lib.hid hu
  clear hbk hown hu h
  go_enter Try.func15, Try.ntmps15
  go_wp2_with (fail)
  have hcl : ∀ (i : Nat) (w' : World), i < l.length → Below (((w.alloc (.cells #[.pointer (some ⟨b, 0, none⟩)] 23)).alloc (.cells #[.int .i64 q] 2)).alloc (.cells #[.func (.func 18) #[] #[]] 47)).heap.size
      (((w.alloc (.cells #[.pointer (some ⟨b, 0, none⟩)] 23)).alloc (.cells #[.int .i64 q] 2)).alloc (.cells #[.func (.func 18) #[] #[]] 47)) w' →
      Calls Try.prog 20 #[.int .i64 i, .pointer (some ⟨w.heap.size + 1 + 1, 0, none⟩), .pointer (some ⟨w.heap.size, 0, none⟩), .pointer (some ⟨w.heap.size + 1, 0, none⟩)] w' fun e w'' => e = .returned (.bool (Mk.ask l q i)) ∧ Below w'.heap.size w' w'' := by
    intro i w' hi hb
    rw [Mk.ask_at hi]
    have hcz : Closed (((w.alloc (.cells #[.pointer (some ⟨b, 0, none⟩)] 23)).alloc (.cells #[.int .i64 q] 2)).alloc (.cells #[.func (.func 18) #[] #[]] 47)) (w.heap.size + 1 + 1) w.heap.size (w.heap.size + 1) b q :=
      ⟨by have := Bk.new ((w.alloc (.cells #[.pointer (some ⟨b, 0, none⟩)] 23)).alloc (.cells #[.int .i64 q] 2)) 47 #[.func (.func 18) #[] #[]]; simpa using this,
       ((Bk.new w _ _).alloc _).alloc _, by have := (Bk.new (w.alloc (.cells #[.pointer (some ⟨b, 0, none⟩)] 23)) 2 #[.int .i64 q]).alloc (.cells #[.func (.func 18) #[] #[]] 47); simpa using this⟩
    have hB : Bk w' b 44 #[.slice A l.length c, .int .i64 last] := (((HB.out.alloc _).alloc _).alloc _).below hb (by simp; omega)
    rcases own_form HO.out with ⟨_, e, _⟩ | ⟨g, cap, hv, hg, hgl, hnc, hcm⟩
    · omega
    · injection hv with hA _ hc
      subst hA; subst hc
      obtain ⟨q0, q1, q2⟩ := Mk.cells_at l i hi
      have hk : ∀ j u, j < l.length * 3 → (Mk.cells l)[j]? = some u → w'.cell? ⟨g, j, none⟩ = some u := by
        intro j u hj hu
        rw [hb.cell (p := ⟨g, j, none⟩) (by simp; omega), World.cell?_alloc_lt _ _ _ (by simp; omega), World.cell?_alloc_lt _ _ _ (by simp; omega), World.cell?_alloc_lt _ _ _ (by simpa using hgl), HO.out.cellAt j hj, hu]
      exact place1_any _ _ _ b g l.length c q last l[i] i hi hn w' (hcz.below hb) hB (hk _ _ (by omega) q0) (hk _ _ (by omega) q1) (hk _ _ (by omega) q2)
  refine (search_any l.length hn (Mk.ask l q) _ _ _ _ hcl).mono ?_
  rintro e w1 ⟨r, rfl, hb, hr, hr1, hr2⟩
  have hP := Mk.place_of HU.out hr hr1 hr2
  have HP := Lib.hid hP
  clear hcl hr1 hr2 hP
  go_wp2_with (fail)
  go_ret
  exact ⟨r, rfl, ((((Below.refl _ _).alloc (Nat.le_refl _) _).alloc (by simp) _).alloc (by simp; omega) _).trans (hb.mono (by simp; omega)), HP.out⟩
end Go.Proofs.Ytfeamnhhohineaa
