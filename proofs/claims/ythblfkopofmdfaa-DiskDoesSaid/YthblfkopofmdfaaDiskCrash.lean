/-
  Crash.
-/
import Derived.Test.YthblfkopofmdfaaDiskFiles
set_option linter.unusedVariables false
set_option linter.unusedSimpArgs false
namespace Go.Proofs.Ythblfkopofmdfaa
open Go.RowKit

/-- How many bytes of file i more than the sure ones a crash keeps. -/
def more (kept : List Int) (i room : Nat) : Nat := match kept[i % kept.length]? with
  | none => 0
  | some x => min x.toNat room

def Dk.crashK (d : Dk) (kept : List Int) (k : Nat) : Dk :=
  { d with b := fun i => if i < k then (d.b i).take (d.s i + more kept i ((d.b i).length - d.s i)) else d.b i, s := fun i => if i < k then d.s i + more kept i ((d.b i).length - d.s i) else d.s i }

def Dk.crash (d : Dk) (kept : List Int) : Dk := { d.crashK kept 64 with down := false, fu := none }

theorem crashK_succ (d : Dk) (kept : List Int) (k M : Nat) (hM : more kept k ((d.b k).length - d.s k) = M) :
    ({ d.crashK kept k with b := upd (d.crashK kept k).b k ((d.b k).take (d.s k + M)), s := upd (d.crashK kept k).s k (d.s k + M) } : Dk) = d.crashK kept (k + 1) := by
  subst hM
  have hb : upd (d.crashK kept k).b k ((d.b k).take (d.s k + more kept k ((d.b k).length - d.s k))) = (d.crashK kept (k + 1)).b := by
    funext i
    unfold Dk.crashK upd
    by_cases e : i = k
    · subst e; simp
    · simp only [if_neg e]
      by_cases h : i < k
      · rw [if_pos h, if_pos (by omega)]
      · rw [if_neg h, if_neg (by omega)]
  have hs : upd (d.crashK kept k).s k (d.s k + more kept k ((d.b k).length - d.s k)) = (d.crashK kept (k + 1)).s := by
    funext i
    unfold Dk.crashK upd
    by_cases e : i = k
    · subst e; simp
    · simp only [if_neg e]
      by_cases h : i < k
      · rw [if_pos h, if_pos (by omega)]
      · rw [if_neg h, if_neg (by omega)]
  rw [hb, hs]
  rfl

theorem crash_fin {B b k M : Nat} {d : Dk} {kept : List Int} {cs : Array Value} {v : Value} {w wr : World} (hB : B ≤ b) (hk : k < 64) (k1 : Kp (· = b) w wr) (hb : Bk wr b 61 cs) (hc : Cs wr B b (d.crashK kept k) cs)
    (hM : more kept k ((d.b k).length - d.s k) = M) (hf : Fl wr B b v ((d.b k).take (d.s k + M))) {x : Int} (hx : x = ((d.s k + M : Nat) : Int)) (n : Nat) :
    Kp (· = b) w (((wr.drewN n).setCell ⟨b, k * 2, none⟩ v).setCell ⟨b, k * 2 + 1, none⟩ (.int .i64 x)) ∧ DkAt (((wr.drewN n).setCell ⟨b, k * 2, none⟩ v).setCell ⟨b, k * 2 + 1, none⟩ (.int .i64 x)) B b (d.crashK kept (k + 1)) := by
  subst hx
  have k2 : Kp (· = b) wr (((wr.drewN n).setCell ⟨b, k * 2, none⟩ v).setCell ⟨b, k * 2 + 1, none⟩ (.int .i64 ((d.s k + M : Nat) : Int))) := (((Kp.refl (· = b) wr).drewN n).set1 _ _).set1 _ _
  refine ⟨k1.tr k2, hB, _, ((hb.drewN n).put _ _).put _ _, ?_⟩
  have hh := Cs.putS (Cs.putB (hc.keep k2) hk (hf.keep k2)) hk (d.s k + M)
  rw [crashK_succ d kept k M hM] at hh
  exact hh

theorem crash_none {w : World} {B b k m : Nat} {d : Dk} (h : (d.b k).length = 0) : Fl w B b (.slice none 0 0) ((d.b k).take m) := by
  rw [List.eq_nil_of_length_eq_zero h]
  exact ⟨none, 0, by simp, by simp, by intro j u hj; simp [bys] at hj, .inl rfl, fun _ => ⟨by simp, rfl⟩⟩

theorem crash_some {w : World} {B b k m c g o : Nat} {d : Dk} (hm : m ≤ (d.b k).length) (hc : m ≤ c) (hr : Rd w (some ⟨g, o, none⟩) (bys (d.b k))) (hA : (some ⟨g, o, none⟩ : Option Addr) = none ∨ ∃ g' o', (some ⟨g, o, none⟩ : Option Addr) = some ⟨g', o', none⟩ ∧ B ≤ g' ∧ g' ≠ b ∧ g' < w.heap.size) :
    Fl w B b (.slice (some ⟨g, o, none⟩) m c) ((d.b k).take m) :=
  ⟨_, c, by rw [List.length_take, Nat.min_eq_left hm], by rw [List.length_take]; omega, rd_take hr m, hA, fun e => by cases e⟩

theorem crash_end {B b : Nat} {d : Dk} {kept : List Int} {cs : Array Value} {z : Int} {w wr : World} (hB : B ≤ b) (k1 : Kp (· = b) w wr) (hb : Bk wr b 61 cs) (hc : Cs wr B b (d.crashK kept 64) cs) (hz : cs[129]? = some (.int .i64 z)) :
    StPost B b (d.crash kept) (.tuple #[]) w (.returned (.tuple #[])) ((wr.setCell ⟨b, 130, none⟩ (.bool false)).setCell ⟨b, 131, none⟩ (.bool false)) := by
  have k2 : Kp (· = b) wr ((wr.setCell ⟨b, 130, none⟩ (.bool false)).setCell ⟨b, 131, none⟩ (.bool false)) := ((Kp.refl (· = b) wr).set1 _ _).set1 _ _
  have hs := hc.size
  have hs1 : (cs.setIfInBounds 130 (.bool false)).size = 132 := by simp [hs]
  refine .of hB (k1.tr k2) ((hb.put _ _).put _ _) ?_
  exact Cs.scal (hc.keep k2) (cs' := (cs.setIfInBounds 130 (.bool false)).setIfInBounds 131 (.bool false)) (by simp [hs]) (fun j hj => by rw [set_at _ _ _ _ (by omega), if_neg (by omega), set_at _ _ _ _ (by omega), if_neg (by omega)]) (fu := none) (down := false) ⟨z, by rw [set_at _ _ _ _ (by omega), if_neg (by omega), set_at _ _ _ _ (by omega), if_neg (by omega)]; exact hz, fun m hm => by cases hm⟩ (by rw [set_at _ _ _ _ (by omega), if_neg (by omega), set_at _ _ _ _ (by omega), if_pos rfl]) (by rw [set_at _ _ _ _ (by omega), if_pos rfl]; rfl)

set_option maxRecDepth 100000 in
set_option maxHeartbeats 2000000 in
theorem crash_nil (B b : Nat) (A : Option Addr) (c : Nat) (d : Dk) (hd : d.ok) (w : World) (h : DkAt w B b d) :
    Calls Try.prog 27 #[.pointer (some ⟨b, 0, none⟩), .slice A 0 c] w (StPost B b (d.crash []) (.tuple #[]) w) := by
  have HD := Lib.hid h
  have HL := Lib.hid hd
  have hge := h.ge
  have hbl := h.lt
  clear h hd
  go_enter Try.func27, Try.ntmps27
  go_wp2_with (fail)
  go_loopw [7] (fun i wr => ∃ k : Nat, k ≤ 64 ∧ i = .int .i64 k ∧ Kp (· = b) w wr ∧ DkAt wr B b (d.crashK [] k)) (fun i _ => 64 - (intOf i).toNat)
  case atStart => exact ⟨0, Nat.zero_le _, rfl, Kp.refl _ _, HD.out⟩
  case round =>
    obtain ⟨k, hk, rfl, hkp, hdk⟩ := hrel
    have K1 := Lib.hid hkp
    have H1 := Lib.hid hdk
    clear hkp hdk
    by_cases hlt : k < 64
    · have hlen := HL.out.len hlt
      have hsl := HL.out.sure k hlt
      obtain ⟨cs, hbk, hc⟩ := H1.out.row
      obtain ⟨v, hv1, hv2⟩ := hc.files k hlt
      have hs1 := hc.sure k hlt
      have e1 : (d.crashK [] k).b k = d.b k := by simp [Dk.crashK]
      have e2 : (d.crashK [] k).s k = d.s k := by simp [Dk.crashK]
      rw [e1] at hv2
      rw [e2] at hs1
      obtain ⟨A1, c1, rfl, hr0, hr1, hr2, hr3⟩ := hv2.row
      have q0 : wr.cell? ⟨b, k * 2, none⟩ = some (.slice A1 (d.b k).length c1) := (hbk.cell _).trans hv1
      have q1 : wr.cell? ⟨b, k * 2 + 1, none⟩ = some (.int .i64 (d.s k)) := (hbk.cell _).trans hs1
      have f0 := hbk.free (k * 2)
      have f1 := hbk.free (k * 2 + 1)
      have HK := Lib.hid hbk
      have HC := Lib.hid hc
      have HR1 := Lib.hid hr1
      have HR2 := Lib.hid hr2
      have HR3 := Lib.hid hr3
      clear hbk hc hv1 hv2 hr1 hr2 hr3 hs1 e1 e2
      have HM : Hid (more [] k ((d.b k).length - d.s k) = 0) := rfl
      rcases HR2.out with rfl | ⟨g1, o1, rfl, _⟩
      · obtain ⟨z1, rfl⟩ := HR3.out rfl
        have hs0 : d.s k = 0 := by omega
        go_wp2_with (fail)
        go_region
        all_goals go_wp2_with (fail)
        go_roundw
        case rel => exact ⟨k + 1, by omega, by go_num, crash_fin hge hlt K1.out HK.out HC.out HM.out (crash_none z1) (by omega) _⟩
        case measure => simp [intOf]; omega
      · have hc9 : d.s k + 0 ≤ c1 := by omega
        go_wp2_with (fail)
        go_region
        all_goals go_wp2_with (fail)
        go_roundw
        case rel => exact ⟨k + 1, by omega, by go_num, crash_fin hge hlt K1.out HK.out HC.out HM.out (crash_some (m := d.s k + 0) (by omega) hc9 HR1.out HR2.out) (by omega) _⟩
        case measure => simp [intOf]; omega
    · obtain rfl : k = 64 := by omega
      obtain ⟨cs, hbk, hc⟩ := H1.out.row
      obtain ⟨z, hz1, _⟩ := hc.fuse
      have q0 : wr.cell? ⟨b, 130, none⟩ = some (.bool d.down) := (hbk.cell _).trans hc.down
      have q1 : wr.cell? ⟨b, 131, none⟩ = some (.bool d.fu.isSome) := (hbk.cell _).trans hc.fused
      have f0 := hbk.free 130
      have f1 := hbk.free 131
      have HK := Lib.hid hbk
      have HC := Lib.hid hc
      have HZ := Lib.hid hz1
      clear hbk hc hz1
      go_wp2_with (fail)
      go_end0
      exact crash_end hge K1.out HK.out HC.out HZ.out

set_option maxRecDepth 100000 in
set_option maxHeartbeats 2000000 in
theorem crash_any (B b : Nat) (A : Option Addr) (c : Nat) (kept : List Int) (d : Dk) (hd : d.ok) (w : World) (h : DkAt w B b d) (hr : Rd w A (ints kept)) (hAb : ∀ g o, A = some ⟨g, o, none⟩ → ints kept ≠ [] → g ≠ b) (hn : kept.length ≤ 1048576) :
    Calls Try.prog 27 #[.pointer (some ⟨b, 0, none⟩), .slice A kept.length c] w (StPost B b (d.crash kept) (.tuple #[]) w) := by
  by_cases hk0 : kept.length = 0
  · obtain rfl : kept = [] := List.eq_nil_of_length_eq_zero hk0
    exact crash_nil B b A c d hd w h
  have HD := Lib.hid h
  have HL := Lib.hid hd
  have HR := Lib.hid hr
  have HA := Lib.hid hAb
  have hge := h.ge
  have hbl := h.lt
  clear h hd hr hAb
  go_enter Try.func27, Try.ntmps27
  go_wp2_with (fail)
  go_loopw [7] (fun i wr => ∃ k : Nat, k ≤ 64 ∧ i = .int .i64 k ∧ Kp (· = b) w wr ∧ DkAt wr B b (d.crashK kept k)) (fun i _ => 64 - (intOf i).toNat)
  case atStart => exact ⟨0, Nat.zero_le _, rfl, Kp.refl _ _, HD.out⟩
  case round =>
    obtain ⟨k, hk, rfl, hkp, hdk⟩ := hrel
    have K1 := Lib.hid hkp
    have H1 := Lib.hid hdk
    clear hkp hdk
    by_cases hlt : k < 64
    · have hlen := HL.out.len hlt
      have hsl := HL.out.sure k hlt
      obtain ⟨cs, hbk, hc⟩ := H1.out.row
      obtain ⟨v, hv1, hv2⟩ := hc.files k hlt
      have hs1 := hc.sure k hlt
      have e1 : (d.crashK kept k).b k = d.b k := by simp [Dk.crashK]
      have e2 : (d.crashK kept k).s k = d.s k := by simp [Dk.crashK]
      rw [e1] at hv2
      rw [e2] at hs1
      obtain ⟨A1, c1, rfl, hr0, hr1, hr2, hr3⟩ := hv2.row
      have q0 : wr.cell? ⟨b, k * 2, none⟩ = some (.slice A1 (d.b k).length c1) := (hbk.cell _).trans hv1
      have q1 : wr.cell? ⟨b, k * 2 + 1, none⟩ = some (.int .i64 (d.s k)) := (hbk.cell _).trans hs1
      have f0 := hbk.free (k * 2)
      have f1 := hbk.free (k * 2 + 1)
      have HK := Lib.hid hbk
      have HC := Lib.hid hc
      have HR1 := Lib.hid hr1
      have HR2 := Lib.hid hr2
      have HR3 := Lib.hid hr3
      clear hbk hc hv1 hv2 hr1 hr2 hr3 hs1 e1 e2
      by_cases hkept : 0 < kept.length
      · have hmod : k % kept.length < kept.length := Nat.mod_lt _ hkept
        have hx : (ints kept)[k % kept.length]? = some (.int .i64 kept[k % kept.length]) := by simp [ints, List.getElem?_eq_getElem hmod]
        have hmore : more kept k ((d.b k).length - d.s k) = min (kept[k % kept.length]).toNat ((d.b k).length - d.s k) := by unfold more; rw [List.getElem?_eq_getElem hmod]
        obtain ⟨g, o, rfl, _, hcell⟩ := (rd_kp HR.out K1.out HA.out) _ _ hx
        generalize kept[k % kept.length] = x at *
        have hmm0 : (k : Int) % (kept.length : Int) = ((k % kept.length : Nat) : Int) := by omega
        obtain ⟨t, ht⟩ : ∃ t : Nat, (d.b k).length - d.s k = t := ⟨_, rfl⟩
        have hts : ((d.b k).length : Int) - (d.s k : Int) = (t : Int) := by omega
        have hst : d.s k + t = (d.b k).length := by omega
        rw [ht] at hmore
        have HT := Lib.hid ht
        have HST := Lib.hid hst
        clear ht hx
        generalize k % kept.length = r at *
        have hmm : (k : Int) % (kept.length : Int) = (r : Int) := hmm0
        clear hmm0
        by_cases x0 : x < 0
        · have HM : Hid (more kept k ((d.b k).length - d.s k) = 0) := by unfold Hid; rw [HT.out, hmore]; omega
          clear hmore hst
          rcases HR2.out with rfl | ⟨g1, o1, rfl, _⟩
          · obtain ⟨z1, rfl⟩ := HR3.out rfl
            have hs0 : d.s k = 0 := by omega
            go_wp2_with (fail)
            go_quiet (fail)
            go_wp2_with (fail)
            go_region
            all_goals go_wp2_with (fail)
            go_roundw
            case rel => exact ⟨k + 1, by omega, by go_num, crash_fin hge hlt K1.out HK.out HC.out HM.out (crash_none z1) (by omega) _⟩
            case measure => simp [intOf]; omega
          · have hc9 : d.s k + 0 ≤ c1 := by omega
            go_wp2_with (fail)
            go_quiet (fail)
            go_wp2_with (fail)
            go_region
            all_goals go_wp2_with (fail)
            go_roundw
            case rel => exact ⟨k + 1, by omega, by go_num, crash_fin hge hlt K1.out HK.out HC.out HM.out (crash_some (m := d.s k + 0) (by omega) hc9 HR1.out HR2.out) (by omega) _⟩
            case measure => simp [intOf]; omega
        · by_cases x1 : (t : Int) < x
          · have HM : Hid (more kept k ((d.b k).length - d.s k) = t) := by unfold Hid; rw [HT.out, hmore]; omega
            clear hmore hst
            rcases HR2.out with rfl | ⟨g1, o1, rfl, _⟩
            · obtain ⟨z1, rfl⟩ := HR3.out rfl
              have hst := HST.out
              have hs0 : d.s k = 0 := by omega
              obtain rfl : t = 0 := by omega
              clear hst
              go_wp2_with (fail)
              go_quiet (fail)
              go_wp2_with (fail)
              go_region
              all_goals go_wp2_with (fail)
              go_roundw
              case rel => exact ⟨k + 1, by omega, by go_num, crash_fin hge hlt K1.out HK.out HC.out HM.out (crash_none z1) (by omega) _⟩
              case measure => simp [intOf]; omega
            · have hc9 : d.s k + t ≤ c1 := by have hst := HST.out; omega
              go_wp2_with (fail)
              go_quiet (fail)
              go_wp2_with (fail)
              go_region
              all_goals go_wp2_with (fail)
              go_roundw
              case rel => exact ⟨k + 1, by omega, by go_num, crash_fin hge hlt K1.out HK.out HC.out HM.out (crash_some (m := d.s k + t) (Nat.le_of_eq HST.out) hc9 HR1.out HR2.out) (by omega) _⟩
              case measure => simp [intOf]; omega
          · obtain ⟨m, rfl⟩ : ∃ m : Nat, x = (m : Int) := ⟨x.toNat, by omega⟩
            have HM : Hid (more kept k ((d.b k).length - d.s k) = m) := by unfold Hid; rw [HT.out, hmore]; omega
            have hmt : m ≤ t := by omega
            clear hmore
            rcases HR2.out with rfl | ⟨g1, o1, rfl, _⟩
            · obtain ⟨z1, rfl⟩ := HR3.out rfl
              have hs0 : d.s k = 0 := by omega
              obtain rfl : m = 0 := by omega
              go_wp2_with (fail)
              go_quiet (fail)
              go_wp2_with (fail)
              go_region
              all_goals go_wp2_with (fail)
              go_roundw
              case rel => exact ⟨k + 1, by omega, by go_num, crash_fin hge hlt K1.out HK.out HC.out HM.out (crash_none z1) (by omega) _⟩
              case measure => simp [intOf]; omega
            · have hc9 : d.s k + m ≤ c1 := by omega
              go_wp2_with (fail)
              go_quiet (fail)
              go_wp2_with (fail)
              go_region
              all_goals go_wp2_with (fail)
              go_roundw
              case rel => exact ⟨k + 1, by omega, by go_num, crash_fin hge hlt K1.out HK.out HC.out HM.out (crash_some (m := d.s k + m) (by omega) hc9 HR1.out HR2.out) (by omega) _⟩
              case measure => simp [intOf]; omega
      · exact absurd (by omega) hk0
    · obtain rfl : k = 64 := by omega
      obtain ⟨cs, hbk, hc⟩ := H1.out.row
      obtain ⟨z, hz1, _⟩ := hc.fuse
      have q0 : wr.cell? ⟨b, 130, none⟩ = some (.bool d.down) := (hbk.cell _).trans hc.down
      have q1 : wr.cell? ⟨b, 131, none⟩ = some (.bool d.fu.isSome) := (hbk.cell _).trans hc.fused
      have f0 := hbk.free 130
      have f1 := hbk.free 131
      have HK := Lib.hid hbk
      have HC := Lib.hid hc
      have HZ := Lib.hid hz1
      clear hbk hc hz1
      go_wp2_with (fail)
      go_end0
      exact crash_end hge K1.out HK.out HC.out HZ.out
end Go.Proofs.Ythblfkopofmdfaa
