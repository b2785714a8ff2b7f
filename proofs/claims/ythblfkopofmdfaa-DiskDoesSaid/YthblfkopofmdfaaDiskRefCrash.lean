/-
  The document's disk: Crash.
-/
import Derived.Test.YthblfkopofmdfaaDiskRefCuts
set_option linter.unusedVariables false
set_option linter.unusedSimpArgs false
namespace Go.Proofs.Ythblfkopofmdfaa
open Go.RowKit

/-- The world behind a round of Crash. -/
theorem rcrash_fin {B b k M : Nat} {d : Dk} {kept : List Int} {cs : Array Value} {w W : World} (hB : B ≤ b) (hk : k < 64) (M1 : Kp (· = b) w W) (M2 : Bk W b 50 cs) (M3 : Rs W B b { d.crashK kept k with b := upd (d.crashK kept k).b k ((d.b k).take (d.s k + M)) } cs)
    (hM : more kept k ((d.b k).length - d.s k) = M) {x : Int} (hx : x = ((d.s k + M : Nat) : Int)) :
    Kp (· = b) w (W.setCell ⟨b, 64 + k, none⟩ (.int .i64 x)) ∧ RkAt (W.setCell ⟨b, 64 + k, none⟩ (.int .i64 x)) B b (d.crashK kept (k + 1)) := by
  subst hx
  refine ⟨M1.set1 _ _, hB, _, M2.put _ _, ?_⟩
  have hh := Rs.putS (M3.keep ((Kp.refl (· = b) _).set1 (64 + k) (.int .i64 ((d.s k + M : Nat) : Int)))) hk (d.s k + M)
  have h2 := crashK_succ d kept k M hM
  rw [← h2]
  exact hh

theorem rcrash_end {B b : Nat} {d : Dk} {kept : List Int} {cs : Array Value} {w wr : World} (hB : B ≤ b) (k1 : Kp (· = b) w wr) (hb : Bk wr b 50 cs) (hc : Rs wr B b (d.crashK kept 64) cs) :
    RtPost B b (d.crash kept) (.tuple #[]) w (.returned (.tuple #[])) ((wr.setCell ⟨b, 130, none⟩ (.bool false)).setCell ⟨b, 129, none⟩ (.int .i64 (-1))) := by
  have k2 : Kp (· = b) wr ((wr.setCell ⟨b, 130, none⟩ (.bool false)).setCell ⟨b, 129, none⟩ (.int .i64 (-1))) := ((Kp.refl (· = b) wr).set1 _ _).set1 _ _
  have hs := hc.size
  have hs1 : (cs.setIfInBounds 130 (.bool false)).size = 131 := by simp [hs]
  refine .of hB (k1.tr k2) ((hb.put _ _).put _ _) ?_
  exact Rs.scal (hc.keep k2) (cs' := (cs.setIfInBounds 130 (.bool false)).setIfInBounds 129 (.int .i64 (-1))) (by simp [hs]) (fun j hj => by rw [set_at _ _ _ _ (by omega), if_neg (by omega), set_at _ _ _ _ (by omega), if_neg (by omega)]) (fu := none) (down := false) (by rw [set_at _ _ _ _ (by omega), if_pos rfl]; rfl) (by rw [set_at _ _ _ _ (by omega), if_neg (by omega), set_at _ _ _ _ (by omega), if_pos rfl])

set_option maxRecDepth 100000 in
set_option maxHeartbeats 4000000 in
theorem rcrash_nil (B b : Nat) (A : Option Addr) (c : Nat) (d : Dk) (hd : d.ok) (w : World) (h : RkAt w B b d) :
    Calls Try.prog 15 #[.pointer (some ⟨b, 0, none⟩), .slice A 0 c] w (RtPost B b (d.crash []) (.tuple #[]) w) := by
  have HD := Lib.hid h
  have HL := Lib.hid hd
  have hge := h.ge
  obtain ⟨i0, hi0, hz0, hz1, hz2⟩ := info_parts Try.infoByte
  clear h hd
  go_enter Try.func15, Try.ntmps15
  go_wp2_with (fail)
  go_loopw [4] (fun i wr => ∃ k : Nat, k ≤ 64 ∧ i = .int .i64 k ∧ Kp (· = b) w wr ∧ RkAt wr B b (d.crashK [] k)) (fun i _ => 64 - (intOf i).toNat)
  case atStart => exact ⟨0, Nat.zero_le _, rfl, Kp.refl _ _, HD.out⟩
  case round =>
    obtain ⟨k, hk, rfl, hkp, hdk⟩ := hrel
    have K1 := Lib.hid hkp
    have H1 := Lib.hid hdk
    clear hkp hdk
    by_cases hlt : k < 64
    · have hlen := HL.out.len hlt
      have hsl := HL.out.sure k hlt
      obtain ⟨cs, hbk, hc⟩ := H1.out.row
      obtain ⟨v, hv1, hv2⟩ := hc.files k hlt
      have hs1 := hc.sure k hlt
      have e1 : (d.crashK [] k).b k = d.b k := by simp [Dk.crashK]
      have e2 : (d.crashK [] k).s k = d.s k := by simp [Dk.crashK]
      rw [e1] at hv2
      rw [e2] at hs1
      obtain ⟨A1, c1, rfl, hr0, hr1, hr2, hr3⟩ := hv2.row
      have q0 : wr.cell? ⟨b, k, none⟩ = some (.slice A1 (d.b k).length c1) := (hbk.cell _).trans hv1
      have q1 : wr.cell? ⟨b, 64 + k, none⟩ = some (.int .i64 (d.s k)) := (hbk.cell _).trans hs1
      have f0 := hbk.free k
      have f1 := hbk.free (64 + k)
      have HK := Lib.hid hbk
      have HC := Lib.hid hc
      have hsz := hbk.lt
      have HR1 : Hid (Rd wr A1 (bys ((d.b k).take (d.s k)))) := rd_take hr1 _
      have HR3 := Lib.hid hr3
      have hkc : d.s k ≤ c1 := by omega
      have hown : Hid ((wr.alloc (.cells #[] 5)).ownsRow wr.heap.size 5 1 (.slice (some ⟨wr.heap.size, 0, none⟩) 0 0) 0 []) := World.ownsRow_lit wr #[] 0 (Nat.le_refl _) (by simp) rfl
      have HAl : Hid (Below wr.heap.size wr (wr.alloc (.cells #[] 5))) := (Below.refl _ _).alloc (Nat.le_refl _) _
      have HLb : Hid ((bys ((d.b k).take (d.s k))).length = d.s k * 1) := by unfold Hid; rw [bys_length, List.length_take, Nat.mul_one, Nat.min_eq_left hsl]
      have q2 := bk_far HK.out q0
      have HKL := Lib.hid hsl
      have HM : Hid (more [] k ((d.b k).length - d.s k) = 0) := rfl
      have hk2 : (k : Int) < 64 := by omega
      clear hbk hc hv1 hv2 hr1 hr2 hr3 hs1 e1 e2
      cases A1 with
      | none =>
        obtain ⟨e1, rfl⟩ := HR3.out rfl
        have hs0 : d.s k = 0 := by omega
        have HE := Lib.hid e1
        generalize hsk : d.s k = sk at *
        have HX := Lib.hid hsk
        clear hsk e1
        subst hs0
        go_wp2_with (fail)
        go_loop [5, 6] (fun n j => n = .int .i64 0 ∧ j = .int .i64 0) (fun _ _ => 0)
        case atStart => exact ⟨rfl, rfl⟩
        case round =>
          obtain ⟨rfl, rfl⟩ := hrel
          go_wp2_with (fail)
          go_region_law (refine step_app rfl (.tmp 48) (.tmp 56) 32 rfl wr.heap.size 5 i0 _ 1 1 Try.underlying32 hi0 hz0 hz1 hz2 rfl (by decide) (.slice (some ⟨wr.heap.size, 0, none⟩) 0 0) 0 [] (by simp [Act.eval, Act.put]) (by exact hown.out) none 0 0 (bys ((d.b k).take 0)) (by simp [Act.eval, Act.put]) (fun _ => rfl) HLb.out (by exact HR1.out.below (below_like HAl.out rfl rfl rfl rfl)) (bys_one _) (by simp only [maxLen]; omega) (by omega) (by simp) ?_; intro A2 c2 w2 hown2 hgrow2; have HB2 := Lib.hid (app_new hgrow2 HAl.out (fun g hg => (own_ge hown.out g hg).1) rfl rfl rfl rfl); have HO2 := Lib.hid (own_take HKL.out hown2); obtain ⟨z0, z1⟩ := append_z HK.out HB2.out q0; clear hown2 hgrow2)
          all_goals
            obtain ⟨M1, M2, M3⟩ := rcut_mid hge hlt K1.out HK.out HC.out HB2.out HO2.out
            generalize w2.setCell ⟨b, k, none⟩ (.slice A2 0 c2) = W at *
            have q3 : W.cell? ⟨b, 64 + k, none⟩ = some (.int .i64 ((d.crashK [] k).s k)) := (M2.cell _).trans (M3.sure k hlt)
            have f3 := M2.free (64 + k)
            have N1 := Lib.hid M1
            have N2 := Lib.hid M2
            have N3 := Lib.hid M3
            clear M1 M2 M3 z0 z1 q0 q1 q2 f0 f1
            go_wp2_with (fail)
            go_roundw
            case rel => exact ⟨k + 1, by omega, by go_num, rcrash_fin (M := 0) hge hlt N1.out N2.out (by rw [HX.out]; exact N3.out) (by rw [HX.out]; exact HM.out) (by rw [HX.out]; rfl)⟩
            case measure => simp [intOf]; omega
      | some ad =>
        go_wp2_with (fail)
        go_loop [5, 6] (fun n j => n = .int .i64 (d.s k) ∧ j = .int .i64 0) (fun _ _ => 0)
        case atStart => exact ⟨rfl, rfl⟩
        case round =>
          obtain ⟨rfl, rfl⟩ := hrel
          go_wp2_with (fail)
          go_region_law (refine step_app rfl (.tmp 48) (.tmp 56) 32 rfl wr.heap.size 5 i0 _ 1 1 Try.underlying32 hi0 hz0 hz1 hz2 rfl (by decide) (.slice (some ⟨wr.heap.size, 0, none⟩) 0 0) 0 [] (by simp [Act.eval, Act.put]) (by exact hown.out) (some ad) (d.s k) c1 (bys ((d.b k).take (d.s k))) (by simp [Act.eval, Act.put]) (fun e => by cases e) HLb.out (by exact HR1.out.below (below_like HAl.out rfl rfl rfl rfl)) (bys_one _) (by simp only [maxLen]; omega) (by omega) (by simp) ?_; intro A2 c2 w2 hown2 hgrow2; have HB2 := Lib.hid (app_new hgrow2 HAl.out (fun g hg => (own_ge hown.out g hg).1) rfl rfl rfl rfl); have HO2 := Lib.hid (own_take HKL.out hown2); obtain ⟨z0, z1⟩ := append_z HK.out HB2.out q0; clear hown2 hgrow2)
          all_goals
            obtain ⟨M1, M2, M3⟩ := rcut_mid hge hlt K1.out HK.out HC.out HB2.out HO2.out
            generalize w2.setCell ⟨b, k, none⟩ (.slice A2 (d.s k) c2) = W at *
            have q3 : W.cell? ⟨b, 64 + k, none⟩ = some (.int .i64 ((d.crashK [] k).s k)) := (M2.cell _).trans (M3.sure k hlt)
            have f3 := M2.free (64 + k)
            have N1 := Lib.hid M1
            have N2 := Lib.hid M2
            have N3 := Lib.hid M3
            clear M1 M2 M3 z0 z1 q0 q1 q2 f0 f1
            go_wp2_with (fail)
            go_roundw
            case rel => exact ⟨k + 1, by omega, by go_num, rcrash_fin hge hlt N1.out N2.out N3.out HM.out rfl⟩
            case measure => simp [intOf]; omega
    · obtain rfl : k = 64 := by omega
      obtain ⟨cs, hbk, hc⟩ := H1.out.row
      have q0 : wr.cell? ⟨b, 130, none⟩ = some (.bool d.down) := (hbk.cell _).trans hc.down
      have q1 : wr.cell? ⟨b, 129, none⟩ = some (.int .i64 (fuI d.fu)) := (hbk.cell _).trans hc.fuse
      have f0 := hbk.free 130
      have f1 := hbk.free 129
      have HK := Lib.hid hbk
      have HC := Lib.hid hc
      clear hbk hc
      go_wp2_with (fail)
      go_end0
      exact rcrash_end hge K1.out HK.out HC.out
end Go.Proofs.Ythblfkopofmdfaa
