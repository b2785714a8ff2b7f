/-
  The document's disk: Crash that keeps some.
-/
import Derived.Test.YthblfkopofmdfaaDiskRefCrash
set_option linter.unusedVariables false
set_option linter.unusedSimpArgs false
namespace Go.Proofs.Ythblfkopofmdfaa
open Go.RowKit

set_option maxRecDepth 100000 in
set_option maxHeartbeats 4000000 in
theorem rcrash_cons (B b : Nat) (A : Option Addr) (c : Nat) (kept : List Int) (d : Dk) (hd : d.ok) (w : World) (h : RkAt w B b d) (hr : Rd w A (ints kept)) (hAb : ∀ g o, A = some ⟨g, o, none⟩ → ints kept ≠ [] → g ≠ b) (hkept : 0 < kept.length) (hn : kept.length ≤ 1048576) :
    Calls Try.prog 15 #[.pointer (some ⟨b, 0, none⟩), .slice A kept.length c] w (RtPost B b (d.crash kept) (.tuple #[]) w) := by
  have HD := Lib.hid h
  have HL := Lib.hid hd
  have hge := h.ge
  obtain ⟨i0, hi0, hz0, hz1, hz2⟩ := info_parts Try.infoByte
  have HR := Lib.hid hr
  have HA := Lib.hid hAb
  clear h hd hr hAb
  go_enter Try.func15, Try.ntmps15
  go_wp2_with (fail)
  go_loopw [4] (fun i wr => ∃ k : Nat, k ≤ 64 ∧ i = .int .i64 k ∧ Kp (· = b) w wr ∧ RkAt wr B b (d.crashK kept k)) (fun i _ => 64 - (intOf i).toNat)
  case atStart => exact ⟨0, Nat.zero_le _, rfl, Kp.refl _ _, HD.out⟩
  case round =>
    obtain ⟨k, hk, rfl, hkp, hdk⟩ := hrel
    have K1 := Lib.hid hkp
    have H1 := Lib.hid hdk
    clear hkp hdk
    by_cases hlt : k < 64
    · have hlen := HL.out.len hlt
      have hsl := HL.out.sure k hlt
      obtain ⟨cs, hbk, hc⟩ := H1.out.row
      obtain ⟨v, hv1, hv2⟩ := hc.files k hlt
      have hs1 := hc.sure k hlt
      have e1 : (d.crashK kept k).b k = d.b k := by simp [Dk.crashK]
      have e2 : (d.crashK kept k).s k = d.s k := by simp [Dk.crashK]
      rw [e1] at hv2
      rw [e2] at hs1
      obtain ⟨A1, c1, rfl, hr0, hr1, hr2, hr3⟩ := hv2.row
      have q0 : wr.cell? ⟨b, k, none⟩ = some (.slice A1 (d.b k).length c1) := (hbk.cell _).trans hv1
      have q1 : wr.cell? ⟨b, 64 + k, none⟩ = some (.int .i64 (d.s k)) := (hbk.cell _).trans hs1
      have f0 := hbk.free k
      have f1 := hbk.free (64 + k)
      have HK := Lib.hid hbk
      have HC := Lib.hid hc
      have hsz := hbk.lt
      have hmod : k % kept.length < kept.length := Nat.mod_lt _ hkept
      have hx : (ints kept)[k % kept.length]? = some (.int .i64 kept[k % kept.length]) := by simp [ints, List.getElem?_eq_getElem hmod]
      have hmore : more kept k ((d.b k).length - d.s k) = min (kept[k % kept.length]).toNat ((d.b k).length - d.s k) := by unfold more; rw [List.getElem?_eq_getElem hmod]
      obtain ⟨g, o, rfl, _, hcell⟩ := (rd_kp HR.out K1.out HA.out) _ _ hx
      generalize kept[k % kept.length] = x at *
      have hmm0 : (k : Int) % (kept.length : Int) = ((k % kept.length : Nat) : Int) := by omega
      generalize k % kept.length = r at *
      have hmm : (k : Int) % (kept.length : Int) = (r : Int) := hmm0
      clear hmm0
      obtain ⟨M, hM0⟩ : ∃ M, more kept k ((d.b k).length - d.s k) = M := ⟨_, rfl⟩
      have hM1 : M ≤ x.toNat ∧ M ≤ (d.b k).length - d.s k ∧ (x.toNat ≤ M ∨ (d.b k).length - d.s k ≤ M) := by rw [← hM0, hmore]; omega
      obtain ⟨hMa, hMb, hMc⟩ := hM1
      have HM := Lib.hid hM0
      clear hM0 hmore hx
      have HR1 : Hid (Rd wr A1 (bys ((d.b k).take (d.s k + M)))) := rd_take hr1 _
      have HR3 := Lib.hid hr3
      have hkc : d.s k + M ≤ c1 := by omega
      have hown : Hid ((wr.alloc (.cells #[] 5)).ownsRow wr.heap.size 5 1 (.slice (some ⟨wr.heap.size, 0, none⟩) 0 0) 0 []) := World.ownsRow_lit wr #[] 0 (Nat.le_refl _) (by simp) rfl
      have HAl : Hid (Below wr.heap.size wr (wr.alloc (.cells #[] 5))) := (Below.refl _ _).alloc (Nat.le_refl _) _
      have hsM : d.s k + M ≤ (d.b k).length := by omega
      have HLb : Hid ((bys ((d.b k).take (d.s k + M))).length = (d.s k + M) * 1) := by unfold Hid; rw [bys_length, List.length_take, Nat.mul_one, Nat.min_eq_left hsM]
      have q2 := bk_far HK.out q0
      have HKL := Lib.hid hsM
      have hk2 : (k : Int) < 64 := by omega
      clear hbk hc hv1 hv2 hr1 hr2 hr3 hs1 e1 e2
      cases A1 with
      | none =>
        obtain ⟨e1, rfl⟩ := HR3.out rfl
        have hs0 : d.s k = 0 := by omega
        have HE := Lib.hid e1
        have HR9 := Lib.hid HR3
        clear HR3
        generalize hsk : d.s k = sk at *
        have HX := Lib.hid hsk
        clear hsk
        generalize hbl : (d.b k).length = bl at *
        have HY := Lib.hid hbl
        clear hbl
        subst hs0
        subst e1
        obtain rfl : M = 0 := by omega
        go_wp2_with (fail)
        go_loop [5, 6] (fun n j => n = .int .i64 0 ∧ j = .int .i64 0) (fun _ _ => 0)
        case atStart => exact ⟨rfl, rfl⟩
        case round =>
          obtain ⟨rfl, rfl⟩ := hrel
          by_cases hx0 : 0 < x
          · go_wp2_with (fail)
            go_region_law (refine step_app rfl (.tmp 48) (.tmp 56) 32 rfl wr.heap.size 5 i0 _ 1 1 Try.underlying32 hi0 hz0 hz1 hz2 rfl (by decide) (.slice (some ⟨wr.heap.size, 0, none⟩) 0 0) 0 [] (by simp [Act.eval, Act.put]) (by exact hown.out) none 0 0 (bys ((d.b k).take 0)) (by simp [Act.eval, Act.put]) (fun _ => rfl) HLb.out (by exact HR1.out.below (below_like HAl.out rfl rfl rfl rfl)) (bys_one _) (by simp only [maxLen]; omega) (by omega) (by simp) ?_; intro A2 c2 w2 hown2 hgrow2; have HB2 := Lib.hid (app_new hgrow2 HAl.out (fun g hg => (own_ge hown.out g hg).1) rfl rfl rfl rfl); have HO2 := Lib.hid (own_take (Nat.zero_le _) hown2); obtain ⟨z0, z1⟩ := append_z HK.out HB2.out q0; clear hown2 hgrow2)
            all_goals
              obtain ⟨M1, M2, M3⟩ := rcut_mid hge hlt K1.out HK.out HC.out HB2.out HO2.out
              generalize w2.setCell ⟨b, k, none⟩ (.slice A2 0 c2) = W at *
              have q3 : W.cell? ⟨b, 64 + k, none⟩ = some (.int .i64 ((d.crashK kept k).s k)) := (M2.cell _).trans (M3.sure k hlt)
              have f3 := M2.free (64 + k)
              have N1 := Lib.hid M1
              have N2 := Lib.hid M2
              have N3 := Lib.hid M3
              clear M1 M2 M3 z0 z1 q0 q1 q2 f0 f1
              go_wp2_with (fail)
              go_roundw
              case rel => exact ⟨k + 1, by omega, by go_num, rcrash_fin (M := 0) hge hlt N1.out N2.out (by rw [HX.out]; exact N3.out) (by rw [HX.out, HY.out]; exact HM.out) (by rw [HX.out]; rfl)⟩
              case measure => simp [intOf]; omega
          · go_wp2_with (fail)
            go_region_law (refine step_app rfl (.tmp 48) (.tmp 56) 32 rfl wr.heap.size 5 i0 _ 1 1 Try.underlying32 hi0 hz0 hz1 hz2 rfl (by decide) (.slice (some ⟨wr.heap.size, 0, none⟩) 0 0) 0 [] (by simp [Act.eval, Act.put]) (by exact hown.out) none 0 0 (bys ((d.b k).take 0)) (by simp [Act.eval, Act.put]) (fun _ => rfl) HLb.out (by exact HR1.out.below (below_like HAl.out rfl rfl rfl rfl)) (bys_one _) (by simp only [maxLen]; omega) (by omega) (by simp) ?_; intro A2 c2 w2 hown2 hgrow2; have HB2 := Lib.hid (app_new hgrow2 HAl.out (fun g hg => (own_ge hown.out g hg).1) rfl rfl rfl rfl); have HO2 := Lib.hid (own_take (Nat.zero_le _) hown2); obtain ⟨z0, z1⟩ := append_z HK.out HB2.out q0; clear hown2 hgrow2)
            all_goals
              obtain ⟨M1, M2, M3⟩ := rcut_mid hge hlt K1.out HK.out HC.out HB2.out HO2.out
              generalize w2.setCell ⟨b, k, none⟩ (.slice A2 0 c2) = W at *
              have q3 : W.cell? ⟨b, 64 + k, none⟩ = some (.int .i64 ((d.crashK kept k).s k)) := (M2.cell _).trans (M3.sure k hlt)
              have f3 := M2.free (64 + k)
              have N1 := Lib.hid M1
              have N2 := Lib.hid M2
              have N3 := Lib.hid M3
              clear M1 M2 M3 z0 z1 q0 q1 q2 f0 f1
              go_wp2_with (fail)
              go_roundw
              case rel => exact ⟨k + 1, by omega, by go_num, rcrash_fin (M := 0) hge hlt N1.out N2.out (by rw [HX.out]; exact N3.out) (by rw [HX.out, HY.out]; exact HM.out) (by rw [HX.out]; rfl)⟩
              case measure => simp [intOf]; omega
      | some ad =>
        generalize hsk : d.s k = sk at *
        have HX := Lib.hid hsk
        clear hsk
        go_wp2_with (fail)
        go_loop [5, 6] (fun n j => ∃ j' m : Nat, j' ≤ M ∧ m ≤ sk + j' ∧ sk + j' ≤ m ∧ n = .int .i64 m ∧ j = .int .i64 j') (fun _ j => M - (intOf j).toNat)
        case atStart => exact ⟨0, sk, by omega, by omega, by omega, rfl, rfl⟩
        case round =>
          obtain ⟨j, m, hj1, hm1, hm2, rfl, rfl⟩ := hrel
          by_cases hjM : j < M
          · have hjx : (j : Int) < x := by omega
            have hml : (m : Int) < ((d.b k).length : Int) := by omega
            go_wp2_with (fail)
            go_round
            case rel => exact ⟨j + 1, m + 1, by omega, by omega, by omega, by go_num, by go_num⟩
            case measure => simp [intOf]; omega
          · obtain rfl : M = j := by omega
            have hmT : (d.b k).take (sk + M) = (d.b k).take m := by congr 1; omega
            rw [hmT] at HLb HR1
            have hmE : sk + M = m := by omega
            rw [hmE] at HLb HKL
            have HME := Lib.hid hmE
            have HMT := Lib.hid hmT
            clear hmT hmE
            have hmc : m ≤ c1 := by omega
            have hmc2 : m ≤ (d.b k).length := by omega
            by_cases hjx : (M : Int) < x
            · have hml : ¬ (m : Int) < ((d.b k).length : Int) := by omega
              go_wp2_with (fail)
              go_region_law (refine step_app rfl (.tmp 48) (.tmp 56) 32 rfl wr.heap.size 5 i0 _ 1 1 Try.underlying32 hi0 hz0 hz1 hz2 rfl (by decide) (.slice (some ⟨wr.heap.size, 0, none⟩) 0 0) 0 [] (by simp [Act.eval, Act.put]) (by exact hown.out) (some ad) m c1 (bys ((d.b k).take m)) (by simp [Act.eval, Act.put]) (fun e => by cases e) HLb.out (by exact HR1.out.below (below_like HAl.out rfl rfl rfl rfl)) (bys_one _) (by simp only [maxLen]; omega) (by omega) (by simp) ?_; intro A2 c2 w2 hown2 hgrow2; have HB2 := Lib.hid (app_new hgrow2 HAl.out (fun g hg => (own_ge hown.out g hg).1) rfl rfl rfl rfl); have HO2 := Lib.hid (own_take HKL.out hown2); obtain ⟨z0, z1⟩ := append_z HK.out HB2.out q0; clear hown2 hgrow2)
              all_goals
                obtain ⟨M1, M2, M3⟩ := rcut_mid hge hlt K1.out HK.out HC.out HB2.out HO2.out
                generalize w2.setCell ⟨b, k, none⟩ (.slice A2 m c2) = W at *
                have q3 : W.cell? ⟨b, 64 + k, none⟩ = some (.int .i64 ((d.crashK kept k).s k)) := (M2.cell _).trans (M3.sure k hlt)
                have f3 := M2.free (64 + k)
                have N1 := Lib.hid M1
                have N2 := Lib.hid M2
                have N3 := Lib.hid M3
                clear M1 M2 M3 z0 z1 q0 q1 q2 f0 f1
                go_wp2_with (fail)
                go_roundw
                case rel => exact ⟨k + 1, by omega, by go_num, rcrash_fin (M := M) hge hlt N1.out N2.out (by rw [HX.out, HME.out]; exact N3.out) (by rw [HX.out]; exact HM.out) (by rw [HX.out, HME.out])⟩
                case measure => simp [intOf]; omega
            · go_wp2_with (fail)
              go_region_law (refine step_app rfl (.tmp 48) (.tmp 56) 32 rfl wr.heap.size 5 i0 _ 1 1 Try.underlying32 hi0 hz0 hz1 hz2 rfl (by decide) (.slice (some ⟨wr.heap.size, 0, none⟩) 0 0) 0 [] (by simp [Act.eval, Act.put]) (by exact hown.out) (some ad) m c1 (bys ((d.b k).take m)) (by simp [Act.eval, Act.put]) (fun e => by cases e) HLb.out (by exact HR1.out.below (below_like HAl.out rfl rfl rfl rfl)) (bys_one _) (by simp only [maxLen]; omega) (by omega) (by simp) ?_; intro A2 c2 w2 hown2 hgrow2; have HB2 := Lib.hid (app_new hgrow2 HAl.out (fun g hg => (own_ge hown.out g hg).1) rfl rfl rfl rfl); have HO2 := Lib.hid (own_take HKL.out hown2); obtain ⟨z0, z1⟩ := append_z HK.out HB2.out q0; clear hown2 hgrow2)
              all_goals
                obtain ⟨M1, M2, M3⟩ := rcut_mid hge hlt K1.out HK.out HC.out HB2.out HO2.out
                generalize w2.setCell ⟨b, k, none⟩ (.slice A2 m c2) = W at *
                have q3 : W.cell? ⟨b, 64 + k, none⟩ = some (.int .i64 ((d.crashK kept k).s k)) := (M2.cell _).trans (M3.sure k hlt)
                have f3 := M2.free (64 + k)
                have N1 := Lib.hid M1
                have N2 := Lib.hid M2
                have N3 := Lib.hid M3
                clear M1 M2 M3 z0 z1 q0 q1 q2 f0 f1
                go_wp2_with (fail)
                go_roundw
                case rel => exact ⟨k + 1, by omega, by go_num, rcrash_fin (M := M) hge hlt N1.out N2.out (by rw [HX.out, HME.out]; exact N3.out) (by rw [HX.out]; exact HM.out) (by rw [HX.out, HME.out])⟩
                case measure => simp [intOf]; omega
    · obtain rfl : k = 64 := by omega
      obtain ⟨cs, hbk, hc⟩ := H1.out.row
      have q0 : wr.cell? ⟨b, 130, none⟩ = some (.bool d.down) := (hbk.cell _).trans hc.down
      have q1 : wr.cell? ⟨b, 129, none⟩ = some (.int .i64 (fuI d.fu)) := (hbk.cell _).trans hc.fuse
      have f0 := hbk.free 130
      have f1 := hbk.free 129
      have HK := Lib.hid hbk
      have HC := Lib.hid hc
      clear hbk hc
      go_wp2_with (fail)
      go_end0
      exact rcrash_end hge K1.out HK.out HC.out
end Go.Proofs.Ythblfkopofmdfaa
