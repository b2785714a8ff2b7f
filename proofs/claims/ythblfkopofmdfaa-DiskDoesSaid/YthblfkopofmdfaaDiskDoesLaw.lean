/-
  DiskDoes: for every input true; what was there stays.
-/
import Derived.Test.YthblfkopofmdfaaDiskDoes
import Derived.Deep.DeepCutAuto
import Derived.Deep.CutBlock
import Derived.Deep.RegionHeld3
set_option linter.unusedVariables false
set_option linter.unusedSimpArgs false
namespace Go.Proofs.Ythblfkopofmdfaa
open Go.RowKit

theorem AcIn.other {w w' : World} {b r : Nat} {a : Ac} {AB AK : Option Addr} (h : AcIn w r a AB AK) (i : AcIn w b a AB AK) (k : Kp (· = b) w w') : AcIn w' r a AB AK :=
  ⟨rd_kp h.rb k i.fb, h.zb, h.fb, h.lb, rd_kp h.rk k i.fk, h.fk, h.lk, h.n⟩

/-- Two disks side by side, and an act's cells. -/
structure Duo (bb rr cc : Nat) (w3 : World) (d : Dk) (cs : Array Value) (w : World) : Prop where
  m : DkAt w bb bb d
  n : RkAt w rr rr d
  a : Bk w cc 35 cs
  b : Below bb w3 w

theorem Duo.box {bb rr cc : Nat} {w3 : World} {d : Dk} {cs : Array Value} {w w' : World} (h : Duo bb rr cc w3 d cs w) (hb : Below w.heap.size w w') : Duo bb rr cc w3 d cs w' :=
  ⟨h.m.box hb, h.n.box hb, h.a.below hb h.a.lt, h.b.trans (hb.mono (Nat.le_of_lt h.m.lt))⟩

theorem Duo.drew {bb rr cc : Nat} {w3 : World} {d : Dk} {cs : Array Value} {w : World} (h : Duo bb rr cc w3 d cs w) : Duo bb rr cc w3 d cs w.drew :=
  h.box ⟨rfl, rfl, rfl, Nat.le_refl _, fun _ _ => rfl⟩

theorem Duo.at1 {bb rr cc : Nat} {w3 : World} {d : Dk} {x0 x1 x2 : Value} {t : List Value} {w : World} (h : Duo bb rr cc w3 d (x0 :: x1 :: x2 :: t).toArray w) : w.cell? ⟨cc, 1, none⟩ = some x1 := h.a.cell 1

theorem Duo.dn {bb rr cc : Nat} {w3 : World} {d : Dk} {cs : Array Value} {w : World} (h : Duo bb rr cc w3 d cs w) : w.cell? ⟨rr, 130, none⟩ = some (.bool d.down) := by
  obtain ⟨cs, hk, hc⟩ := h.n.row
  exact (hk.cell _).trans hc.down

theorem Rd.drew {A : Option Addr} {xs : List Value} {w : World} (h : Rd w A xs) : Rd w.drew A xs := h

def MidOf (P : World → Prop) (x : Int) (v : Value) (w : World) : Prop := v = .int .i64 x ∧ P w

theorem duo_ref {bb rr cc : Nat} {w3 : World} {d d' : Dk} {cs : Array Value} {w w' : World} {v : Value} {e : Ending} (hm : DkAt w bb bb d') (hn : RkAt w rr rr d) (ha : Bk w cc 35 cs) (hb : Below bb w3 w) (hne : bb ≠ rr) (hlt : bb < rr) (nr : cc ≠ rr) (h : RtPost rr rr d' v w e w') : e = .returned v ∧ Duo bb rr cc w3 d' cs w' :=
  ⟨h.1, hm.other hn hne h.2.1, h.2.2, ha.kp h.2.1 nr, hb.trans (h.2.1.below (fun k hk e => by omega) (Nat.le_of_lt hm.lt))⟩

theorem quiet_b {f : Nat} {args : Array Value} {w : World} {v : Value} (h : Calls Try.prog f args w fun e w' => e = .returned v ∧ w' = w) : Calls Try.prog f args w fun e w' => e = .returned v ∧ Below w.heap.size w w' := by
  refine h.mono ?_
  rintro e w' ⟨h1, rfl⟩
  exact ⟨h1, Below.refl _ _⟩

set_option maxRecDepth 100000 in
set_option maxHeartbeats 4000000 in
theorem does_law (room : Int) (A : Option Addr) (c : Nat) (l : List Ac) (w : World) (h : ActsAt w A l) (hl : l.length ≤ 9223372036854775807) :
    Calls Try.prog 3 #[.int .i64 room, .slice A l.length c] w fun e w' => e = .returned (.bool true) ∧ Below w.heap.size w w' := by
  have HA := Lib.hid h
  clear h
  go_enter Try.func3, Try.ntmps3
  go_wp2_with (fail)
  refine (awake_any _).mono ?_
  rintro e w1 ⟨rfl, hb1⟩
  have B1 := Lib.hid hb1
  clear hb1
  go_wp2_with (fail)
  refine (large_any A c l _ (HA.out.below B1.out) hl).mono ?_
  rintro e w3 ⟨r, rfl, hr, hb2⟩
  have B3 := Lib.hid (B1.out.trans (hb2.mono B1.out.size))
  clear hb2
  cases r with
  | true =>
    go_wp2_with (fail)
    go_ret
    exact ⟨rfl, B3.out⟩
  | false =>
  have HF := Lib.hid (hr rfl)
  clear hr
  go_wp2_with (fail)
  by_cases hro : room < 0 ∨ 1048576 < room
  · have HRO := Lib.hid hro
    clear hro
    refine (new_out room HRO.out _).mono ?_
    rintro e w3 ⟨rfl, rfl⟩
    go_wp2_with (fail)
    refine (rnew_out room HRO.out _).mono ?_
    rintro e w3 ⟨rfl, rfl⟩
    go_wp2_with (fail)
    go_ret
    exact ⟨rfl, B3.out⟩
  have r0 : 0 ≤ room := by omega
  have r1 : room ≤ 1048576 := by omega
  clear hro
  refine (new_in room r0 r1 _).mono ?_
  rintro e w4 ⟨rfl, hw⟩
  have M4 : Hid (DkAt w4 w3.heap.size w3.heap.size (Dk.new room)) := by rw [hw]; exact dk_new room w3
  have B4 : Hid (Below w3.heap.size w3 w4) := by rw [hw]; exact (Below.refl _ _).alloc (Nat.le_refl _) _
  have S4 : Hid (w4.heap.size = w3.heap.size + 1) := by rw [hw]; simp [Hid]
  have HSz := Lib.hid B3.out.size
  clear hw
  go_wp2_with (fail)
  refine (rnew_in room r0 r1 _).mono ?_
  rintro e w5 ⟨rfl, hw⟩
  have N5 : Hid (RkAt w5 w4.heap.size w4.heap.size (Dk.new room)) := by rw [hw]; exact rk_new room w4
  have M5 : Hid (DkAt w5 w3.heap.size w3.heap.size (Dk.new room)) := by rw [hw]; exact M4.out.box ((Below.refl _ _).alloc (Nat.le_refl _) _)
  have B5 : Hid (Below w3.heap.size w3 w5) := by rw [hw]; exact B4.out.alloc B4.out.size _
  have hne : w3.heap.size ≠ w4.heap.size := by have := S4.out; omega
  have hbr : w3.heap.size < w4.heap.size := by have := S4.out; omega
  have O5 : Hid (Dk.new room).ok := Dk.new_ok r0 r1
  clear hw M4 B4 S4
  generalize hbb : w3.heap.size = bb at *
  generalize hrr : w4.heap.size = rr at *
  have HBB := Lib.hid hbb
  have HRR := Lib.hid hrr
  clear hbb hrr r0 r1
  go_wp2_with (fail)
  go_loopw [45] (fun i wr => ∃ (k : Nat) (d : Dk), k ≤ l.length ∧ i = .int .i64 k ∧ DkAt wr bb bb d ∧ RkAt wr rr rr d ∧ d.ok ∧ Below bb w3 wr) (fun i _ => l.length - (intOf i).toNat)
  case atStart => exact ⟨0, _, Nat.zero_le _, rfl, M5.out, N5.out, O5.out, B5.out⟩
  case round =>
    obtain ⟨k, d, hk, rfl, hdk, hrk, hok, hb⟩ := hrel
    have M6 := Lib.hid hdk
    have N6 := Lib.hid hrk
    have O6 := Lib.hid hok
    have B6 := Lib.hid hb
    clear hdk hrk hok hb M5 N5 O5 B5
    by_cases hlt : k < l.length
    · have hft := HF.out.2 k hlt
      have B36 : Below w.heap.size w wr := B3.out.trans (B6.out.mono (by rw [← HBB.out]; exact B3.out.size))
      obtain ⟨g, o, AB, AK, cB, cK, rfl, q0, q1, q2, q3, q4, hin⟩ := act_in (HA.out k hlt) (b := bb) (by rw [← HBB.out]; exact B3.out.size) B36 hft
      obtain ⟨_, _, AB', AK', cB', cK', eA, _, _, _, p3, p4, hin'⟩ := act_in (HA.out k hlt) (b := rr) (by have := B3.out.size; have := HBB.out; omega) B36 hft
      injection eA with eA
      injection eA with e1 e2
      subst e1 e2
      rw [q3] at p3
      rw [q4] at p4
      injection p3 with p3
      injection p3 with p3 p3' p3''
      injection p4 with p4
      injection p4 with p4 p4' p4''
      subst p3 p3'' p4 p4''
      have HI := Lib.hid hin
      have HJ := Lib.hid hin'
      clear hin hin' hft p3' p4' B36
      generalize l[k] = a at *
      have LM := M6.out.lt
      have LN := N6.out.lt
      have KA : Hid (Below wr.heap.size wr (wr.alloc (.cells #[.int .i64 a.d, .int .i64 a.f, .int .i64 a.n, .slice AB a.b.length cB, .slice AK a.k.length cK] 35))) := (Below.refl _ wr).alloc (Nat.le_refl _) _
      have DA := Lib.hid (Bk.new wr 35 #[.int .i64 a.d, .int .i64 a.f, .int .i64 a.n, .slice AB a.b.length cB, .slice AK a.k.length cK])
      go_wp2_with (fail)
      generalize hWA : wr.alloc (.cells #[.int .i64 a.d, .int .i64 a.f, .int .i64 a.n, .slice AB a.b.length cB, .slice AK a.k.length cK] 35) = WA at *
      have MA := Lib.hid (M6.out.box KA.out)
      have NA := Lib.hid (N6.out.box KA.out)
      have IA := Lib.hid (HI.out.kp (kp_below KA.out))
      have JA := Lib.hid (HJ.out.kp (kp_below KA.out))
      have BA := Lib.hid (B6.out.trans (KA.out.mono (Nat.le_of_lt M6.out.lt)))
      clear hWA KA M6 N6 B6 HI HJ q0 q1 q2 q3 q4
      generalize hcc : wr.heap.size = cc at *
      clear hcc
      have nb : cc ≠ bb := by omega
      have nr : cc ≠ rr := by omega
      refine (do_any _ _ d O6.out _ MA.out a AB AK cB cK IA.out).mono ?_
      rintro e w7 ⟨rfl, k7, h7⟩
      have M7 := Lib.hid h7
      have N7 := Lib.hid (NA.out.other MA.out hne.symm k7)
      have J7 := Lib.hid (JA.out.other IA.out k7)
      have D7 := Lib.hid (DA.out.kp k7 nb)
      have B7 := Lib.hid (BA.out.trans (k7.below (fun k hk e => by omega) (Nat.le_of_lt MA.out.lt)))
      have L7 : Hid (cc < w7.heap.size) := D7.out.lt
      clear k7 h7 MA NA IA JA DA BA
      have q0 : w7.cell? ⟨cc, 0, none⟩ = some (.int .i64 a.d) := D7.out.cell 0
      have q1 : w7.cell? ⟨cc, 1, none⟩ = some (.int .i64 a.f) := D7.out.cell 1
      have q2 : w7.cell? ⟨cc, 2, none⟩ = some (.int .i64 a.n) := D7.out.cell 2
      have q3 : w7.cell? ⟨cc, 3, none⟩ = some (.slice AB a.b.length cB) := D7.out.cell 3
      have q4 : w7.cell? ⟨cc, 4, none⟩ = some (.slice AK a.k.length cK) := D7.out.cell 4
      go_upto_block 2 with (fail)
      go_cut [12] from 54 to 87 (fun v wx => MidOf (Duo bb rr cc w3 (d.act a).1 #[.int .i64 a.d, .int .i64 a.f, .int .i64 a.n, .slice AB a.b.length cB, .slice AK a.k.length cK]) (d.act a).2 v wx)
      case first =>
        by_cases h0 : a.d = 0
        · have e1 : d.act a = d.append a.f a.b := by unfold Dk.act; rw [if_pos h0]
          have t0 : (a.d == 0) = true := by simpa using h0
          have HR := Lib.hid (rappend_any rr rr a.f AB cB a.b d O6.out _ N7.out J7.out.rb J7.out.zb J7.out.fb J7.out.lb)
          clear h0
          go_wp2_with (fail)
          refine HR.out.mono ?_
          rintro e w8 hp
          obtain ⟨rfl, hd⟩ := duo_ref (by rw [e1] at M7; exact M7.out) N7.out D7.out B7.out hne hbr nr hp
          have HE := Lib.hid e1
          have H8 := Lib.hid hd
          clear hd hp e1 HR q0 q1 q2 q3 q4
          go_wp2_with (fail)
          go_meet
          exact ⟨by rw [HE.out], by rw [HE.out]; exact H8.out⟩
        have f0 : (a.d == 0) = false := by simpa using h0
        by_cases h1 : a.d = 1
        · have e1 : d.act a = d.sync a.f := by unfold Dk.act; rw [if_neg h0]; rw [if_pos h1]
          have t1 : (a.d == 1) = true := by simpa using h1
          have HR := Lib.hid (rsync_any rr rr a.f d O6.out _ N7.out)
          clear h1
          go_wp2_with (fail)
          refine HR.out.mono ?_
          rintro e w8 hp
          obtain ⟨rfl, hd⟩ := duo_ref (by rw [e1] at M7; exact M7.out) N7.out D7.out B7.out hne hbr nr hp
          have HE := Lib.hid e1
          have H8 := Lib.hid hd
          clear hd hp e1 HR q0 q1 q2 q3 q4
          go_wp2_with (fail)
          go_meet
          exact ⟨by rw [HE.out], by rw [HE.out]; exact H8.out⟩
        have f1 : (a.d == 1) = false := by simpa using h1
        by_cases h2 : a.d = 2
        · have e1 : d.act a = d.cut a.f a.n := by unfold Dk.act; rw [if_neg h0]; rw [if_neg h1]; rw [if_pos h2]
          have t2 : (a.d == 2) = true := by simpa using h2
          have HR := Lib.hid (rcut_any rr rr a.f a.n d O6.out _ N7.out)
          clear h2
          go_wp2_with (fail)
          refine HR.out.mono ?_
          rintro e w8 hp
          obtain ⟨rfl, hd⟩ := duo_ref (by rw [e1] at M7; exact M7.out) N7.out D7.out B7.out hne hbr nr hp
          have HE := Lib.hid e1
          have H8 := Lib.hid hd
          clear hd hp e1 HR q0 q1 q2 q3 q4
          go_wp2_with (fail)
          go_meet
          exact ⟨by rw [HE.out], by rw [HE.out]; exact H8.out⟩
        have f2 : (a.d == 2) = false := by simpa using h2
        by_cases h3 : a.d = 3
        · have e1 : d.act a = (d.fuse a.n, 0) := by unfold Dk.act; rw [if_neg h0]; rw [if_neg h1]; rw [if_neg h2]; rw [if_pos h3]
          have t3 : (a.d == 3) = true := by simpa using h3
          have HR := Lib.hid (rfuse_any rr rr a.n d _ N7.out)
          clear h3
          go_wp2_with (fail)
          refine HR.out.mono ?_
          rintro e w8 hp
          obtain ⟨rfl, hd⟩ := duo_ref (by rw [e1] at M7; exact M7.out) N7.out D7.out B7.out hne hbr nr hp
          have HE := Lib.hid e1
          have H8 := Lib.hid hd
          clear hd hp e1 HR q0 q1 q2 q3 q4
          go_wp2_with (fail)
          go_meet
          exact ⟨by rw [HE.out], by rw [HE.out]; exact H8.out⟩
        have f3 : (a.d == 3) = false := by simpa using h3
        by_cases h4 : a.d = 4
        · have e1 : d.act a = (d.crash a.k, 0) := by unfold Dk.act; rw [if_neg h0]; rw [if_neg h1]; rw [if_neg h2]; rw [if_neg h3]; rw [if_pos h4]
          have t4 : (a.d == 4) = true := by simpa using h4
          have HR := Lib.hid (rcrash_any rr rr AK cK a.k d O6.out _ N7.out J7.out.rk J7.out.fk J7.out.lk)
          clear h4
          go_wp2_with (fail)
          refine HR.out.mono ?_
          rintro e w8 hp
          obtain ⟨rfl, hd⟩ := duo_ref (by rw [e1] at M7; exact M7.out) N7.out D7.out B7.out hne hbr nr hp
          have HE := Lib.hid e1
          have H8 := Lib.hid hd
          clear hd hp e1 HR q0 q1 q2 q3 q4
          go_wp2_with (fail)
          go_meet
          exact ⟨by rw [HE.out], by rw [HE.out]; exact H8.out⟩
        have f4 : (a.d == 4) = false := by simpa using h4
        have e1 : d.act a = (d, 0) := by unfold Dk.act; rw [if_neg h0, if_neg h1, if_neg h2, if_neg h3, if_neg h4]
        have H8 : Hid (Duo bb rr cc w3 d #[.int .i64 a.d, .int .i64 a.f, .int .i64 a.n, .slice AB a.b.length cB, .slice AK a.k.length cK] w7) := ⟨by have := M7.out; rw [e1] at this; exact this, N7.out, D7.out, B7.out⟩
        have HE := Lib.hid e1
        clear h0 h1 h2 h3 h4 e1 q0 q1 q2 q3 q4
        go_wp2_with (fail)
        go_meet
        exact ⟨by rw [HE.out], by rw [HE.out]; exact H8.out⟩
      case rest =>
        obtain ⟨rfl, hd⟩ := hcut
        have H8 := Lib.hid hd
        have O8 := Lib.hid (d.act_ok O6.out a J7.out.n)
        clear hd M7 N7 J7 D7 B7 O6 q0 q1 q2 q3 q4 L7
        generalize (d.act a).1 = d4 at *
        generalize (d.act a).2 = e4 at *
        have p1 : wc.cell? ⟨cc, 1, none⟩ = some (.int .i64 a.f) := H8.out.a.cell 1
        have HL : Hid ((d4.rd a.f).length ≤ 1048576) := by
          unfold Hid Dk.rd
          split
          · simp
          · exact O8.out.len (by omega)
        have HFL : Hid ((filesK d4.b 64).length ≤ 1048576) := Nat.le_trans (filesK_len d4.b 64) (by decide)
        go_wp2_with (fail)
        refine (read_any _ _ a.f d4 O8.out _ H8.out.m).mono ?_
        rintro e w12 ⟨A12, c12, rfl, hr, hg, hb⟩
        have R12 := Lib.hid hr
        have H12 := Lib.hid (H8.out.box hb)
        clear hr hg hb H8 p1
        have p1 : w12.cell? ⟨cc, 1, none⟩ = some (.int .i64 a.f) := H12.out.a.cell 1
        go_wp2_with (fail)
        refine (rread_any _ _ a.f d4 O8.out _ H12.out.n).mono ?_
        rintro e w13 ⟨A13, c13, rfl, hr, hg, hb⟩
        have R13 := Lib.hid hr
        have R12 := Lib.hid (R12.out.below hb)
        have H13 := Lib.hid (H12.out.box hb)
        clear hr hg hb H12 p1
        have p1 : w13.cell? ⟨cc, 1, none⟩ = some (.int .i64 a.f) := H13.out.a.cell 1
        have p2 := H13.out.dn
        go_wp2_with (fail)
        have HQ := Lib.hid H13.out
        clear H13
        go_region_held3 (fun W => W.cell? ⟨cc, 1, none⟩ = some (.int .i64 a.f) ∧ W.cell? ⟨rr, 130, none⟩ = some (.bool d4.down)) (first | exact ⟨p1, p2⟩)
          (first
            | (go_at_call 18; refine (same_any A12 A13 c12 c13 (d4.rd a.f) _ (by first | exact R12.out | exact R12.out.drew) (by first | exact R13.out | exact R13.out.drew) HL.out).mono ?_; rintro e w14 ⟨rfl, hb⟩; have HQ := Lib.hid ((by first | exact HQ.out | exact HQ.out.drew | exact HQ.out.drew.drew : Duo bb rr cc w3 d4 _ _).box hb); have p1 := HQ.out.at1; have p2 := HQ.out.dn; clear hb)
            | (go_at_call 19; refine (quiet_b (sure_any _ _ a.f d4 _ (by first | exact HQ.out.m | exact HQ.out.drew.m | exact HQ.out.drew.drew.m))).mono ?_; rintro e w14 ⟨rfl, hb⟩; have HQ := Lib.hid ((by first | exact HQ.out | exact HQ.out.drew | exact HQ.out.drew.drew : Duo bb rr cc w3 d4 _ _).box hb); have p1 := HQ.out.at1; have p2 := HQ.out.dn; clear hb)
            | (go_at_call 20; refine (quiet_b (rsure_any _ _ a.f d4 _ (by first | exact HQ.out.n | exact HQ.out.drew.n | exact HQ.out.drew.drew.n))).mono ?_; rintro e w14 ⟨rfl, hb⟩; have HQ := Lib.hid ((by first | exact HQ.out | exact HQ.out.drew | exact HQ.out.drew.drew : Duo bb rr cc w3 d4 _ _).box hb); have p1 := HQ.out.at1; have p2 := HQ.out.dn; clear hb)
            | (go_at_call 21; refine (quiet_b (left_any _ _ d4 O8.out _ (by first | exact HQ.out.m | exact HQ.out.drew.m | exact HQ.out.drew.drew.m))).mono ?_; rintro e w14 ⟨rfl, hb⟩; have HQ := Lib.hid ((by first | exact HQ.out | exact HQ.out.drew | exact HQ.out.drew.drew : Duo bb rr cc w3 d4 _ _).box hb); have p1 := HQ.out.at1; have p2 := HQ.out.dn; clear hb)
            | (go_at_call 22; refine (quiet_b (rleft_any _ _ d4 O8.out _ (by first | exact HQ.out.n | exact HQ.out.drew.n | exact HQ.out.drew.drew.n))).mono ?_; rintro e w14 ⟨rfl, hb⟩; have HQ := Lib.hid ((by first | exact HQ.out | exact HQ.out.drew | exact HQ.out.drew.drew : Duo bb rr cc w3 d4 _ _).box hb); have p1 := HQ.out.at1; have p2 := HQ.out.dn; clear hb)
            | (go_at_call 23; refine (quiet_b (down_any _ _ d4 _ (by first | exact HQ.out.m | exact HQ.out.drew.m | exact HQ.out.drew.drew.m))).mono ?_; rintro e w14 ⟨rfl, hb⟩; have HQ := Lib.hid ((by first | exact HQ.out | exact HQ.out.drew | exact HQ.out.drew.drew : Duo bb rr cc w3 d4 _ _).box hb); have p1 := HQ.out.at1; have p2 := HQ.out.dn; clear hb)
            | (go_at_call 25; refine (files_any _ _ d4 O8.out _ (by first | exact HQ.out.m | exact HQ.out.drew.m | exact HQ.out.drew.drew.m)).mono ?_; rintro e w14 ⟨v1, rfl, ho, hb⟩; have HQ := Lib.hid ((by first | exact HQ.out | exact HQ.out.drew | exact HQ.out.drew.drew : Duo bb rr cc w3 d4 _ _).box hb); have p1 := HQ.out.at1; have p2 := HQ.out.dn; obtain ⟨A15, c15, rfl⟩ := own_shape ho; have R15 := Lib.hid (own_rd ho); clear ho; clear hb)
            | (go_at_call 26; refine (rfiles_any _ _ d4 O8.out _ (by first | exact HQ.out.n | exact HQ.out.drew.n | exact HQ.out.drew.drew.n)).mono ?_; rintro e w14 ⟨v1, rfl, ho, hb⟩; have HQ := Lib.hid ((by first | exact HQ.out | exact HQ.out.drew | exact HQ.out.drew.drew : Duo bb rr cc w3 d4 _ _).box hb); have p1 := HQ.out.at1; have p2 := HQ.out.dn; obtain ⟨A16, c16, rfl⟩ := own_shape ho; have R16 := Lib.hid (own_rd ho); have R15 := Lib.hid ((by first | exact R15.out | exact R15.out.drew | exact R15.out.drew.drew : Rd _ A15 (ints (filesK d4.b 64))).below hb); clear ho; clear hb)
            | (go_at_call 24; refine (ints_any A15 A16 c15 c16 (filesK d4.b 64) _ (by first | exact R15.out | exact R15.out.drew) (by first | exact R16.out | exact R16.out.drew) HFL.out).mono ?_; rintro e w14 ⟨rfl, hb⟩; have HQ := Lib.hid ((by first | exact HQ.out | exact HQ.out.drew | exact HQ.out.drew.drew : Duo bb rr cc w3 d4 _ _).box hb); have p1 := HQ.out.at1; have p2 := HQ.out.dn; clear hb))
        all_goals go_wp2_with (fail)
        all_goals go_roundw
        all_goals first
          | exact ⟨k + 1, d4, by omega, by go_num, HQ.out.m, HQ.out.n, O8.out, HQ.out.b⟩
          | exact ⟨k + 1, d4, by omega, by go_num, HQ.out.drew.m, HQ.out.drew.n, O8.out, HQ.out.drew.b⟩
          | (simp [intOf]; omega)
    · go_wp2_with (fail)
      go_ret
      exact ⟨rfl, B3.out.trans (B6.out.mono (by rw [← HBB.out]; exact B3.out.size))⟩
end Go.Proofs.Ythblfkopofmdfaa
