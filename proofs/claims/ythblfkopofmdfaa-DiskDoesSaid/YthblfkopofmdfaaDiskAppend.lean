/-
  Clone, Read, Append.
-/
import Derived.Test.YthblfkopofmdfaaDiskActs
set_option linter.unusedVariables false
set_option linter.unusedSimpArgs false
namespace Go.Proofs.Ythblfkopofmdfaa
open Go.RowKit

theorem Try.infoByte : (Try.prog.info? 5).map (fun i => (i.zero, i.size, i.bytes)) = some (some (.int .u8 0), 1, 1) := by kernel_rfl
theorem Try.infoInt : (Try.prog.info? 3).map (fun i => (i.zero, i.size, i.bytes)) = some (some (.int .i64 0), 1, 8) := by kernel_rfl

theorem bys_one (l : List Int) : ∀ u ∈ bys l, u.oneCell' = true := by
  intro u hu
  obtain ⟨x, _, rfl⟩ := List.mem_map.mp hu
  rfl

theorem run_append_none {P : Program} (w : World) (t e ty : TypeId) (i : TypeInfo) (ht : P.underlying t = some (.slice e)) (hi : P.info? e = some i) (A : Option Addr) (n cap c : Nat) (h : n ≤ cap) :
    (Builtin.append_ #[t, t] ty #[.slice A n cap, .slice none 0 c]).run P w = .ok (.slice A n cap) w := by
  cases A <;> simp [Builtin.append_, run_underlying ht, sizeOf, typeInfo, hi, Builtin.lenOf, Builtin.firstCells, loadCells, loadCellsFrom, h, storeCells]

theorem wpList_append_none {P : Program} {w : World} {ops : Array Oper} {rest : List Oper} {o : Oper} {a : Act} {Q : Exit → Act → World → Prop} (hgd : o.guard = none) (s x : Operand) (t : TypeId)
    (ho : o.op = .call { callee := .builtin .append, args := #[s, x], argTypes := #[t, t] }) (e : TypeId) (i : TypeInfo) (ht : P.underlying t = some (.slice e)) (hi : P.info? e = some i) (A : Option Addr) (n cap c : Nat)
    (hs : a.eval s = .slice A n cap) (hx : a.eval x = .slice none 0 c) (hcap : n ≤ cap) (h : wpList P ops Q rest (a.put o.dst (.slice A n cap)) w) : wpList P ops Q (o :: rest) a w :=
  wpList_plain hgd fun _ hK => by
    unfold Oper.wp execOp
    simp only [ho, resolve, invoke, builtin, Sem.run_bind, Sem.run_pure, Result.andThen_ok, List.map_toArray, List.map_cons, List.map_nil, hs, hx, run_append_none w t e o.type i ht hi A n cap c hcap]
    exact hK _ _ h

set_option maxRecDepth 100000 in
set_option maxHeartbeats 1000000 in
/-- slices.Clone of bytes: a row of the call's own that shows the same. -/
theorem clone_any (A : Option Addr) (c : Nat) (l : List Int) (w : World) (h : Rd w A (bys l)) (h0 : A = none → l.length = 0) (hn : l.length ≤ 16777216) :
    Calls Try.prog 35 #[.slice A l.length c] w fun e w' => ∃ v, e = .returned v ∧ w'.ownsRow w.heap.size 5 1 v l.length (bys l) ∧ Below w.heap.size w w' := by
  obtain ⟨i0, hi0, hz0, hz1, hz2⟩ := info_parts Try.infoByte
  have hnil : ∀ (w : World) (a : Option Addr) (n c n' c' : Nat), (binOp .eql 32 (.slice a n c) (.slice none n' c')).run Try.prog w = .ok (.bool a.isNone) w := fun w a n c n' c' => Lib.run_eql_slice_nil w _ _ a n c n' c' Try.underlying32
  cases A with
  | none =>
    obtain rfl : l = [] := List.eq_nil_of_length_eq_zero (h0 rfl)
    clear h h0
    go_enter Try.func35, Try.ntmps35
    go_wp2_with (fail)
    go_ret
    exact ⟨_, rfl, ⟨rfl, .inl ⟨rfl, rfl⟩⟩, Below.refl _ _⟩
  | some ad =>
    have HR := Lib.hid h
    clear h h0
    have hown : Hid ((w.alloc (.cells #[] 5)).ownsRow w.heap.size 5 1 (.slice (some ⟨w.heap.size, 0, none⟩) 0 0) 0 []) := World.ownsRow_lit w #[] 0 (Nat.le_refl _) (by simp) rfl
    have hnews : Hid (∀ j u, (bys l)[j]? = some u → (w.alloc (.cells #[] 5)).cell? (ad.add j) = some u) := (HR.out.below ((Below.refl _ _).alloc (Nat.le_refl _) _)).news
    have hlen : (bys l).length = l.length * 1 := by rw [bys_length, Nat.mul_one]
    have HLen := Lib.hid hlen
    clear hlen
    go_enter Try.func35, Try.ntmps35
    go_wp2_with (at_builtin; refine wpList_append_own _ rfl (.tmp 5) (.tmp 6) 32 rfl w.heap.size 5 i0 _ 1 1 Try.underlying32 hi0 hz0 hz1 hz2 rfl (by decide) _ 0 [] rfl hown.out ad l.length c (bys l) rfl HLen.out hnews.out (bys_one l) (by simp only [maxLen]; omega) (by omega) (by simp) ?_; intro v' w1 hown' hgrow _)
    go_ret
    refine ⟨_, rfl, by simpa using hown', ((Below.refl _ _).alloc (Nat.le_refl _) _).grown hgrow (by simp) (fun k hk => ?_)⟩
    exact (own_ge hown.out k hk).1

/-- Read, of a file that is there: its bytes, in a row of the call's own. -/
def RdPost (l : List Int) (w : World) (e : Ending) (w' : World) : Prop :=
  ∃ v, e = .returned (.tuple #[v, .int .i64 0]) ∧ w'.ownsRow w.heap.size 5 1 v l.length (bys l) ∧ Below w.heap.size w w'

theorem read_in (B b i : Nat) (hi : i < 64) (d : Dk) (hd : d.ok) (w : World) (h : DkAt w B b d) : Calls Try.prog 16 #[.pointer (some ⟨b, 0, none⟩), .int .i64 i] w (RdPost (d.b i) w) := by
  obtain ⟨cs, hk, hc⟩ := h.row
  obtain ⟨v, hv1, hv2⟩ := hc.files i hi
  obtain ⟨A, c, rfl, hr0, hr1, hr2, hr3⟩ := hv2.row
  have q0 : w.cell? ⟨b, i * 2, none⟩ = some (.slice A (d.b i).length c) := (hk.cell _).trans hv1
  have hl := hd.len hi
  have HC := Lib.hid (clone_any A c (d.b i) w hr1 (fun e => (hr3 e).1) (by omega))
  clear hk hc hv1 hv2 hr1 hr2 hr3 h hd
  go_enter Try.func16, Try.ntmps16
  go_wp2_with (fail)
  refine (of_in b i hi _).mono ?_
  rintro e w' ⟨rfl, rfl⟩
  go_wp2_with (fail)
  refine HC.out.mono ?_
  rintro e w1 ⟨v, rfl, hown, hb⟩
  have HO := Lib.hid hown
  clear hown HC
  go_wp2_with (fail)
  go_ret2
  exact ⟨v, rfl, HO.out, hb⟩

theorem read_out (b : Nat) (n : Int) (hn : n < 0 ∨ 64 ≤ n) (w : World) : Calls Try.prog 16 #[.pointer (some ⟨b, 0, none⟩), .int .i64 n] w fun e w' => e = .returned (.tuple #[.slice none 0 0, .int .i64 1]) ∧ w' = w := by
  go_enter Try.func16, Try.ntmps16
  go_wp2_with (fail)
  refine (of_out b n hn _).mono ?_
  rintro e w' ⟨rfl, rfl⟩
  go_wp2_with (fail)
  go_ret2
  exact ⟨rfl, rfl⟩

def Dk.append (d : Dk) (n : Int) (xs : List Int) : Dk × Int :=
  if n < 0 ∨ 64 ≤ n then (d, 1) else if d.step.2 = 0 then (if (xs.length : Int) ≤ d.left then ({ d.step.1 with b := upd d.b n.toNat (d.b n.toNat ++ xs) }, 0) else (d.step.1, 7)) else (d.step.1, 8)

theorem own_fl {w : World} {B b n : Nat} {v : Value} {l : List Int} (h : w.ownsRow B 5 1 v l.length (bys l)) (hb : b < B) : Fl w B b v l := by
  rcases own_form h with ⟨hv, h0, _⟩ | ⟨g, cap, hv, hg, hgl, hnc, _⟩
  · exact ⟨none, 0, by rw [hv, h0], by omega, by rw [List.eq_nil_of_length_eq_zero h0]; intro j u hj; simp [bys] at hj, .inl rfl, fun _ => ⟨h0, rfl⟩⟩
  · subst hv
    exact ⟨_, cap, rfl, hnc, own_rd h, .inr ⟨g, 0, rfl, hg, by omega, hgl⟩, fun e => by cases e⟩

theorem Fl.lower {w : World} {B B' b : Nat} {v : Value} {l : List Int} (h : Fl w B b v l) (hB : B' ≤ B) : Fl w B' b v l := by
  obtain ⟨A, c, h1, h2, h3, h4, h5⟩ := h.row
  refine ⟨A, c, h1, h2, h3, ?_, h5⟩
  rcases h4 with h4 | ⟨g, o, e, hg, r⟩
  · exact .inl h4
  · exact .inr ⟨g, o, e, by omega, r⟩

theorem bys_append (l l' : List Int) : bys (l ++ l') = bys l ++ bys l' := by simp [bys]

theorem rd_kp {S : Nat → Prop} {w w' : World} {A : Option Addr} {xs : List Value} (h : Rd w A xs) (k : Kp S w w') (hA : ∀ b o, A = some ⟨b, o, none⟩ → xs ≠ [] → ¬ S b) : Rd w' A xs := by
  intro j u hj
  obtain ⟨b, o, rfl, hl, hc⟩ := h j u hj
  exact ⟨b, o, rfl, Nat.lt_of_lt_of_le hl k.size, (k.cell (p := ⟨b, o + j, none⟩) hl (hA b o rfl (fun e => by rw [e] at hj; simp at hj))).trans hc⟩

theorem own_shape {w : World} {B e size n : Nat} {v : Value} {xs : List Value} (h : w.ownsRow B e size v n xs) : ∃ A c, v = .slice A n c := by
  rcases own_form h with ⟨rfl, h0, _⟩ | ⟨g, cap, rfl, _⟩
  · exact ⟨none, 0, by rw [h0]⟩
  · exact ⟨_, cap, rfl⟩

theorem own_app {w : World} {B e : Nat} {v : Value} {l l' : List Int} (h : w.ownsRow B e 1 v (l.length + l'.length) (bys l ++ bys l')) : w.ownsRow B e 1 v (l ++ l').length (bys (l ++ l')) := by
  rw [List.length_append, bys_append]
  exact h

theorem append_z {w1 w3 : World} {b j : Nat} {t : TypeId} {cs : Array Value} {x : Value} (hk : Bk w1 b t cs) (hb : Below w1.heap.size w1 w3) (q : w1.cell? ⟨b, j, none⟩ = some x) : w3.cell? ⟨b, j, none⟩ = some x ∧ w3.frozen? ⟨b, j, none⟩ = false := by
  have z := hk.below hb hk.lt
  exact ⟨(z.cell _).trans (by rw [← hk.cell]; exact q), z.free j⟩

/-- What Append leaves where it comes to its end. -/
theorem append_fin {B b i : Nat} {d : Dk} {cs : Array Value} {v : Value} {l : List Int} {w w1 w2 : World} (hB : B ≤ b) (hi : i < 64) (k1 : Kp (· = b) w w1) (hk : Bk w1 b 61 cs) (hc : Cs w1 B b d cs) (hb2 : Below w1.heap.size w1 w2)
    (ho : w2.ownsRow w1.heap.size 5 1 v l.length (bys l)) : StPost B b { d with b := upd d.b i l } (.int .i64 0) w (.returned (.int .i64 0)) (w2.setCell ⟨b, i * 2, none⟩ v) := by
  have h1 := hk.lt
  refine .of hB ((k1.tr (kp_below hb2)).set1 _ _) ((hk.below hb2 h1).put _ _) ?_
  refine Cs.putB ((hc.keep (kp_below hb2)).keep ((Kp.refl (· = b) w2).set1 _ _)) hi ?_
  exact ((own_fl (n := 0) ho h1).lower (by omega)).keep ((Kp.refl (· = b) w2).set1 _ _)

set_option maxRecDepth 100000 in
set_option maxHeartbeats 2000000 in
theorem append_any (B b : Nat) (n : Int) (A : Option Addr) (c : Nat) (xs : List Int) (d : Dk) (hd : d.ok) (w : World) (h : DkAt w B b d) (hr : Rd w A (bys xs)) (hA : A = none → xs.length = 0) (hAb : ∀ g o, A = some ⟨g, o, none⟩ → bys xs ≠ [] → g ≠ b) (hx : xs.length ≤ 1048576) :
    Calls Try.prog 30 #[.pointer (some ⟨b, 0, none⟩), .int .i64 n, .slice A xs.length c] w (StPost B b (d.append n xs).1 (.int .i64 (d.append n xs).2) w) := by
  have HD := Lib.hid h
  have HO := Lib.hid hd
  have hge := h.ge
  clear h hd
  unfold Dk.append
  by_cases hn : n < 0 ∨ 64 ≤ n
  · rw [if_pos hn]
    have HN := Lib.hid hn
    clear hn
    go_enter Try.func30, Try.ntmps30
    go_wp2_with (fail)
    refine (of_out b n HN.out _).mono ?_
    rintro e w' ⟨rfl, rfl⟩
    go_wp2_with (fail)
    go_ret
    exact ⟨rfl, Kp.refl _ _, HD.out⟩
  · rw [if_neg hn]
    obtain ⟨i, rfl⟩ : ∃ i : Nat, n = (i : Int) := ⟨n.toNat, by omega⟩
    have hi : i < 64 := by omega
    rw [Int.toNat_natCast]
    clear hn
    have hs := step_any B b d HO.out w HD.out
    have hb := d.step_b
    have hc := d.step_code
    have ho := d.step_ok HO.out
    have hleft : d.step.1.left = d.left := by unfold Dk.left; rw [hb.1, hb.2.2]
    rw [← hleft]
    clear hleft
    generalize d.step.1 = d' at *
    generalize d.step.2 = e' at *
    obtain ⟨hb1, hb2, hb3⟩ := hb
    have HS := Lib.hid hs
    have HO' := Lib.hid ho
    rw [← hb1]
    clear hs hb1 hb2 hb3 ho
    have HR := Lib.hid hr
    have HA := Lib.hid hA
    have HAb := Lib.hid hAb
    clear hr hA hAb
    rcases hc with rfl | rfl
    · rw [if_pos rfl]
      by_cases ht : (xs.length : Int) ≤ d'.left
      · rw [if_pos ht]
        have hlen := HO'.out.len hi
        obtain ⟨i0, hi0, hz0, hz1, hz2⟩ := info_parts Try.infoByte
        rcases A with _ | ad
        · obtain rfl : xs = [] := List.eq_nil_of_length_eq_zero (HA.out rfl)
          simp only [List.length_nil] at ht
          go_enter Try.func30, Try.ntmps30
          go_wp2_with (fail)
          refine (of_in b i hi _).mono ?_
          rintro e w' ⟨rfl, rfl⟩
          go_wp2_with (fail)
          refine HS.out.mono ?_
          rintro e w1 ⟨rfl, k1, h1⟩
          obtain ⟨cs, hk, hc⟩ := h1.row
          obtain ⟨v, hv1, hv2⟩ := hc.files i hi
          obtain ⟨A1, c1, rfl, hr0, hr1, hr2, hr3⟩ := hv2.row
          have q0 : w1.cell? ⟨b, i * 2, none⟩ = some (.slice A1 (d'.b i).length c1) := (hk.cell _).trans hv1
          have HCl := Lib.hid (clone_any A1 c1 (d'.b i) w1 hr1 (fun e => (hr3 e).1) (by omega))
          have HL := Lib.hid (left_any B b d' HO'.out w1 h1)
          have HK := Lib.hid hk
          have HC := Lib.hid hc
          have K1 := Lib.hid k1
          clear hk hc k1 hv1 hv2 h1 HS hr1 hr2 hr3
          go_wp2_with (fail)
          refine HL.out.mono ?_
          rintro e w1 ⟨rfl, rfl⟩
          clear HL
          go_wp2_with (fail)
          refine HCl.out.mono ?_
          rintro e w2 ⟨v, rfl, hown, hb⟩
          obtain ⟨A2, c2, rfl⟩ : ∃ A2 c2, v = .slice A2 (d'.b i).length c2 := by
            rcases own_form hown with ⟨rfl, h0, _⟩ | ⟨g, cap, rfl, _⟩
            · exact ⟨none, 0, by rw [h0]⟩
            · exact ⟨_, cap, rfl⟩
          have hcap : (d'.b i).length ≤ c2 := by
            rcases own_form hown with ⟨_, h0, _⟩ | ⟨g, cap, hv, _, _, h3, _⟩
            · omega
            · injection hv with _ _ hv; omega
          have HO2 := Lib.hid hown
          have z := (HK.out.below hb HK.out.lt)
          have z0 : w2.cell? ⟨b, i * 2, none⟩ = some (.slice A1 (d'.b i).length c1) := (z.cell _).trans (by rw [← HK.out.cell]; exact q0)
          have z1 := z.free (i * 2)
          have HB2 := Lib.hid hb
          clear hown z HCl hb
          go_wp2_with (at_builtin; refine wpList_append_none rfl (.tmp 29) (.tmp 30) 32 rfl 5 i0 Try.underlying32 hi0 A2 _ c2 c rfl rfl hcap ?_)
          go_ret
          have hh := append_fin hge hi K1.out HK.out HC.out HB2.out HO2.out
          rwa [List.append_nil]
        · go_enter Try.func30, Try.ntmps30
          have ht3 : decide (d'.left < (xs.length : Int)) = false := by simp; omega
          go_wp2_with (fail)
          refine (of_in b i hi _).mono ?_
          rintro e w' ⟨rfl, rfl⟩
          go_wp2_with (fail)
          refine HS.out.mono ?_
          rintro e w1 ⟨rfl, k1, h1⟩
          obtain ⟨cs, hk, hc⟩ := h1.row
          obtain ⟨v, hv1, hv2⟩ := hc.files i hi
          obtain ⟨A1, c1, rfl, hr0, hr1, hr2, hr3⟩ := hv2.row
          have q0 : w1.cell? ⟨b, i * 2, none⟩ = some (.slice A1 (d'.b i).length c1) := (hk.cell _).trans hv1
          have HCl := Lib.hid (clone_any A1 c1 (d'.b i) w1 hr1 (fun e => (hr3 e).1) (by omega))
          have HL := Lib.hid (left_any B b d' HO'.out w1 h1)
          have HK := Lib.hid hk
          have HC := Lib.hid hc
          have K1 := Lib.hid k1
          clear hk hc k1 hv1 hv2 h1 HS hr1 hr2 hr3
          go_wp2_with (fail)
          refine HL.out.mono ?_
          rintro e w1 ⟨rfl, rfl⟩
          clear HL
          go_wp2_with (fail)
          refine HCl.out.mono ?_
          rintro e w2 ⟨v, rfl, hown, hb⟩
          have HO2 := Lib.hid hown
          have HB2 := Lib.hid hb
          have hnews : Hid (∀ j u, (bys xs)[j]? = some u → w2.cell? (ad.add j) = some u) := ((rd_kp HR.out K1.out HAb.out).below hb).news
          have hlx : (bys xs).length = xs.length * 1 := by rw [bys_length, Nat.mul_one]
          have HLx := Lib.hid hlx
          have hsz := HK.out.lt
          clear hown HCl hb hlx
          go_wp2_with (at_builtin; go_loud (refine wpList_append_own _ rfl (.tmp 29) (.tmp 30) 32 rfl w1.heap.size 5 i0 _ 1 1 Try.underlying32 hi0 hz0 hz1 hz2 rfl (by decide) v (d'.b i).length (bys (d'.b i)) rfl HO2.out ad xs.length c (bys xs) rfl HLx.out hnews.out (bys_one xs) (by simp only [maxLen]; omega) (by omega) HB2.out.size ?_); intro v' w3 hown' hgrow _; obtain ⟨A3, c3, rfl⟩ := own_shape hown'; have HB3 := Lib.hid (HB2.out.grown hgrow HB2.out.size (fun k hk => (own_ge HO2.out k hk).1)); obtain ⟨z0, z1⟩ := append_z HK.out HB3.out q0; have HO3 := Lib.hid (own_app hown'); clear hown' hgrow)
          go_ret
          exact append_fin hge hi K1.out HK.out HC.out HB3.out HO3.out
      · rw [if_neg ht]
        have ht2 : decide (d'.left < (xs.length : Int)) = true := by simp; omega
        go_enter Try.func30, Try.ntmps30
        go_wp2_with (fail)
        refine (of_in b i hi _).mono ?_
        rintro e w' ⟨rfl, rfl⟩
        go_wp2_with (fail)
        refine HS.out.mono ?_
        rintro e w1 ⟨rfl, k1, h1⟩
        have K1 := Lib.hid k1
        have H1 := Lib.hid h1
        clear k1 h1 HS
        go_wp2_with (fail)
        refine (left_any B b d' HO'.out _ H1.out).mono ?_
        rintro e w' ⟨rfl, rfl⟩
        go_wp2_with (fail)
        go_ret
        exact ⟨rfl, K1.out, H1.out⟩
    · rw [if_neg (by decide)]
      go_enter Try.func30, Try.ntmps30
      go_wp2_with (fail)
      refine (of_in b i hi _).mono ?_
      rintro e w' ⟨rfl, rfl⟩
      go_wp2_with (fail)
      refine HS.out.mono ?_
      rintro e w1 ⟨rfl, k1, h1⟩
      have K1 := Lib.hid k1
      have H1 := Lib.hid h1
      clear k1 h1 HS
      go_wp2_with (fail)
      go_ret
      exact ⟨rfl, K1.out, H1.out⟩
end Go.Proofs.Ythblfkopofmdfaa
