/- The walk of BusDoes. -/
import Derived.Test.YtmamocdkmmkkjaaRBusO
import Derived.Test.YtmamocdkmmkkjaaBusZ
import Derived.Test.YtmamocdkmmkkjaaGen
import Derived.Deep.QuietTactic
import Derived.Deep.RegionHeld3
namespace Go.Proofs.Ytmamocdkmmkkjaa
open Go Go.RowKit Go.Lib Go.Proofs.Ytmamocdkmmkkjaa.Pl
set_option linter.unusedVariables false
set_option linter.unusedSimpArgs false
theorem wpAnyH_strong3 {P : Program} {md : Region.Mode} {ops : Array Oper} {Q : Exit → Act → World → Prop} {S S' : World → Prop} (h : ∀ w, S' w → S w) :
    ∀ (fuel : Nat) (listed : Array Bool) (a : Act) (w : World), wpAnyH P md ops Q S' fuel listed a w → wpAnyH P md ops Q S fuel listed a w
  | 0, _, _, _, k => k
  | fuel + 1, _, _, _, k => ⟨k.1, fun i hi => wpOp_mono (fun a' w' hh => ⟨h w' hh.1, wpAnyH_strong3 h fuel _ a' w' hh.2⟩) (k.2 i hi)⟩
section
variable {w0 w w' : World} {b1 b2 : Nat} {v v' : BV} {u u' : RV} {x x' z z' : BS} {sec0 : Nat → ByteArray} {hist hist' : List (Nat × ByteArray)}
set_option maxRecDepth 100000 in
set_option maxHeartbeats 1000000 in
theorem held_out (T : Both w0 w b1 b2 v u x x sec0 hist) (kind ak ad y : Int) (s : ByteArray) (hk : pickV kind 6 = 3) (k0 : -9223372036854775808 ≤ kind) (k1 : kind ≤ 9223372036854775807) (a0 : 0 ≤ ad) (a1 : ad < 4294967296) (y0 : 0 ≤ y) (y1 : y < 4294967296) (hs : s.size ≤ 140737488351232) :
    Calls Try.prog 22 #[.pointer (some ⟨v.b, 0, none⟩), .pointer (some ⟨u.b, 0, none⟩), .agg (opA kind ak ad y s)] w fun e w' => e = .returned (.bool true) ∧ Below w.heap.size w w' := by
  have hp := fun W => pick_any kind 6 (by decide) (by decide) k0 k1 W
  rw [hk] at hp
  have HP := Lib.hid hp
  have HK := Lib.hid hk
  have T0 := Lib.hid (T.step ((Below.refl _ _).alloc (Nat.le_refl _) (.cells (opA kind ak ad y s) 60)))
  have B0 := Lib.hid (BBox.new T (opA kind ak ad y s) 60)
  have HBE := Lib.hid (show Below w.heap.size w (w.alloc (.cells (opA kind ak ad y s) 60)) from (Below.refl _ _).alloc (Nat.le_refl _) _)
  clear hp hk T
  simp only [opA]
  go_enter Try.func22, Try.ntmps22
  go_upto_region 13 with (go_at_call 12; refine (HP.out _).mono ?_; rintro e w1 ⟨rfl, rfl⟩)
  obtain ⟨g, hg⟩ : ∃ g, w.heap.size = g := ⟨_, rfl⟩
  rw [hg] at B0
  obtain ⟨W, hW⟩ : ∃ W, w.alloc (.cells (opA kind ak ad y s) 60) = W := ⟨_, rfl⟩
  rw [hW] at T0 B0 HBE
  simp only [opA] at hW
  rw [hW]
  clear hW hg
  go_wp2_with (first | (go_at_call 18; refine (bwaiting_any T0.out.p).mono ?_; rintro e w2 ⟨rfl, rfl⟩) | (go_at_call 37; refine (rwaiting_any T0.out.r).mono ?_; rintro e w2 ⟨rfl, rfl⟩) | (go_at_call 19; refine (bout_any T0.out.p).mono ?_; rintro e w2 ⟨rfl, rfl⟩) | (go_at_call 38; refine (rout_any T0.out.r).mono ?_; rintro e w2 ⟨rfl, rfl⟩))
  go_ret
  exact ⟨rfl, HBE.out⟩
end
/-- One op, as it lies. -/
def OpAt (w : World) (b o : Nat) (kind ak ad y : Int) (s : ByteArray) : Prop :=
  ((-9223372036854775808 ≤ kind ∧ kind ≤ 9223372036854775807) ∧ (0 ≤ ad ∧ ad < 4294967296) ∧ (0 ≤ y ∧ y < 4294967296) ∧ s.size ≤ 140737488351232) ∧
  w.cell? ⟨b, o, none⟩ = some (.int .i64 kind) ∧ w.cell? ⟨b, o + 1, none⟩ = some (.int .i64 ak) ∧ w.cell? ⟨b, o + 2, none⟩ = some (.int .u32 ad) ∧ w.cell? ⟨b, o + 3, none⟩ = some (.int .u32 y) ∧ w.cell? ⟨b, o + 4, none⟩ = some (.string s)
def OpsAt (w : World) (A : Option Addr) (n : Nat) : Prop := 0 < n → ∃ b off, A = some ⟨b, off, none⟩ ∧ b < w.heap.size ∧ ∀ k, k < n → ∃ kind ak ad y s, OpAt w b (off + k * 5) kind ak ad y s
theorem OpAt.below {w w' : World} {b o : Nat} {kind ak ad y : Int} {s : ByteArray} (h : OpAt w b o kind ak ad y s) (hb : Below w.heap.size w w') (hl : b < w.heap.size) : OpAt w' b o kind ak ad y s :=
  ⟨h.1, (hb.cell (p := ⟨b, o, none⟩) hl).trans h.2.1, (hb.cell (p := ⟨b, o + 1, none⟩) hl).trans h.2.2.1, (hb.cell (p := ⟨b, o + 2, none⟩) hl).trans h.2.2.2.1, (hb.cell (p := ⟨b, o + 3, none⟩) hl).trans h.2.2.2.2.1, (hb.cell (p := ⟨b, o + 4, none⟩) hl).trans h.2.2.2.2.2⟩
set_option maxRecDepth 100000 in
set_option maxHeartbeats 4000000 in
theorem bdoes_yes (A : Option Addr) (n c N : Nat) (f : Nat → Int) (w : World) (h8 : 8 ≤ N) (h9 : N ≤ 1024) (hn : n ≤ 262144) (hf : ∀ i, 0 ≤ f i ∧ f i < 4294967296) (hr : RdI .u32 w A n f)
    (A2 : Option Addr) (no c2 : Nat) (hno : no ≤ 1000000000000000) (ho : OpsAt w A2 no) :
    Calls Try.prog 6 #[.slice A n c, .int .i64 (N : Int), .slice A2 no c2] w fun e w' => e = .returned (.bool true) ∧ Below w.heap.size w w' := by
  obtain ⟨i0, hi, hz0, hz1, hz2⟩ := info_parts info_u8
  have HR := Lib.hid hr
  have HF := Lib.hid hf
  have HO := Lib.hid ho
  have hlt2 : 0 < no → ∃ b off, A2 = some ⟨b, off, none⟩ := fun h => by obtain ⟨b, off, h1, _⟩ := ho h; exact ⟨b, off, h1⟩
  have HLT := Lib.hid hlt2
  clear hr hf ho hlt2
  go_enter Try.func6, Try.ntmps6
  go_upto_region 2 with (go_at_call 7; refine (bshown_any _).mono ?_; rintro e w1 ⟨rfl, hb1⟩; have HB1 := Lib.hid hb1; clear hb1)
  go_upto_region 3 with (go_at_call 20; refine (bnothing_any _).mono ?_; rintro e w2 ⟨rfl, hb2⟩; have HB2 := Lib.hid (HB1.out.trans (hb2.mono HB1.out.size)); clear hb2)
  have HR2 := Lib.hid (HR.out.below HB2.out)
  go_upto_region 4 with (go_at_call 21; refine (pair_yes A n c N f _ h8 h9 hn HF.out HR2.out).mono ?_; rintro e w3 ⟨v, u, b1, b2, rfl, T⟩; have H0 := Lib.hid (show ∃ x, Side2 w2 w3 b1 b2 x (fun _ => nought) v.b u.b from ⟨_, ⟨v, u, _, T, rfl, rfl⟩⟩); clear T)
  clear HR HR2 HF HB1
  generalize v.b = pb at H0 ⊢
  generalize u.b = ub at H0 ⊢
  clear v u
  go_upto_block 0 with fail
  go_wp2_with fail
  go_loopw [12] (fun i wr => ∃ k : Nat, k ≤ no ∧ i = .int .i64 k ∧ Hid (∃ x, Side2 w2 wr b1 b2 x (fun _ => nought) pb ub)) (fun i _ => no - (intOf i).toNat)
  case atStart => exact ⟨0, Nat.zero_le _, rfl, H0⟩
  case round =>
    obtain ⟨k, hk, rfl, HX⟩ := hrel
    clear H0
    by_cases hlt : k < no
    · have hlt' : (k : Int) < (no : Int) := by omega
      obtain ⟨x, SX⟩ := HX.out
      obtain ⟨v, u, hist, T, hpb, hub⟩ := SX.it
      subst hpb hub
      obtain ⟨bA, off, hA, hbA, hcA⟩ := HO.out (by omega)
      obtain ⟨kind, ak, ad, y, s, hop⟩ := hcA k hlt
      have hop' := (hop.below HB2.out hbA).below T.below (Nat.lt_of_lt_of_le hbA HB2.out.size)
      obtain ⟨⟨q1, q2, q3, q4⟩, c0, c1, c2', c3, c4⟩ := hop'
      have HH := Lib.hid (held_any T kind ak ad y s q1.1 q1.2 q2.1 q2.2 q3.1 q3.2 q4)
      subst hA
      clear hop hcA T SX HX q1 q2 q3 q4
      unfold opA at HH
      go_wp2_with (go_at_call 22; refine HH.out.mono ?_; rintro e w4 hh; have HS := Lib.hid hh; obtain ⟨rfl, -⟩ := hh)
      go_roundw
      case rel => exact ⟨k + 1, by omega, by go_num, Lib.hid (by obtain ⟨-, x', h, -⟩ := HS.out; exact ⟨x', h⟩)⟩
      case measure => simp [intOf]; omega
    · obtain rfl : k = no := by omega
      obtain ⟨x, SX⟩ := HX.out
      obtain ⟨v, u, hist, T, hpb, hub⟩ := SX.it
      subst hpb hub
      have c1 := T.r.cells.2.1
      have HT := Lib.hid T
      have hN8 : x.N ≤ 1024 := T.r.nb.2
      have HSL := Lib.hid T.r.slen
      clear T SX HX hk hlt
      rename World => wl
      go_wp2_with fail
      go_loopw [13, 14, 15, 16] (fun img i _ _ wr' => ∃ j : Nat, j ≤ x.N ∧ i = .int .i64 j ∧ wr'.ownsRow wl.heap.size 5 1 img (j * 1024) (strCells (ofL (imgL x.sec j))) ∧ Below wl.heap.size wl wr') (fun _ i _ _ _ => x.N - (intOf i).toNat)
      case atStart => exact ⟨0, by omega, rfl, ⟨rfl, .inl ⟨rfl, rfl⟩⟩, Below.refl _ _⟩
      case round =>
        obtain ⟨j, hj, rfl, hown, hb⟩ := hrel
        have T2 := HT.out.step hb
        clear c1
        have c1 := T2.r.cells.2.1
        have hsn := rsectors_any T2.r.disk
        have HSN := Lib.hid hsn
        by_cases hlt : j < x.N
        · have hj2 : (j : Int) < (x.N : Int) := by omega
          have hat := rread_yes T2.r.disk j hlt T2.r.few hN8
          rw [← T2.r.sec] at hat
          have hsz := HSL.out j hlt
          have hcat : strCells (ofL (imgL x.sec j)) ++ strCells (x.sec j) = strCells (ofL (imgL x.sec (j + 1))) := by
            rw [imgL_succ, strCells_ofL, strCells_ofL, List.map_append, strCells_data]
          obtain ⟨sj, hsj⟩ : ∃ sj, sj = x.sec j := ⟨_, rfl⟩
          rw [← hsj] at hcat hat hsz
          have HC := Lib.hid hcat
          have HA := Lib.hid hat
          have HZ := Lib.hid hsz
          have HW := Lib.hid hown
          have HB := Lib.hid hb
          clear hcat hat hsz hown hb hsj hsn T2
          go_wp2_with (first | (go_at_call 23; refine HSN.out.mono ?_; rintro e w' ⟨rfl, rfl⟩) | (go_at_call 24; refine HA.out.mono ?_; rintro e w' ⟨rfl, rfl⟩) | (at_builtin; go_must (refine wpList_append_own_string _ rfl _ _ 44 9 rfl wl.heap.size 5 i0 Try.underlying44 Try.underlying9 hi hz0 hz1 hz2 _ _ _ rfl HW.out sj rfl ?c3 ?c4 ?c5 ?_)))
          case c3 => rw [HZ.out]; unfold maxLen; omega
          case c4 => rw [HZ.out]; omega
          case c5 => exact HB.out.size
          intro v' wq hown' hgrow _
          have hb1 := HB.out.grown hgrow HB.out.size (fun g hg => by
            rcases HW.out.2 with ⟨rfl, _⟩ | ⟨g', cap, cur, rfl, hbase, _⟩
            · cases hg
            · simp [Value.ownBlock] at hg; omega)
          rw [HC.out, HZ.out, show j * 1024 + 1024 = (j + 1) * 1024 from by omega] at hown'
          clear hgrow HW HB
          have HO2 := Lib.hid hown'
          have HB3 := Lib.hid hb1
          clear hown' hb1
          go_wp2_with fail
          go_roundw
          case rel => exact ⟨j + 1, by omega, by go_num, HO2.out, HB3.out⟩
          case measure => simp [intOf]; omega
        · obtain rfl : j = x.N := by omega
          rw [← imgL_length _ _ HSL.out _ (Nat.le_refl _)] at hown
          have HV := Lib.hid (show BytesRow wr wl.heap.size u13 (imgL x.sec x.N) from hown)
          have HT2 := Lib.hid T2
          have HBW := Lib.hid HB2.out
          clear hown hb hsn T2 HT HO HLT
          go_upto_region 20 with (go_at_call 23; refine HSN.out.mono ?_; rintro e w' ⟨rfl, rfl⟩)
          clear HSN c1
          have JT : Hid (Both w2 wr.drew b1 b2 v u x x (fun _ => nought) hist) := Lib.hid (HT2.out.step ((Below.refl _ _).drew))
          have JR : Hid (BytesRow wr.drew wl.heap.size u13 (imgL x.sec x.N)) := Lib.hid (HV.out.below (B := 0) ((Below.refl _ _).drew))
          refine wp_region_held_drew (S := (fun w' => Hid (Both w2 w' b1 b2 v u x x (fun _ => nought) hist) ∧ Hid (BytesRow w' wl.heap.size u13 (imgL x.sec x.N)))) (by kernel_rfl) ⟨JT, JR⟩ (fun hHeld => ?_)
          clear hHeld
          generalize wr.drew = wd at JT JR ⊢
          have hHeld : ((fun w' => Hid (Both w2 w' b1 b2 v u x x (fun _ => nought) hist) ∧ Hid (BytesRow w' wl.heap.size u13 (imgL x.sec x.N))) wd) := ⟨JT, JR⟩
          refine wpAnyH_take (i := 0) (oi := _) (v := ?v0_1) rfl (by kernel_rfl) (by kernel_rfl) (by kernel_rfl) (fun _ _ _ h => h) (Or.inl ⟨by first | kernel_rfl | rfl, ?hy0_1⟩) (by assumption) ?rest0_1
          case hy0_1 => (intro wq hSw; (try dsimp only at hSw); obtain ⟨qT, qR⟩ := hSw; clear qT qR; simp only [List.getElem_toArray, List.getElem_cons_zero, List.getElem_cons_succ]; go_simp; try with_reducible rfl)
          simp only [List.getElem_toArray, List.getElem_cons_zero, List.getElem_cons_succ]
          refine wpAnyH_take (i := 1) (oi := _) (v := ?v1_2) rfl (by kernel_rfl) (by kernel_rfl) (by kernel_rfl) (fun _ _ _ h => h) (Or.inl ⟨by first | kernel_rfl | rfl, ?hy1_2⟩) (by assumption) ?rest1_2
          case hy1_2 => (intro wq hSw; (try dsimp only at hSw); obtain ⟨qT, qR⟩ := hSw; clear qT qR; simp only [List.getElem_toArray, List.getElem_cons_zero, List.getElem_cons_succ]; go_simp; try with_reducible rfl)
          simp only [List.getElem_toArray, List.getElem_cons_zero, List.getElem_cons_succ]
          refine wpAnyH_take (i := 2) (oi := _) (v := ?v2_3) rfl (by kernel_rfl) (by kernel_rfl) (by kernel_rfl) (fun _ _ _ h => h) (Or.inl ⟨by first | kernel_rfl | rfl, ?hy2_3⟩) (by assumption) ?rest2_3
          case hy2_3 => (intro wq hSw; (try dsimp only at hSw); obtain ⟨qT, qR⟩ := hSw; clear qT qR; simp only [List.getElem_toArray, List.getElem_cons_zero, List.getElem_cons_succ]; go_simp; try with_reducible rfl)
          simp only [List.getElem_toArray, List.getElem_cons_zero, List.getElem_cons_succ]
          clear hHeld
          refine wpAnyH_ready (rs := [3]) (by kernel_rfl) (by simp) ?_
          refine (AllReadyH.cons (o := _) rfl (fun K hK => ?_) AllReadyH.nil)
          try simp only [List.getElem_toArray, List.getElem_cons_zero, List.getElem_cons_succ]
          go_simp
          go_at_call 22
          refine (held_out JT.out 3 0 0 0 _ (by decide) (by decide) (by decide) (by decide) (by decide) (by decide) (by decide) (by decide)).mono ?_
          rintro e we ⟨rfl, hb⟩
          have KT := Lib.hid (JT.out.step hb)
          have KR := Lib.hid (JR.out.below (B := 0) hb)
          clear hb JT JR
          refine hK.out _ _ ⟨KT, KR⟩ (fun _ => ?_)
          try simp only [List.getElem_toArray, List.getElem_cons_zero, List.getElem_cons_succ]
          have hHeld2 : ((fun w' => Hid (Both w2 w' b1 b2 v u x x (fun _ => nought) hist) ∧ Hid (BytesRow w' wl.heap.size u13 (imgL x.sec x.N))) we) := ⟨KT, KR⟩
          refine wpAnyH_take (i := 4) (oi := _) (v := ?v4_4) rfl (by kernel_rfl) (by kernel_rfl) (by kernel_rfl) (fun _ _ _ h => h) (Or.inl ⟨by first | kernel_rfl | rfl, ?hy4_4⟩) (by assumption) ?rest4_4
          case hy4_4 => (intro wq hSw; (try dsimp only at hSw); obtain ⟨qT, qR⟩ := hSw; clear qT qR; simp only [List.getElem_toArray, List.getElem_cons_zero, List.getElem_cons_succ]; go_simp; try with_reducible rfl)
          simp only [List.getElem_toArray, List.getElem_cons_zero, List.getElem_cons_succ]
          refine wpAnyH_take (i := 5) (oi := _) (v := ?v5_5) rfl (by kernel_rfl) (by kernel_rfl) (by kernel_rfl) (fun _ _ _ h => h) (Or.inl ⟨by first | kernel_rfl | rfl, ?hy5_5⟩) (by assumption) ?rest5_5
          case hy5_5 => (intro wq hSw; (try dsimp only at hSw); obtain ⟨qT, qR⟩ := hSw; clear qT qR; simp only [List.getElem_toArray, List.getElem_cons_zero, List.getElem_cons_succ]; go_simp; try with_reducible rfl)
          simp only [List.getElem_toArray, List.getElem_cons_zero, List.getElem_cons_succ]
          refine wpAnyH_take (i := 9) (oi := _) (v := ?v9_6) rfl (by kernel_rfl) (by kernel_rfl) (by kernel_rfl) (fun _ _ _ h => h) (Or.inl ⟨by first | kernel_rfl | rfl, ?hy9_6⟩) (by assumption) ?rest9_6
          case hy9_6 => (intro wq hSw; (try dsimp only at hSw); obtain ⟨qT, qR⟩ := hSw; clear qT qR; simp only [List.getElem_toArray, List.getElem_cons_zero, List.getElem_cons_succ]; go_simp; try with_reducible rfl)
          simp only [List.getElem_toArray, List.getElem_cons_zero, List.getElem_cons_succ]
          refine wpAnyH_take (i := 10) (oi := _) (v := ?v10_7) rfl (by kernel_rfl) (by kernel_rfl) (by kernel_rfl) (fun _ _ _ h => h) (Or.inl ⟨by first | kernel_rfl | rfl, ?hy10_7⟩) (by assumption) ?rest10_7
          case hy10_7 => (intro wq hSw; (try dsimp only at hSw); obtain ⟨qT, qR⟩ := hSw; have z0 := qR.out.conv; clear qT qR; simp only [List.getElem_toArray, List.getElem_cons_zero, List.getElem_cons_succ]; go_simp; try with_reducible rfl)
          simp only [List.getElem_toArray, List.getElem_cons_zero, List.getElem_cons_succ]
          clear hHeld2
          refine wpAnyH_ready (rs := [6]) (by kernel_rfl) (by simp) ?_
          refine (AllReadyH.cons (o := _) rfl (fun K hK => ?_) AllReadyH.nil)
          try simp only [List.getElem_toArray, List.getElem_cons_zero, List.getElem_cons_succ]
          go_simp
          go_at_call 25
          refine (bdisk_any KT.out.p).mono ?_
          rintro e wz ⟨rfl, rfl⟩
          refine hK.out _ _ ⟨KT, KR⟩ (fun _ => ?_)
          try simp only [List.getElem_toArray, List.getElem_cons_zero, List.getElem_cons_succ]
          refine wpAnyH_ready (rs := [7]) (by kernel_rfl) (by simp) ?_
          refine (AllReadyH.cons (o := _) rfl (fun K hK => ?_) AllReadyH.nil)
          try simp only [List.getElem_toArray, List.getElem_cons_zero, List.getElem_cons_succ]
          go_simp
          go_at_call 26
          refine (image_any KT.out.p.disk).mono ?_
          rintro e wf ⟨qv, rfl, hrow, hb⟩
          have MT := Lib.hid (KT.out.step hb)
          have MR := Lib.hid (KR.out.below (B := 0) hb)
          have MQ := Lib.hid hrow
          clear hb hrow KT KR
          refine hK.out _ _ ⟨MT, MR⟩ (fun _ => ?_)
          try simp only [List.getElem_toArray, List.getElem_cons_zero, List.getElem_cons_succ]
          refine wpAnyH_strong3 (S' := (fun w' => Hid (Both w2 w' b1 b2 v u x x (fun _ => nought) hist) ∧ Hid (BytesRow w' wl.heap.size u13 (imgL x.sec x.N)) ∧ Hid (BytesRow w' we.heap.size qv (imgL x.sec x.N)))) (fun _ h => ⟨h.1, h.2.1⟩) _ _ _ _ ?_
          have hHeld3 : ((fun w' => Hid (Both w2 w' b1 b2 v u x x (fun _ => nought) hist) ∧ Hid (BytesRow w' wl.heap.size u13 (imgL x.sec x.N)) ∧ Hid (BytesRow w' we.heap.size qv (imgL x.sec x.N))) wf) := ⟨MT, MR, MQ⟩
          refine wpAnyH_take (i := 8) (oi := _) (v := ?v8_8) rfl (by kernel_rfl) (by kernel_rfl) (by kernel_rfl) (fun _ _ _ h => h) (Or.inl ⟨by first | kernel_rfl | rfl, ?hy8_8⟩) (by assumption) ?rest8_8
          case hy8_8 => (intro wq hSw; (try dsimp only at hSw); obtain ⟨qT, qR, qQ⟩ := hSw; have z0 := qQ.out.conv; clear qT qR qQ; simp only [List.getElem_toArray, List.getElem_cons_zero, List.getElem_cons_succ]; go_simp; try with_reducible rfl)
          simp only [List.getElem_toArray, List.getElem_cons_zero, List.getElem_cons_succ]
          refine wpAnyH_take (i := 11) (oi := _) (v := ?v11_9) rfl (by kernel_rfl) (by kernel_rfl) (by kernel_rfl) (fun _ _ _ h => h) (Or.inl ⟨by first | kernel_rfl | rfl, ?hy11_9⟩) (by assumption) ?rest11_9
          case hy11_9 => (intro wq hSw; (try dsimp only at hSw); obtain ⟨qT, qR, qQ⟩ := hSw; clear qT qR qQ; simp only [List.getElem_toArray, List.getElem_cons_zero, List.getElem_cons_succ]; go_simp; try with_reducible rfl)
          simp only [List.getElem_toArray, List.getElem_cons_zero, List.getElem_cons_succ]
          refine wpAnyH_take (i := 12) (oi := _) (v := ?v12_10) rfl (by kernel_rfl) (by kernel_rfl) (by kernel_rfl) (fun _ _ _ h => h) (Or.inl ⟨by first | kernel_rfl | rfl, ?hy12_10⟩) (by assumption) ?rest12_10
          case hy12_10 => (intro wq hSw; (try dsimp only at hSw); obtain ⟨qT, qR, qQ⟩ := hSw; clear qT qR qQ; simp only [List.getElem_toArray, List.getElem_cons_zero, List.getElem_cons_succ]; go_simp; try with_reducible rfl)
          simp only [List.getElem_toArray, List.getElem_cons_zero, List.getElem_cons_succ]
          refine wpAnyH_take (i := 13) (oi := _) (v := ?v13_11) rfl (by kernel_rfl) (by kernel_rfl) (by kernel_rfl) (fun _ _ _ h => h) (Or.inl ⟨by first | kernel_rfl | rfl, ?hy13_11⟩) (by assumption) ?rest13_11
          case hy13_11 => (intro wq hSw; (try dsimp only at hSw); obtain ⟨qT, qR, qQ⟩ := hSw; clear qT qR qQ; simp only [List.getElem_toArray, List.getElem_cons_zero, List.getElem_cons_succ]; go_simp; try with_reducible rfl)
          simp only [List.getElem_toArray, List.getElem_cons_zero, List.getElem_cons_succ]
          refine wpAnyH_done (by kernel_rfl) ?_ _
          go_wp2_with fail
          go_ret
          exact ⟨rfl, HBW.out.trans (MT.out.below.mono HBW.out.size)⟩
set_option maxRecDepth 100000 in
theorem bdoes_size (A : Option Addr) (n c : Nat) (sec : Int) (w : World) (h : ¬ (8 ≤ sec ∧ sec ≤ 1024)) (A2 : Option Addr) (no c2 : Nat) :
    Calls Try.prog 6 #[.slice A n c, .int .i64 sec, .slice A2 no c2] w fun e w' => e = .returned (.bool true) ∧ Below w.heap.size w w' := by
  have HN := Lib.hid h
  clear h
  go_enter Try.func6, Try.ntmps6
  go_upto_region 2 with (go_at_call 7; refine (bshown_any _).mono ?_; rintro e w1 ⟨rfl, hb1⟩; have HB1 := Lib.hid hb1; clear hb1)
  go_upto_region 3 with (go_at_call 20; refine (bnothing_any _).mono ?_; rintro e w2 ⟨rfl, hb2⟩; have HB2 := Lib.hid (HB1.out.trans (hb2.mono HB1.out.size)); clear hb2)
  go_wp2_with (go_at_call 21; refine (pair_size A n c sec _ HN.out).mono ?_; rintro e w3 ⟨rfl, rfl⟩)
  go_ret
  exact ⟨rfl, HB2.out⟩
set_option maxRecDepth 100000 in
theorem bdoes_big (A : Option Addr) (n c N : Nat) (f : Nat → Int) (w : World) (h8 : 8 ≤ N) (h9 : N ≤ 1024) (hn : 262144 < n ∧ n ≤ 35184372089000) (hf : ∀ i, 0 ≤ f i ∧ f i < 4294967296) (hr : RdI .u32 w A n f) (A2 : Option Addr) (no c2 : Nat) :
    Calls Try.prog 6 #[.slice A n c, .int .i64 (N : Int), .slice A2 no c2] w fun e w' => e = .returned (.bool true) ∧ Below w.heap.size w w' := by
  have HR := Lib.hid hr
  have HF := Lib.hid hf
  clear hr hf
  go_enter Try.func6, Try.ntmps6
  go_upto_region 2 with (go_at_call 7; refine (bshown_any _).mono ?_; rintro e w1 ⟨rfl, hb1⟩; have HB1 := Lib.hid hb1; clear hb1)
  go_upto_region 3 with (go_at_call 20; refine (bnothing_any _).mono ?_; rintro e w2 ⟨rfl, hb2⟩; have HB2 := Lib.hid (HB1.out.trans (hb2.mono HB1.out.size)); clear hb2)
  have HR2 := Lib.hid (HR.out.below HB2.out)
  go_wp2_with (go_at_call 21; refine (pair_big A n c N f _ h8 h9 hn HF.out HR2.out).mono ?_; rintro e w3 ⟨rfl, hb3⟩; have HB3 := Lib.hid (HB2.out.trans (hb3.mono HB2.out.size)); clear hb3)
  go_ret
  exact ⟨rfl, HB3.out⟩
def busDoesAts : List Gen.AT := [.one (.slice 4 [.int .u32]), .one (.int .i64), .one (.slice 40 [.int .i64, .int .i64, .int .u32, .int .u32, .str])]
theorem ops_of {W : World} {A : Option Addr} {len cap : Nat} {V : Nat → Nat → Value} (hl : len ≤ cap) (h : Gen.Rows_ W A cap [.int .i64, .int .i64, .int .u32, .int .u32, .str] V) : OpsAt W A len := fun h0 => by
  obtain ⟨b, off, hA, hlt, hc⟩ := h.1 (by omega) (by simp)
  refine ⟨b, off, hA, hlt, fun k hk => ?_⟩
  obtain ⟨kind, e0, g0⟩ := (h.2 k 0 _ (by omega) rfl).int_inv
  obtain ⟨ak, e1, g1⟩ := (h.2 k 1 _ (by omega) rfl).int_inv
  obtain ⟨ad, e2, g2⟩ := (h.2 k 2 _ (by omega) rfl).int_inv
  obtain ⟨y, e3, g3⟩ := (h.2 k 3 _ (by omega) rfl).int_inv
  obtain ⟨s, e4, g4⟩ := (h.2 k 4 _ (by omega) rfl).str_inv
  unfold reachBytes at g4
  refine ⟨kind, ak, ad, y, s, ⟨by have := bounds_i64 g0; omega, by have := bounds_u32 g2; omega, by have := bounds_u32 g3; omega, by omega⟩, ?_, ?_, ?_, ?_, ?_⟩
  · rw [← e0]; exact hc k 0 (by omega) (by simp)
  · rw [← e1]; exact hc k 1 (by omega) (by simp)
  · rw [← e2]; exact hc k 2 (by omega) (by simp)
  · rw [← e3]; exact hc k 3 (by omega) (by simp)
  · rw [← e4]; exact hc k 4 (by omega) (by simp)
theorem busDoes_args (W : World) (vs : List Value) (h : Gen.ArgsGood W busDoesAts vs) :
    Calls Try.prog 6 vs.toArray W fun e W' => e = .returned (.bool true) ∧ Below W.heap.size W W' := by
  match vs, h with
  | [v0, v1, v2], h =>
    obtain ⟨h0, h1, h2, _⟩ := h
    obtain ⟨A, n, c, V, rfl, hl, _, hb, hr⟩ := h0.slice_inv
    obtain ⟨f, hf1, hf2, hf3⟩ := Gen.rows_int hr
    obtain ⟨sec, rfl, w1⟩ := h1.int_inv
    obtain ⟨A2, no, c2, V2, rfl, hl2, hm2, hb2, hr2⟩ := h2.slice_inv
    unfold reachBytes at hb hb2
    have hfb : ∀ i, 0 ≤ f i ∧ f i < 4294967296 := fun i => by
      rcases Nat.lt_or_ge i c with g | g
      · have := bounds_u32 (hf2 i g); omega
      · rw [hf3 i g]; omega
    have hrd : RdI .u32 W A n f := fun hn => by
      obtain ⟨b, off, hA, hlt, hc⟩ := hf1 (by omega)
      exact ⟨b, off, hA, hlt, fun i hi => hc i (by omega)⟩
    by_cases hs : 8 ≤ sec ∧ sec ≤ 1024
    · obtain ⟨N, rfl⟩ := Int.eq_ofNat_of_zero_le (show 0 ≤ sec by omega)
      by_cases hn : n ≤ 262144
      · exact bdoes_yes A n c N f W (by omega) (by omega) hn hfb hrd A2 no c2 (by omega) (ops_of hl2 hr2)
      · exact bdoes_big A n c N f W (by omega) (by omega) (by omega) hfb hrd A2 no c2
    · exact bdoes_size A n c sec W hs A2 no c2
end Go.Proofs.Ytmamocdkmmkkjaa
