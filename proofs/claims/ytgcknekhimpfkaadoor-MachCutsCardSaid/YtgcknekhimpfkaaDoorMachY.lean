/- The walk of MachCuts. -/
import Derived.Test.YtgcknekhimpfkaaDoorMachX
namespace Go.Proofs.YtgcknekhimpfkaaDoor
open Go Go.RowKit Go.Lib Go.Proofs.YtgcknekhimpfkaaDoor.Pl
set_option linter.unusedVariables false
set_option linter.unusedSimpArgs false
attribute [local go_sem ↓] exec_load_cpu exec_store_cpu exec_load_end exec_store_end
set_option maxRecDepth 100000 in
set_option maxHeartbeats 4000000 in
theorem mcuts_yes (A : Option Addr) (n c : Nat) (ent s : Int) (w : World) (hT : Tab w) (h0 : 0 ≤ ent) (hb : mgood n ent) (f : Nat → Int) (hf : ∀ i, 0 ≤ f i ∧ f i < 4294967296) (hr : RdI .u32 w A n f) (inp : ByteArray) (hs : inp.size ≤ 140737488351232) (cut : Int) (hc0 : 0 ≤ cut) :
    Calls Tryd.prog 5 #[.agg #[.slice A n c, .int .u32 ent, .int .i64 s], .string inp, .int .i64 cut] w fun e w' => e = .returned (.bool true) ∧ Below w.heap.size w w' := by
  have HT := Lib.hid hT
  have HMD := Lib.hid (fun (W : World) (hW : Below w.heap.size w W) => made_yes A n c ent s W h0 hb f hf (RdI.keep hr hW))
  obtain ⟨Z, hZ⟩ : ∃ Z, runM cut 3000 (mcpu0 ent) ⟨wordsM f n, fedQ [] inp, [], 0, 0, 0, 0, secN s, fun _ => nought, []⟩ (lookV cut 0) 0 = Z := ⟨_, rfl⟩
  have hcut := run_cut cut hc0 3000 (mcpu0 ent) ⟨wordsM f n, fedQ [] inp, [], 0, 0, 0, 0, secN s, fun _ => nought, []⟩ 0 (by simpa using hc0)
  have hun := run_uncut cut 3000 (mcpu0 ent) ⟨wordsM f n, fedQ [] inp, [], 0, 0, 0, 0, secN s, fun _ => nought, []⟩ (lookV cut 0) 0
  simp only [List.length_nil] at hcut
  simp only [Nat.sub_zero] at hun
  rw [hZ] at hcut hun
  have hsay := run_says cut 3000 (mcpu0 ent) ⟨wordsM f n, fedQ [] inp, [], 0, 0, 0, 0, secN s, fun _ => nought, []⟩ (lookV cut 0) 0
  simp only at hsay
  rw [hZ] at hsay
  obtain ⟨-, -, -, hdid, -⟩ := hsay
  obtain ⟨K, T_, E, d, cs, x', g⟩ := Z
  simp only at hcut hun hdid
  obtain ⟨Y, hY⟩ : ∃ Y, runM (-1) d (mcpu0 ent) ⟨wordsM f n, fedQ [] inp, [], 0, 0, 0, 0, secN s, fun _ => nought, []⟩ false 0 = Y := ⟨_, rfl⟩
  rw [hY] at hun
  obtain ⟨K2, T2, E2, d2, cs2, x2, g2⟩ := Y
  simp only at hun
  obtain ⟨V, hV⟩ : ∃ V, runM cut 5 cs x' (lookV cut x'.ws.length) 0 = V := ⟨_, rfl⟩
  have hagain : K = 7 → V = ⟨7, 0, 0, 0, cs, x', true⟩ := fun hk => by
    rw [← hV, lookV_on hc0, decide_eq_true (by have := hcut.1 hk; omega), runG]
  obtain ⟨K3, T3, E3, d3, cs3, x3, g3⟩ := V
  obtain ⟨dI, hdI⟩ : ∃ dI : Int, (d : Int) = dI := ⟨_, rfl⟩
  have hd0 : 0 ≤ dI := by omega
  have hd1 : dI ≤ 3000 := by omega
  have HZ := Lib.hid hZ
  have HY := Lib.hid hY
  have HV := Lib.hid hV
  have HDI := Lib.hid hdI
  have HCU := Lib.hid hcut
  have HUN := Lib.hid hun
  have HAG := Lib.hid hagain
  have hBox : Below w.heap.size w (w.alloc (.cells #[.slice A n c, .int .u32 ent, .int .i64 s] 45)) := (Below.refl _ _).alloc (Nat.le_refl _) _
  have HBX := Lib.hid hBox
  have KBX := Lib.hid (Blk.new w #[.slice A n c, .int .u32 ent, .int .i64 s] 45)
  have tc : decide (cut < 0) = false := decide_eq_false (by omega)
  clear hr hf hZ hY hV hcut hun hagain hdI hT hb hBox hdid
  go_enter Tryd.func5, Tryd.ntmps5
  go_upto_region 2 with (go_at_call 8; refine (mshown_any _ (HT.out.below ((Below.refl _ _).alloc (Nat.le_refl _) _) HT.out.lt)).mono ?_; rintro e w1 ⟨rfl, hb1⟩; have HB1 := Lib.hid hb1; clear hb1)
  have HW1 := Lib.hid (HBX.out.trans (HB1.out.mono HBX.out.size))
  have K1 := Lib.hid (KBX.out.step HB1.out)
  have e0 := K1.out.cell 0
  have e1 := K1.out.cell 1
  have e2 := K1.out.cell 2
  simp only [List.getElem?_toArray, List.getElem?_cons_zero, List.getElem?_cons_succ] at e0 e1 e2
  clear KBX HBX HB1
  go_upto_region 3 with (go_at_call 14; refine (HMD.out _ HW1.out).mono ?_; rintro e w2 ⟨b, m, v, r, rfl, M, hb2, hlo⟩; have O2 := Lib.hid (show Own1 w w2 b m v ⟨wordsM f n, [], [], 0, 0, 0, 0, secN s, fun _ => nought, []⟩ ⟨mcpu0 ent, -1, false, 0⟩ from ⟨M, HW1.out.trans (hb2.mono HW1.out.size), Nat.le_trans HW1.out.size hlo⟩); have K2' := Lib.hid (K1.out.step hb2); clear M hb2 hlo)
  clear e0 e1 e2 K1
  have e0 := K2'.out.cell 0
  have e1 := K2'.out.cell 1
  have e2 := K2'.out.cell 2
  simp only [List.getElem?_toArray, List.getElem?_cons_zero, List.getElem?_cons_succ] at e0 e1 e2
  go_upto_region 4 with (go_at_call 14; refine (HMD.out _ O2.out.below).mono ?_; rintro e w3 ⟨c', m', u, r', rfl, M, hb3, hlo⟩; have T3' := Lib.hid (show Two w w3 b m v ⟨wordsM f n, [], [], 0, 0, 0, 0, secN s, fun _ => nought, []⟩ ⟨mcpu0 ent, -1, false, 0⟩ c' m' u ⟨wordsM f n, [], [], 0, 0, 0, 0, secN s, fun _ => nought, []⟩ ⟨mcpu0 ent, -1, false, 0⟩ from Two.mk2 O2.out M hb3 hlo); clear M hb3 hlo)
  clear e0 e1 e2 K2' HMD O2 HW1
  go_upto_region 7 with (go_at_call 15; refine (T3'.out.feedA inp hs).mono ?_; rintro e w4 ⟨kf, rfl, v4, T, -⟩; have T4 := Lib.hid T.swap; clear T)
  go_upto_region 8 with (go_at_call 15; refine (T4.out.feedA inp hs).mono ?_; rintro e w5 ⟨kg, rfl, u5, T, -⟩; have T5 := Lib.hid T.swap; clear T)
  go_upto_region 9 with (go_at_call 18; refine (T5.out.cutA cut hc0).mono ?_; rintro e w6 ⟨rfl, T, -⟩; have T6 := Lib.hid T; clear T)
  clear T3' T4 T5
  go_upto_region 10 with (go_at_call 11; refine (T6.out.runA HT.out 3000 3000 rfl (show (0 : Int) ≤ 0 by decide) (show (0 : Int) ≤ 9000000000000000000 by decide) HZ.out HDI.out).mono ?_; rintro e w7 ⟨rfl, v7, T, -⟩; have hn := new_end w7 K T_ E dI #[.int .i64 0, .int .i64 0, .int .u32 0, .int .i64 0] rfl; have T7 := Lib.hid (T.step ((Below.refl _ _).alloc (Nat.le_refl _) (.cells (endA K T_ E dI) 35))).swap; have K7 := Lib.hid (Box.new T (endA K T_ E dI) 35).swap; clear T)
  clear hn T6
  generalize hg7 : w7.heap.size = g7 at K7 ⊢
  generalize w7.alloc (.cells (endA K T_ E dI) 35) = wa at T7 K7 ⊢
  clear hg7
  have e3 : wa.cell? ⟨g7, 3, none⟩ = some (.int .i64 dI) := K7.out.blk.cell 3
  go_upto_region 11 with (go_at_call 11; refine (T7.out.runA HT.out dI d (by have := HDI.out; omega) (show (0 : Int) ≤ 0 by decide) (show (0 : Int) ≤ 9000000000000000000 by decide) HY.out rfl).mono ?_; rintro e w8 ⟨rfl, u8, T, V⟩; have T8 := Lib.hid T.swap; have K8 := Lib.hid (K7.out.opA V).swap; clear T V)
  clear e3 T7 K7
  go_upto_region 12 with (first | (go_at_call 19; refine T8.out.diskA.mono ?_; rintro e w9 ⟨rfl, rfl⟩) | (go_at_call 20; refine T8.out.writesA.mono ?_; rintro e w9 ⟨qa, qc, rfl, T, hb9⟩; have T9 := Lib.hid T; have K9 := Lib.hid (K8.out.step hb9); clear T hb9))
  clear T8 K8
  go_upto_region 13 with (go_at_call 11; refine (T9.out.runA HT.out 5 5 rfl (show (0 : Int) ≤ 0 + dI by omega) (show (0 : Int) + dI ≤ 9000000000000000000 by omega) HV.out rfl).mono ?_; rintro e w10 ⟨rfl, v10, T, V⟩; have hn := new_end w10 K3 T3 E3 d3 #[.int .i64 0, .int .i64 0, .int .u32 0, .int .i64 0] rfl; have hal : Below w10.heap.size w10 (w10.alloc (.cells (endA K3 T3 E3 d3) 35)) := (Below.refl _ _).alloc (Nat.le_refl _) _; have T10 := Lib.hid (T.step hal); have L10 := Lib.hid (Box.new T (endA K3 T3 E3 d3) 35); have K10 := Lib.hid ((K9.out.opA V).step hal); clear T V hal)
  clear hn T9 K9
  generalize hg10 : w10.heap.size = g10 at L10 ⊢
  generalize w10.alloc (.cells (endA K3 T3 E3 d3) 35) = wb at T10 K10 L10 ⊢
  clear hg10
  have HC3 := Lib.hid T10.out.ma.ok
  have HC2 := Lib.hid T10.out.mb.ok
  go_upto_region 14 with (go_at_call 12; refine T10.out.cpuA.mono ?_; rintro e w11 ⟨rfl, T, hb11⟩; have hs5 := store_new (w := w11) (Z := #[.int .u32 0, .int .u32 0, .int .u32 0, .int .u32 0, .int .u32 0, .int .u32 0, .int .u32 0, .int .u32 0, .int .u32 0, .int .u32 0, .int .u32 0, .int .u32 0, .int .u32 0, .int .u32 0, .int .u32 0, .int .u32 0, .int .u32 0, .bool false, .bool false, .bool false, .bool false, .int .u32 0]) (cs := cs3) (t := 39) rfl HC3.out.size HC3.out.one; have hal : Below w11.heap.size w11 (w11.alloc (.cells cs3 39)) := (Below.refl _ _).alloc (Nat.le_refl _) _; have T11 := Lib.hid (T.step hal).swap; have C11 := Lib.hid (Box.new T cs3 39).swap; have K11 := Lib.hid ((K10.out.step hb11).step hal).swap; have L11 := Lib.hid ((L10.out.step hb11).step hal).swap; clear T hb11 hal)
  clear hs5 T10 K10 L10
  generalize hg11 : w11.heap.size = g11 at C11 ⊢
  generalize w11.alloc (.cells cs3 39) = wc at T11 C11 K11 L11 ⊢
  clear hg11
  go_upto_region 15 with (go_at_call 12; refine T11.out.cpuA.mono ?_; rintro e w12 ⟨rfl, T, hb12⟩; have hs5 := store_new (w := w12) (Z := #[.int .u32 0, .int .u32 0, .int .u32 0, .int .u32 0, .int .u32 0, .int .u32 0, .int .u32 0, .int .u32 0, .int .u32 0, .int .u32 0, .int .u32 0, .int .u32 0, .int .u32 0, .int .u32 0, .int .u32 0, .int .u32 0, .int .u32 0, .bool false, .bool false, .bool false, .bool false, .int .u32 0]) (cs := cs2) (t := 39) rfl HC2.out.size HC2.out.one; have hal : Below w12.heap.size w12 (w12.alloc (.cells cs2 39)) := (Below.refl _ _).alloc (Nat.le_refl _) _; have T12 := Lib.hid (T.step hal).swap; have D12 := Lib.hid (Box.new T cs2 39).swap; have C12 := Lib.hid ((C11.out.step hb12).step hal).swap; have K12 := Lib.hid ((K11.out.step hb12).step hal).swap; have L12 := Lib.hid ((L11.out.step hb12).step hal).swap; clear T hb12 hal)
  clear hs5 T11 K11 L11 C11
  generalize hg12 : w12.heap.size = g12 at D12 ⊢
  generalize w12.alloc (.cells cs2 39) = wd at T12 D12 C12 K12 L12 ⊢
  clear hg12
  have k0 : wd.cell? ⟨g7, 0, none⟩ = some (.int .i64 K) := K12.out.blk.cell 0
  have l0 : wd.cell? ⟨g10, 0, none⟩ = some (.int .i64 K3) := L12.out.blk.cell 0
  have l3 : wd.cell? ⟨g10, 3, none⟩ = some (.int .i64 d3) := L12.out.blk.cell 3
  by_cases hK : K = 7
  · subst hK
    have hl := HCU.out.1 rfl
    obtain ⟨-, q1, q2⟩ := HUN.out rfl
    have hv := HAG.out rfl
    simp only [MRes.mk.injEq] at hv
    obtain ⟨rfl, rfl, rfl, rfl, rfl, rfl, rfl⟩ := hv
    subst q1 q2
    obtain ⟨N, hN⟩ : ∃ N, x2.ws.length = N := ⟨_, rfl⟩
    rw [hN] at hl
    subst hl
    clear HAG HUN HCU HV HZ HY
    rw [hN]
    go_upto_region 17 with fail
    have HTT := Lib.hid (show ∃ Y1 Y2, Two w wd b m v10 x2 Y1 c' m' u8 x2 Y2 from ⟨_, _, T12.out⟩)
    obtain ⟨Y1, Y2, htt⟩ := HTT.out
    have HT2 := Lib.hid htt
    clear HTT htt T12
    have hld := fun (W : World) (h : Blk W g11 cs2 39) => load_cpu h HC3.out.size
    have heq := fun (W : World) => run_eql_cpu HC3.out W
    have JT : Hid (Two w wd.drew b m v10 x2 Y1 c' m' u8 x2 Y2) := Lib.hid (HT2.out.step ((Below.refl _ _).drew))
    have JK : Hid (Blk wd.drew g7 (endA 7 T_ E dI) 35) := Lib.hid (K12.out.blk.step ((Below.refl _ _).drew))
    have JA : Hid (Blk wd.drew g11 cs2 39) := Lib.hid (C12.out.blk.step ((Below.refl _ _).drew))
    have JD : Hid (Blk wd.drew g12 cs2 39) := Lib.hid (D12.out.blk.step ((Below.refl _ _).drew))
    refine wp_region_held_drew (S := (fun w' => Hid (Two w w' b m v10 x2 Y1 c' m' u8 x2 Y2) ∧ Hid (Blk w' g7 (endA 7 T_ E dI) 35) ∧ Hid (Blk w' g11 cs2 39) ∧ Hid (Blk w' g12 cs2 39))) (by kernel_rfl) ⟨JT, JK, JA, JD⟩ (fun hHeld => ?_)
    clear hHeld
    generalize wd.drew = we at JT JK JA JD ⊢
    have hHeld : ((fun w' => Hid (Two w w' b m v10 x2 Y1 c' m' u8 x2 Y2) ∧ Hid (Blk w' g7 (endA 7 T_ E dI) 35) ∧ Hid (Blk w' g11 cs2 39) ∧ Hid (Blk w' g12 cs2 39)) we) := ⟨JT, JK, JA, JD⟩
    refine wpAnyH_take (i := 0) (oi := _) (v := ?v0_1) rfl (by kernel_rfl) (by kernel_rfl) (by kernel_rfl) (fun _ _ _ h => h) (Or.inl ⟨by first | kernel_rfl | rfl, ?hy0_1⟩) (by assumption) ?rest0_1
    case hy0_1 => (intro wq hSw; (try dsimp only at hSw); obtain ⟨qT, qK, qA, qD⟩ := hSw; clear qT qK qA qD; simp only [List.getElem_toArray, List.getElem_cons_zero, List.getElem_cons_succ]; go_simp; try with_reducible rfl)
    simp only [List.getElem_toArray, List.getElem_cons_zero, List.getElem_cons_succ]
    refine wpAnyH_take (i := 1) (oi := _) (v := ?v1_2) rfl (by kernel_rfl) (by kernel_rfl) (by kernel_rfl) (fun _ _ _ h => h) (Or.inl ⟨by first | kernel_rfl | rfl, ?hy1_2⟩) (by assumption) ?rest1_2
    case hy1_2 => (intro wq hSw; (try dsimp only at hSw); obtain ⟨qT, qK, qA, qD⟩ := hSw; clear qT qK qA qD; simp only [List.getElem_toArray, List.getElem_cons_zero, List.getElem_cons_succ]; go_simp; try with_reducible rfl)
    simp only [List.getElem_toArray, List.getElem_cons_zero, List.getElem_cons_succ]
    refine wpAnyH_take (i := 2) (oi := _) (v := ?v2_3) rfl (by kernel_rfl) (by kernel_rfl) (by kernel_rfl) (fun _ _ _ h => h) (Or.inl ⟨by first | kernel_rfl | rfl, ?hy2_3⟩) (by assumption) ?rest2_3
    case hy2_3 => (intro wq hSw; (try dsimp only at hSw); obtain ⟨qT, qK, qA, qD⟩ := hSw; clear qT qK qA qD; simp only [List.getElem_toArray, List.getElem_cons_zero, List.getElem_cons_succ]; go_simp; try with_reducible rfl)
    simp only [List.getElem_toArray, List.getElem_cons_zero, List.getElem_cons_succ]
    refine wpAnyH_take (i := 3) (oi := _) (v := ?v3_4) rfl (by kernel_rfl) (by kernel_rfl) (by kernel_rfl) (fun _ _ _ h => h) (Or.inl ⟨by first | kernel_rfl | rfl, ?hy3_4⟩) (by assumption) ?rest3_4
    case hy3_4 => (intro wq hSw; (try dsimp only at hSw); obtain ⟨qT, qK, qA, qD⟩ := hSw; have z0 : wq.cell? ⟨g7, 0, none⟩ = some (.int .i64 7) := qK.out.cell 0; clear qT qK qA qD; simp only [List.getElem_toArray, List.getElem_cons_zero, List.getElem_cons_succ]; go_simp; try with_reducible rfl)
    simp only [List.getElem_toArray, List.getElem_cons_zero, List.getElem_cons_succ]
    refine wpAnyH_take (i := 4) (oi := _) (v := ?v4_5) rfl (by kernel_rfl) (by kernel_rfl) (by kernel_rfl) (fun _ _ _ h => h) (Or.inl ⟨by first | kernel_rfl | rfl, ?hy4_5⟩) (by assumption) ?rest4_5
    case hy4_5 => (intro wq hSw; (try dsimp only at hSw); obtain ⟨qT, qK, qA, qD⟩ := hSw; clear qT qK qA qD; simp only [List.getElem_toArray, List.getElem_cons_zero, List.getElem_cons_succ]; go_simp; try with_reducible rfl)
    simp only [List.getElem_toArray, List.getElem_cons_zero, List.getElem_cons_succ]
    refine wpAnyH_take (i := 5) (oi := _) (v := ?v5_6) rfl (by kernel_rfl) (by kernel_rfl) (by kernel_rfl) (fun _ _ _ h => h) (Or.inl ⟨by first | kernel_rfl | rfl, ?hy5_6⟩) (by assumption) ?rest5_6
    case hy5_6 => (intro wq hSw; (try dsimp only at hSw); obtain ⟨qT, qK, qA, qD⟩ := hSw; clear qT qK qA qD; simp only [List.getElem_toArray, List.getElem_cons_zero, List.getElem_cons_succ]; go_simp; try with_reducible rfl)
    simp only [List.getElem_toArray, List.getElem_cons_zero, List.getElem_cons_succ]
    refine wpAnyH_take (i := 6) (oi := _) (v := ?v6_7) rfl (by kernel_rfl) (by kernel_rfl) (by kernel_rfl) (fun _ _ _ h => h) (Or.inl ⟨by first | kernel_rfl | rfl, ?hy6_7⟩) (by assumption) ?rest6_7
    case hy6_7 => (intro wq hSw; (try dsimp only at hSw); obtain ⟨qT, qK, qA, qD⟩ := hSw; have z0 := load_cpu qA.out HC3.out.size; clear qT qK qA qD; simp only [List.getElem_toArray, List.getElem_cons_zero, List.getElem_cons_succ]; go_simp; try with_reducible rfl)
    simp only [List.getElem_toArray, List.getElem_cons_zero, List.getElem_cons_succ]
    refine wpAnyH_take (i := 7) (oi := _) (v := ?v7_8) rfl (by kernel_rfl) (by kernel_rfl) (by kernel_rfl) (fun _ _ _ h => h) (Or.inl ⟨by first | kernel_rfl | rfl, ?hy7_8⟩) (by assumption) ?rest7_8
    case hy7_8 => (intro wq hSw; (try dsimp only at hSw); obtain ⟨qT, qK, qA, qD⟩ := hSw; have z0 := load_cpu qD.out HC3.out.size; clear qT qK qA qD; simp only [List.getElem_toArray, List.getElem_cons_zero, List.getElem_cons_succ]; go_simp; try with_reducible rfl)
    simp only [List.getElem_toArray, List.getElem_cons_zero, List.getElem_cons_succ]
    refine wpAnyH_take (i := 8) (oi := _) (v := ?v8_9) rfl (by kernel_rfl) (by kernel_rfl) (by kernel_rfl) (fun _ _ _ h => h) (Or.inl ⟨by first | kernel_rfl | rfl, ?hy8_9⟩) (by assumption) ?rest8_9
    case hy8_9 => (intro wq hSw; (try dsimp only at hSw); obtain ⟨qT, qK, qA, qD⟩ := hSw; have z0 := run_eql_cpu HC3.out wq; clear qT qK qA qD; simp only [List.getElem_toArray, List.getElem_cons_zero, List.getElem_cons_succ]; go_simp; try with_reducible rfl)
    simp only [List.getElem_toArray, List.getElem_cons_zero, List.getElem_cons_succ]
    refine wpAnyH_take (i := 9) (oi := _) (v := ?v9_10) rfl (by kernel_rfl) (by kernel_rfl) (by kernel_rfl) (fun _ _ _ h => h) (Or.inl ⟨by first | kernel_rfl | rfl, ?hy9_10⟩) (by assumption) ?rest9_10
    case hy9_10 => (intro wq hSw; (try dsimp only at hSw); obtain ⟨qT, qK, qA, qD⟩ := hSw; clear qT qK qA qD; simp only [List.getElem_toArray, List.getElem_cons_zero, List.getElem_cons_succ]; go_simp; try with_reducible rfl)
    simp only [List.getElem_toArray, List.getElem_cons_zero, List.getElem_cons_succ]
    refine wpAnyH_take (i := 10) (oi := _) (v := ?v10_11) rfl (by kernel_rfl) (by kernel_rfl) (by kernel_rfl) (fun _ _ _ h => h) (Or.inl ⟨by first | kernel_rfl | rfl, ?hy10_11⟩) (by assumption) ?rest10_11
    case hy10_11 => (intro wq hSw; (try dsimp only at hSw); obtain ⟨qT, qK, qA, qD⟩ := hSw; clear qT qK qA qD; simp only [List.getElem_toArray, List.getElem_cons_zero, List.getElem_cons_succ]; go_simp; try with_reducible rfl)
    simp only [List.getElem_toArray, List.getElem_cons_zero, List.getElem_cons_succ]
    refine wpAnyH_take (i := 14) (oi := _) (v := ?v14_12) rfl (by kernel_rfl) (by kernel_rfl) (by kernel_rfl) (fun _ _ _ h => h) (Or.inl ⟨by first | kernel_rfl | rfl, ?hy14_12⟩) (by assumption) ?rest14_12
    case hy14_12 => (intro wq hSw; (try dsimp only at hSw); obtain ⟨qT, qK, qA, qD⟩ := hSw; clear qT qK qA qD; simp only [List.getElem_toArray, List.getElem_cons_zero, List.getElem_cons_succ]; go_simp; try with_reducible rfl)
    simp only [List.getElem_toArray, List.getElem_cons_zero, List.getElem_cons_succ]
    clear hHeld
    refine wpAnyH_ready (rs := [11]) (by kernel_rfl) (by simp) ?_
    refine (AllReadyH.cons (o := _) rfl (fun K hK => ?_) AllReadyH.nil)
    try simp only [List.getElem_toArray, List.getElem_cons_zero, List.getElem_cons_succ]
    go_simp
    go_at_call 19
    refine (JT.out.diskA).mono ?_
    rintro e wz ⟨rfl, rfl⟩
    refine hK.out _ _ ⟨JT, JK, JA, JD⟩ (fun _ => ?_)
    try simp only [List.getElem_toArray, List.getElem_cons_zero, List.getElem_cons_succ]
    refine wpAnyH_ready (rs := [12]) (by kernel_rfl) (by simp) ?_
    refine (AllReadyH.cons (o := _) rfl (fun K hK => ?_) AllReadyH.nil)
    try simp only [List.getElem_toArray, List.getElem_cons_zero, List.getElem_cons_succ]
    go_simp
    go_at_call 21
    refine (JT.out.imageA).mono ?_
    rintro e wf ⟨qv, rfl, hrow, hT, hb⟩
    have MT := Lib.hid hT
    have MK := Lib.hid (JK.out.step hb)
    have MA := Lib.hid (JA.out.step hb)
    have MD := Lib.hid (JD.out.step hb)
    have MR := Lib.hid hrow
    clear hT hb hrow JT JK JA JD
    refine hK.out _ _ ⟨MT, MK, MA, MD⟩ (fun _ => ?_)
    try simp only [List.getElem_toArray, List.getElem_cons_zero, List.getElem_cons_succ]
    refine wpAnyH_strong2 (S' := (fun w' => Hid (Two w w' b m v10 x2 Y1 c' m' u8 x2 Y2) ∧ Hid (Blk w' g7 (endA 7 T_ E dI) 35) ∧ Hid (Blk w' g11 cs2 39) ∧ Hid (Blk w' g12 cs2 39) ∧ Hid (BytesRow w' we.heap.size qv (imgL x2.sec x2.N)))) (fun _ h => ⟨h.1, h.2.1, h.2.2.1, h.2.2.2.1⟩) _ _ _ _ ?_
    have hHeld2 : ((fun w' => Hid (Two w w' b m v10 x2 Y1 c' m' u8 x2 Y2) ∧ Hid (Blk w' g7 (endA 7 T_ E dI) 35) ∧ Hid (Blk w' g11 cs2 39) ∧ Hid (Blk w' g12 cs2 39) ∧ Hid (BytesRow w' we.heap.size qv (imgL x2.sec x2.N))) wf) := ⟨MT, MK, MA, MD, MR⟩
    refine wpAnyH_take (i := 13) (oi := _) (v := ?v13_13) rfl (by kernel_rfl) (by kernel_rfl) (by kernel_rfl) (fun _ _ _ h => h) (Or.inl ⟨by first | kernel_rfl | rfl, ?hy13_13⟩) (by assumption) ?rest13_13
    case hy13_13 => (intro wq hSw; (try dsimp only at hSw); obtain ⟨qT, qK, qA, qD, qR⟩ := hSw; have z0 := qR.out.conv; clear qT qK qA qD qR; simp only [List.getElem_toArray, List.getElem_cons_zero, List.getElem_cons_succ]; go_simp; try with_reducible rfl)
    simp only [List.getElem_toArray, List.getElem_cons_zero, List.getElem_cons_succ]
    clear hHeld2
    refine wpAnyH_ready (rs := [15]) (by kernel_rfl) (by simp) ?_
    refine (AllReadyH.cons (o := _) rfl (fun K hK => ?_) AllReadyH.nil)
    try simp only [List.getElem_toArray, List.getElem_cons_zero, List.getElem_cons_succ]
    go_simp
    go_at_call 19
    refine (MT.out.swap.diskA).mono ?_
    rintro e wz ⟨rfl, rfl⟩
    refine hK.out _ _ ⟨MT, MK, MA, MD, MR⟩ (fun _ => ?_)
    try simp only [List.getElem_toArray, List.getElem_cons_zero, List.getElem_cons_succ]
    refine wpAnyH_ready (rs := [16]) (by kernel_rfl) (by simp) ?_
    refine (AllReadyH.cons (o := _) rfl (fun K hK => ?_) AllReadyH.nil)
    try simp only [List.getElem_toArray, List.getElem_cons_zero, List.getElem_cons_succ]
    go_simp
    go_at_call 21
    refine (MT.out.swap.imageA).mono ?_
    rintro e wg ⟨qx, rfl, hrow, hT, hb⟩
    have NT := Lib.hid hT.swap
    have NK := Lib.hid (MK.out.step hb)
    have NA := Lib.hid (MA.out.step hb)
    have ND := Lib.hid (MD.out.step hb)
    have NR := Lib.hid (MR.out.below (B := 0) hb)
    have NQ := Lib.hid hrow
    clear hT hb hrow MT MK MA MD MR
    refine hK.out _ _ ⟨NT, NK, NA, ND, NR⟩ (fun _ => ?_)
    try simp only [List.getElem_toArray, List.getElem_cons_zero, List.getElem_cons_succ]
    refine wpAnyH_strong2 (S' := (fun w' => Hid (Two w w' b m v10 x2 Y1 c' m' u8 x2 Y2) ∧ Hid (Blk w' g7 (endA 7 T_ E dI) 35) ∧ Hid (Blk w' g11 cs2 39) ∧ Hid (Blk w' g12 cs2 39) ∧ Hid (BytesRow w' we.heap.size qv (imgL x2.sec x2.N)) ∧ Hid (BytesRow w' wf.heap.size qx (imgL x2.sec x2.N)))) (fun _ h => ⟨h.1, h.2.1, h.2.2.1, h.2.2.2.1, h.2.2.2.2.1⟩) _ _ _ _ ?_
    have hHeld3 : ((fun w' => Hid (Two w w' b m v10 x2 Y1 c' m' u8 x2 Y2) ∧ Hid (Blk w' g7 (endA 7 T_ E dI) 35) ∧ Hid (Blk w' g11 cs2 39) ∧ Hid (Blk w' g12 cs2 39) ∧ Hid (BytesRow w' we.heap.size qv (imgL x2.sec x2.N)) ∧ Hid (BytesRow w' wf.heap.size qx (imgL x2.sec x2.N))) wg) := ⟨NT, NK, NA, ND, NR, NQ⟩
    refine wpAnyH_take (i := 17) (oi := _) (v := ?v17_14) rfl (by kernel_rfl) (by kernel_rfl) (by kernel_rfl) (fun _ _ _ h => h) (Or.inl ⟨by first | kernel_rfl | rfl, ?hy17_14⟩) (by assumption) ?rest17_14
    case hy17_14 => (intro wq hSw; (try dsimp only at hSw); obtain ⟨qT, qK, qA, qD, qR, qQ⟩ := hSw; have z0 := qQ.out.conv; clear qT qK qA qD qR qQ; simp only [List.getElem_toArray, List.getElem_cons_zero, List.getElem_cons_succ]; go_simp; try with_reducible rfl)
    simp only [List.getElem_toArray, List.getElem_cons_zero, List.getElem_cons_succ]
    refine wpAnyH_take (i := 18) (oi := _) (v := ?v18_15) rfl (by kernel_rfl) (by kernel_rfl) (by kernel_rfl) (fun _ _ _ h => h) (Or.inl ⟨by first | kernel_rfl | rfl, ?hy18_15⟩) (by assumption) ?rest18_15
    case hy18_15 => (intro wq hSw; (try dsimp only at hSw); obtain ⟨qT, qK, qA, qD, qR, qQ⟩ := hSw; clear qT qK qA qD qR qQ; simp only [List.getElem_toArray, List.getElem_cons_zero, List.getElem_cons_succ]; go_simp; try with_reducible rfl)
    simp only [List.getElem_toArray, List.getElem_cons_zero, List.getElem_cons_succ]
    refine wpAnyH_take (i := 19) (oi := _) (v := ?v19_16) rfl (by kernel_rfl) (by kernel_rfl) (by kernel_rfl) (fun _ _ _ h => h) (Or.inl ⟨by first | kernel_rfl | rfl, ?hy19_16⟩) (by assumption) ?rest19_16
    case hy19_16 => (intro wq hSw; (try dsimp only at hSw); obtain ⟨qT, qK, qA, qD, qR, qQ⟩ := hSw; clear qT qK qA qD qR qQ; simp only [List.getElem_toArray, List.getElem_cons_zero, List.getElem_cons_succ]; go_simp; try with_reducible rfl)
    simp only [List.getElem_toArray, List.getElem_cons_zero, List.getElem_cons_succ]
    refine wpAnyH_take (i := 20) (oi := _) (v := ?v20_17) rfl (by kernel_rfl) (by kernel_rfl) (by kernel_rfl) (fun _ _ _ h => h) (Or.inl ⟨by first | kernel_rfl | rfl, ?hy20_17⟩) (by assumption) ?rest20_17
    case hy20_17 => (intro wq hSw; (try dsimp only at hSw); obtain ⟨qT, qK, qA, qD, qR, qQ⟩ := hSw; clear qT qK qA qD qR qQ; simp only [List.getElem_toArray, List.getElem_cons_zero, List.getElem_cons_succ]; go_simp; try with_reducible rfl)
    simp only [List.getElem_toArray, List.getElem_cons_zero, List.getElem_cons_succ]
    refine wpAnyH_take (i := 21) (oi := _) (v := ?v21_18) rfl (by kernel_rfl) (by kernel_rfl) (by kernel_rfl) (fun _ _ _ h => h) (Or.inl ⟨by first | kernel_rfl | rfl, ?hy21_18⟩) (by assumption) ?rest21_18
    case hy21_18 => (intro wq hSw; (try dsimp only at hSw); obtain ⟨qT, qK, qA, qD, qR, qQ⟩ := hSw; clear qT qK qA qD qR qQ; simp only [List.getElem_toArray, List.getElem_cons_zero, List.getElem_cons_succ]; go_simp; try with_reducible rfl)
    simp only [List.getElem_toArray, List.getElem_cons_zero, List.getElem_cons_succ]
    refine wpAnyH_take (i := 22) (oi := _) (v := ?v22_19) rfl (by kernel_rfl) (by kernel_rfl) (by kernel_rfl) (fun _ _ _ h => h) (Or.inl ⟨by first | kernel_rfl | rfl, ?hy22_19⟩) (by assumption) ?rest22_19
    case hy22_19 => (intro wq hSw; (try dsimp only at hSw); obtain ⟨qT, qK, qA, qD, qR, qQ⟩ := hSw; clear qT qK qA qD qR qQ; simp only [List.getElem_toArray, List.getElem_cons_zero, List.getElem_cons_succ]; go_simp; try with_reducible rfl)
    simp only [List.getElem_toArray, List.getElem_cons_zero, List.getElem_cons_succ]
    refine wpAnyH_done (by kernel_rfl) ?_ _
    go_wp2_with fail
    go_ret
    exact ⟨rfl, NT.out.below⟩
  · have h1 : (K == 7) = false := by simpa using hK
    have h2 : (K != 7) = true := by simpa using hK
    have h3 := HCU.out.2 hK
    have h4 : decide (cut ≤ (x'.ws.length : Int)) = false := decide_eq_false (by omega)
    clear HAG HUN HCU HV HZ HY
    go_upto_region 17 with fail
    go_quiet (fail)
    go_wp2_with fail
    go_ret
    exact ⟨rfl, (T12.out.step (w' := wd.drewN nq) ⟨rfl, rfl, rfl, Nat.le_refl _, fun _ _ => rfl⟩).below⟩
end Go.Proofs.YtgcknekhimpfkaaDoor
