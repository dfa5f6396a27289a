/- The walk of MachPieces. -/
import Derived.Test.YtgcknekhimpfkaaDoorMachX
import Derived.Deep.Cut
import Derived.Deep.CutBlock
import Derived.WalkSpells
namespace Go.Proofs.YtgcknekhimpfkaaDoor
open Go Go.RowKit Go.Lib Go.Proofs.YtgcknekhimpfkaaDoor.Pl
set_option linter.unusedVariables false
set_option linter.unusedSimpArgs false
attribute [local go_sem ↓] exec_load_cpu exec_store_cpu exec_load_end exec_store_end
/-- At the head of the pieces. -/
def PS (w0 wr : World) (b m c n : Nat) (u : BV) (cs0 : Array Value) (X : BS) (Y0 : MC) (g j : Nat) : Prop :=
  (runM (-1) j cs0 X false 0).k = 1 ∧ ∃ v gn K T E S, Two w0 wr b m v (runM (-1) j cs0 X false 0).x ⟨(runM (-1) j cs0 X false 0).cs, -1, gn, (j : Int)⟩ c n u X Y0 ∧ Box wr m v n u g (endA K T E S) 35
/-- Behind the pieces. -/
def PE (w0 wr : World) (b m c n : Nat) (u : BV) (cs0 : Array Value) (X : BS) (Y0 : MC) (g D : Nat) : Prop :=
  ∃ j, (runM (-1) j cs0 X false 0).did = D ∧ D ≤ 3000 ∧ ∃ v gn K T E S, Two w0 wr b m v (runM (-1) j cs0 X false 0).x ⟨(runM (-1) j cs0 X false 0).cs, -1, gn, (D : Int)⟩ c n u X Y0 ∧ Box wr m v n u g (endA K T E S) 35
theorem PS.pe {w0 wr : World} {b m c n : Nat} {u : BV} {cs0 : Array Value} {X : BS} {Y0 : MC} {g j : Nat} (h : PS w0 wr b m c n u cs0 X Y0 g j) (hj : j ≤ 3000) : PE w0 wr b m c n u cs0 X Y0 g j :=
  ⟨j, run_st j cs0 X h.1, hj, h.2⟩
/-- The next piece's steps. -/
def pieceQ (p : Int) (j : Nat) : Nat := (min (max p 0) (3000 - (j : Int))).toNat
theorem piece_ways (p : Int) (j : Nat) (hj : j < 3000) : (p < 0 ∧ (pieceQ p j : Int) = 0) ∨ (0 ≤ p ∧ p ≤ 3000 - (j : Int) ∧ (pieceQ p j : Int) = p) ∨ (0 ≤ p ∧ 3000 - (j : Int) < p ∧ (pieceQ p j : Int) = 3000 - j) := by
  unfold pieceQ
  omega
set_option maxRecDepth 100000 in
set_option maxHeartbeats 4000000 in
theorem mpieces_yes (A : Option Addr) (n c : Nat) (ent s : Int) (w : World) (hT : Tab w) (h0 : 0 ≤ ent) (hb : mgood n ent) (f : Nat → Int) (hf : ∀ i, 0 ≤ f i ∧ f i < 4294967296) (hr : RdI .u32 w A n f) (inp : ByteArray) (hs : inp.size ≤ 140737488351232) (PA : Option Addr) (np pc : Nat) (pf : Nat → Int) (hnp : np ≤ 140737488351232) (hpf : ∀ i, -9223372036854775808 ≤ pf i ∧ pf i ≤ 9223372036854775807) (hpr : RdI .i64 w PA np pf) :
    Calls Tryd.prog 6 #[.agg #[.slice A n c, .int .u32 ent, .int .i64 s], .string inp, .slice PA np pc] w fun e w' => e = .returned (.bool true) ∧ Below w.heap.size w w' := by
  have HT := Lib.hid hT
  have HMD := Lib.hid (fun (W : World) (hW : Below w.heap.size w W) => made_yes A n c ent s W h0 hb f hf (RdI.keep hr hW))
  have HPF := Lib.hid hpf
  have HPR := Lib.hid hpr
  have hBox : Below w.heap.size w (w.alloc (.cells #[.slice A n c, .int .u32 ent, .int .i64 s] 45)) := (Below.refl _ _).alloc (Nat.le_refl _) _
  have HBX := Lib.hid hBox
  have KBX := Lib.hid (Blk.new w #[.slice A n c, .int .u32 ent, .int .i64 s] 45)
  clear hr hf hT hb hBox hpf hpr
  go_enter Tryd.func6, Tryd.ntmps6
  go_upto_region 2 with (go_at_call 8; refine (mshown_any _ (HT.out.below ((Below.refl _ _).alloc (Nat.le_refl _) _) HT.out.lt)).mono ?_; rintro e w1 ⟨rfl, hb1⟩; have HB1 := Lib.hid hb1; clear hb1)
  have HW1 := Lib.hid (HBX.out.trans (HB1.out.mono HBX.out.size))
  have K1 := Lib.hid (KBX.out.step HB1.out)
  have e0 := K1.out.cell 0
  have e1 := K1.out.cell 1
  have e2 := K1.out.cell 2
  simp only [List.getElem?_toArray, List.getElem?_cons_zero, List.getElem?_cons_succ] at e0 e1 e2
  clear KBX HBX HB1
  go_upto_region 3 with (go_at_call 14; refine (HMD.out _ HW1.out).mono ?_; rintro e w2 ⟨b, m, v, r, rfl, M, hb2, hlo⟩; have O2 := Lib.hid (show Own1 w w2 b m v ⟨wordsM f n, [], [], 0, 0, 0, 0, secN s, fun _ => nought, []⟩ ⟨mcpu0 ent, -1, false, 0⟩ from ⟨M, HW1.out.trans (hb2.mono HW1.out.size), Nat.le_trans HW1.out.size hlo⟩); have K2 := Lib.hid (K1.out.step hb2); clear M hb2 hlo)
  clear e0 e1 e2 K1
  have e0 := K2.out.cell 0
  have e1 := K2.out.cell 1
  have e2 := K2.out.cell 2
  simp only [List.getElem?_toArray, List.getElem?_cons_zero, List.getElem?_cons_succ] at e0 e1 e2
  go_upto_region 4 with (go_at_call 14; refine (HMD.out _ O2.out.below).mono ?_; rintro e w3 ⟨c', m', u, r', rfl, M, hb3, hlo⟩; have T3 := Lib.hid (show Two w w3 b m v ⟨wordsM f n, [], [], 0, 0, 0, 0, secN s, fun _ => nought, []⟩ ⟨mcpu0 ent, -1, false, 0⟩ c' m' u ⟨wordsM f n, [], [], 0, 0, 0, 0, secN s, fun _ => nought, []⟩ ⟨mcpu0 ent, -1, false, 0⟩ from Two.mk2 O2.out M hb3 hlo); clear M hb3 hlo)
  clear e0 e1 e2 K2 HMD O2 HW1
  go_upto_region 7 with (go_at_call 15; refine (T3.out.feedA inp hs).mono ?_; rintro e w4 ⟨kf, rfl, v4, T, -⟩; have T4 := Lib.hid T.swap; clear T)
  go_upto_region 9 with (go_at_call 15; refine (T4.out.feedA inp hs).mono ?_; rintro e w5 ⟨kg, rfl, u5, T, -⟩; have T5 := Lib.hid T.swap; clear T)
  have hn0 := new_end w5 0 0 0 0 #[.int .i64 0, .int .i64 0, .int .u32 0, .int .i64 0] rfl
  simp only [endA] at hn0
  generalize hX : (⟨wordsM f n, fedQ [] inp, [], 0, 0, 0, 0, secN s, fun _ => nought, []⟩ : BS) = X at T5
  generalize hY : (⟨mcpu0 ent, -1, false, 0⟩ : MC) = Y0 at T5
  have hal : Below w5.heap.size w5 (w5.alloc (.cells (endA 0 0 0 0) 35)) := (Below.refl _ _).alloc (Nat.le_refl _) _
  have HPS := Lib.hid (show PS w (w5.alloc (.cells (endA 0 0 0 0) 35)) b m c' m' u5 (mcpu0 ent) X Y0 w5.heap.size 0 from ⟨by rw [runZ], v4, false, 0, 0, 0, 0, by rw [runZ]; have h9 := T5.out.step hal; rw [← hY] at h9 ⊢; exact h9, Box.new T5.out _ _⟩)
  have HX := Lib.hid hX
  have HY := Lib.hid hY
  have hg17 := T5.out.below.size
  clear hX hY hal T5 T4 T3
  go_upto_block 0 with fail
  clear hn0
  generalize hg : w5.heap.size = g17 at HPS hg17 ⊢
  generalize hwa : w5.alloc (.cells (endA 0 0 0 0) 35) = wa at HPS
  simp only [endA] at hwa
  rw [hwa]
  clear hwa hg
  go_cut [16, 18, 19] from 61 to 93 (fun s16 s18 s19 wx => ∃ D : Nat, s16 = .int .i64 D ∧ Hid (PE w wx b m c' m' u5 (mcpu0 ent) X Y0 g17 D))
  case first =>
    go_wp2_with fail
    go_loopw [16, 18] (fun al i wr => ∃ k j : Nat, k ≤ np ∧ i = .int .i64 k ∧ j ≤ 3000 ∧ al = .int .i64 j ∧ Hid (PS w wr b m c' m' u5 (mcpu0 ent) X Y0 g17 j)) (fun _ i _ => np - (intOf i).toNat)
    case atStart => exact ⟨0, 0, Nat.zero_le _, rfl, by decide, rfl, HPS⟩
    case round =>
      clear HPS
      obtain ⟨k, j, hk, rfl, hj, rfl, HP⟩ := hrel
      by_cases hlt : k < np
      · have hlt' : (k : Int) < (np : Int) := by omega
        by_cases hj2 : j < 3000
        · have hj2' : (j : Int) < 3000 := by omega
          obtain ⟨bp, off, hA, hlp, hcp⟩ := HPR.out (by omega)
          subst hA
          obtain ⟨hR, v, gn, K, T_, E, S, T, B⟩ := HP.out
          have hcell : wr.cell? ⟨bp, off + k, none⟩ = some (.int .i64 (pf k)) := (T.below.cell (p := ⟨bp, off + k, none⟩) hlp).trans (hcp k hlt)
          have HR := Lib.hid hR
          have TT := Lib.hid T
          have BB := Lib.hid B
          have HCP := Lib.hid hcp
          have pb := HPF.out k
          generalize pf k = p at hcell pb
          obtain ⟨q, hq⟩ : ∃ q, pieceQ p j = q := ⟨_, rfl⟩
          have hways := piece_ways p j hj2
          rw [hq] at hways
          have HWY := Lib.hid hways
          have hq3 : j + q ≤ 3000 := by omega
          clear hR T B hcp hways hq HP
          go_upto_region 13 with fail
          go_cut [19] from 71 to 79 (fun s19 wx => s19 = .int .i64 (q : Int) ∧ wr = wx)
          case first =>
            rcases HWY.out with ⟨t1, t2⟩ | ⟨t1, t3, t2⟩ | ⟨t1, t3, t2⟩
            · have t4 : ¬ (3000 - (j : Int)) < 0 := by omega
              go_wp2_with fail
              go_meet
              exact ⟨by rw [t2], rfl⟩
            · have t4 : ¬ p < 0 := by omega
              have t5 : ¬ 3000 - (j : Int) < p := by omega
              go_wp2_with fail
              go_meet
              exact ⟨by rw [t2], rfl⟩
            · have t4 : ¬ p < 0 := by omega
              go_wp2_with fail
              go_meet
              exact ⟨by rw [t2], rfl⟩
          case rest =>
          obtain ⟨rfl, rfl⟩ := hcut
          obtain ⟨Z, hZ⟩ : ∃ Z, runM (-1) q (runM (-1) j (mcpu0 ent) X false 0).cs (runM (-1) j (mcpu0 ent) X false 0).x false 0 = Z := ⟨_, rfl⟩
          have hp := run_piece j q (mcpu0 ent) X HR.out
          have hsay := run_says (-1) q (runM (-1) j (mcpu0 ent) X false 0).cs (runM (-1) j (mcpu0 ent) X false 0).x false 0
          simp only at hp hsay
          rw [hZ] at hp hsay
          obtain ⟨K2, T2, E2, d, cs2, x2, g2⟩ := Z
          simp only at hp hsay
          obtain ⟨-, -, -, hdq, hd1, -⟩ := hsay
          have hdq' : d ≤ q := by omega
          have HZ := Lib.hid hZ
          have HPP := Lib.hid hp
          have HD1 := Lib.hid hd1
          have HG := Lib.hid hg17
          clear hZ hp hd1 hdq hcell pb hg17 HWY
          go_upto_region 15 with (go_at_call 11; refine (TT.out.runA HT.out (q : Int) q (by omega) (show (0 : Int) ≤ (j : Int) by omega) (show (j : Int) ≤ 9000000000000000000 by omega) HZ.out rfl).mono ?_; rintro e w6 ⟨rfl, v6, T, V⟩; have hst := store_end (k := K2) (t := T2) (a := E2) (s := (d : Int)) (BB.out.opA V).blk rfl; have T6 := Lib.hid (T.setRow (BB.out.opA V) HG.out (endA K2 T2 E2 d)); have B6 := Lib.hid ((BB.out.opA V).setRow (endA K2 T2 E2 d)); clear T V)
          clear hst TT BB
          generalize w6.setRow g17 (endA K2 T2 E2 d) = w7 at T6 B6 ⊢
          have e0 : w7.cell? ⟨g17, 0, none⟩ = some (.int .i64 K2) := B6.out.blk.cell 0
          have e3 : w7.cell? ⟨g17, 3, none⟩ = some (.int .i64 (d : Int)) := B6.out.blk.cell 3
          have hwr : IntKind.i64.wrap ((j : Int) + (d : Int)) = (j : Int) + (d : Int) := IntWalk.i64_in _ (by omega)
          by_cases hK : K2 = 1
          · obtain rfl : d = q := by have := HD1.out hK; omega
            subst hK
            go_wp2_with fail
            go_roundw
            case rel => exact ⟨k + 1, j + d, by omega, by go_num, hq3, by go_num, Lib.hid ⟨HPP.out.1, v6, g2, 1, T2, E2, d, by rw [HPP.out.2.2.1, HPP.out.2.2.2, Int.natCast_add]; exact T6.out, B6.out⟩⟩
            case measure => simp [intOf]; omega
          · have hK2 : (K2 != 1) = true := by simpa using hK
            go_wp2_with fail
            go_meet
            exact ⟨j + d, by go_num, Lib.hid ⟨j + q, HPP.out.2.1, by omega, v6, g2, K2, T2, E2, d, by rw [HPP.out.2.2.1, HPP.out.2.2.2, Int.natCast_add]; exact T6.out, B6.out⟩⟩
        · have hj2' : ¬ (j : Int) < 3000 := by omega
          go_wp2_with fail
          go_meet
          exact ⟨j, rfl, Lib.hid (HP.out.pe hj)⟩
      · obtain rfl : k = np := by omega
        go_wp2_with fail
        go_meet
        exact ⟨j, rfl, Lib.hid (HP.out.pe hj)⟩
  case rest =>
  obtain ⟨D, rfl, HPE⟩ := hcut
  obtain ⟨j, hD, hD3, v, gn, K, T_, E, S, T, B⟩ := HPE.out
  have hag := run_again j (mcpu0 ent) X 0
  simp only [Nat.sub_zero] at hag
  rw [hD] at hag
  generalize (runM (-1) j (mcpu0 ent) X false 0).cs = cs at T hag
  generalize (runM (-1) j (mcpu0 ent) X false 0).x = x2 at T hag
  obtain ⟨Z, hZ⟩ : ∃ Z, runM (-1) D (mcpu0 ent) X false 0 = Z := ⟨_, rfl⟩
  rw [hZ] at hag
  obtain ⟨K2, T2, E2, d2, cs2, x3, g2⟩ := Z
  simp only at hag
  obtain ⟨rfl, rfl, rfl⟩ := hag
  have hy0 := HY.out
  subst hy0
  have HZ := Lib.hid hZ
  have T5 := Lib.hid T.swap
  have B5 := Lib.hid B.swap
  have HG := Lib.hid hg17
  clear hZ T B hD HPE HPS HPF HPR HX HY hg17
  go_upto_region 20 with (go_at_call 11; refine (T5.out.runA HT.out (d2 : Int) d2 (by omega) (show (0 : Int) ≤ 0 by decide) (show (0 : Int) ≤ 9000000000000000000 by decide) HZ.out rfl).mono ?_; rintro e w8 ⟨rfl, u8, T, V⟩; have hn := new_end w8 K2 T2 E2 d2 #[.int .i64 0, .int .i64 0, .int .u32 0, .int .i64 0] rfl; have hal : Below w8.heap.size w8 (w8.alloc (.cells (endA K2 T2 E2 d2) 35)) := (Below.refl _ _).alloc (Nat.le_refl _) _; have T8 := Lib.hid (T.step hal).swap; have L8 := Lib.hid (Box.new T (endA K2 T2 E2 d2) 35).swap; have B8 := Lib.hid ((B5.out.opA V).step hal).swap; clear T V hal)
  clear hn T5 B5
  generalize hg20 : w8.heap.size = g20 at L8 ⊢
  generalize w8.alloc (.cells (endA K2 T2 E2 d2) 35) = wb at T8 L8 B8 ⊢
  clear hg20
  have k0 : wb.cell? ⟨g17, 0, none⟩ = some (.int .i64 K) := B8.out.blk.cell 0
  have l3 : wb.cell? ⟨g20, 3, none⟩ = some (.int .i64 (d2 : Int)) := L8.out.blk.cell 3
  obtain ⟨q, hq⟩ : ∃ q : Bool, (K == 1 || K == 0) = q := ⟨_, rfl⟩
  have HQ := Lib.hid hq
  clear hq
  go_cut [103] from 96 to 104 (fun s103 wx => s103 = .bool q ∧ wb = wx)
  case first =>
    by_cases hK : K = 1
    · have h1 : (K == 1) = true := by simpa using hK
      have h2 : q = true := by rw [← HQ.out, h1]; rfl
      go_wp2_with fail
      go_meet
      exact ⟨by rw [h2], rfl⟩
    · have h1 : (K == 1) = false := by simpa using hK
      have h2 : q = (K == 0) := by rw [← HQ.out, h1]; rfl
      go_wp2_with fail
      go_meet
      exact ⟨by rw [h2], rfl⟩
  case rest =>
  obtain ⟨rfl, rfl⟩ := hcut
  go_upto_if 103 with fail
  go_cut [] from 104 to 113 (fun wx => wb = wx)
  case first =>
    cases q
    · go_wp2_with fail
      go_meet
      exact rfl
    · go_wp2_with fail
      go_meet
      exact rfl
  case rest =>
  obtain rfl := hcut
  have HC3 := Lib.hid T8.out.ma.ok
  go_upto_region 24 with (go_at_call 12; refine T8.out.cpuA.mono ?_; rintro e w11 ⟨rfl, T, hb11⟩; have hs5 := store_new (w := w11) (Z := #[.int .u32 0, .int .u32 0, .int .u32 0, .int .u32 0, .int .u32 0, .int .u32 0, .int .u32 0, .int .u32 0, .int .u32 0, .int .u32 0, .int .u32 0, .int .u32 0, .int .u32 0, .int .u32 0, .int .u32 0, .int .u32 0, .int .u32 0, .bool false, .bool false, .bool false, .bool false, .int .u32 0]) (cs := cs2) (t := 39) rfl HC3.out.size HC3.out.one; have hal : Below w11.heap.size w11 (w11.alloc (.cells cs2 39)) := (Below.refl _ _).alloc (Nat.le_refl _) _; have T11 := Lib.hid (T.step hal).swap; have C11 := Lib.hid (Box.new T cs2 39).swap; have L11 := Lib.hid ((L8.out.step hb11).step hal).swap; clear T hb11 hal)
  clear hs5 T8 B8 L8
  generalize hg11 : w11.heap.size = g11 at C11 ⊢
  generalize w11.alloc (.cells cs2 39) = wd at T11 C11 L11 ⊢
  clear hg11
  go_upto_region 25 with (go_at_call 12; refine T11.out.cpuA.mono ?_; rintro e w12 ⟨rfl, T, hb12⟩; have hs5 := store_new (w := w12) (Z := #[.int .u32 0, .int .u32 0, .int .u32 0, .int .u32 0, .int .u32 0, .int .u32 0, .int .u32 0, .int .u32 0, .int .u32 0, .int .u32 0, .int .u32 0, .int .u32 0, .int .u32 0, .int .u32 0, .int .u32 0, .int .u32 0, .int .u32 0, .bool false, .bool false, .bool false, .bool false, .int .u32 0]) (cs := cs2) (t := 39) rfl HC3.out.size HC3.out.one; have hal : Below w12.heap.size w12 (w12.alloc (.cells cs2 39)) := (Below.refl _ _).alloc (Nat.le_refl _) _; have T12 := Lib.hid (T.step hal).swap; have D12 := Lib.hid (Box.new T cs2 39).swap; have C12 := Lib.hid ((C11.out.step hb12).step hal).swap; have L12 := Lib.hid ((L11.out.step hb12).step hal).swap; clear T hb12 hal)
  clear hs5 T11 L11 C11 k0 l3
  generalize hg12 : w12.heap.size = g12 at D12 ⊢
  generalize w12.alloc (.cells cs2 39) = we at T12 D12 C12 L12 ⊢
  clear hg12
  have HT2 := Lib.hid (show Two w we b m v x3 ⟨cs2, -1, gn, (d2 : Int)⟩ c' m' u8 x3 ⟨cs2, -1, g2, (d2 : Int)⟩ from by have h9 := T12.out; rw [Int.zero_add] at h9; exact h9)
  clear T12
  have heq := fun (W : World) => run_eql_cpu HC3.out W
  have JT : Hid (Two w we.drew b m v x3 ⟨cs2, -1, gn, (d2 : Int)⟩ c' m' u8 x3 ⟨cs2, -1, g2, (d2 : Int)⟩) := Lib.hid (HT2.out.step ((Below.refl _ _).drew))
  have JL : Hid (Blk we.drew g20 (endA K2 T2 E2 d2) 35) := Lib.hid (L12.out.blk.step ((Below.refl _ _).drew))
  have JA : Hid (Blk we.drew g11 cs2 39) := Lib.hid (C12.out.blk.step ((Below.refl _ _).drew))
  have JD : Hid (Blk we.drew g12 cs2 39) := Lib.hid (D12.out.blk.step ((Below.refl _ _).drew))
  refine wp_region_held_drew (S := (fun w' => Hid (Two w w' b m v x3 ⟨cs2, -1, gn, (d2 : Int)⟩ c' m' u8 x3 ⟨cs2, -1, g2, (d2 : Int)⟩) ∧ Hid (Blk w' g20 (endA K2 T2 E2 d2) 35) ∧ Hid (Blk w' g11 cs2 39) ∧ Hid (Blk w' g12 cs2 39))) (by kernel_rfl) ⟨JT, JL, JA, JD⟩ (fun hHeld => ?_)
  clear hHeld
  generalize we.drew = wf at JT JL JA JD ⊢
  have hHeld : ((fun w' => Hid (Two w w' b m v x3 ⟨cs2, -1, gn, (d2 : Int)⟩ c' m' u8 x3 ⟨cs2, -1, g2, (d2 : Int)⟩) ∧ Hid (Blk w' g20 (endA K2 T2 E2 d2) 35) ∧ Hid (Blk w' g11 cs2 39) ∧ Hid (Blk w' g12 cs2 39)) wf) := ⟨JT, JL, JA, JD⟩
  refine wpAnyH_take (i := 0) (oi := _) (v := ?v0_1) rfl (by kernel_rfl) (by kernel_rfl) (by kernel_rfl) (fun _ _ _ h => h) (Or.inl ⟨by first | kernel_rfl | rfl, ?hy0_1⟩) (by assumption) ?rest0_1
  case hy0_1 => (intro wq hSw; (try dsimp only at hSw); obtain ⟨qT, qL, qA, qD⟩ := hSw; clear qT qL qA qD; simp only [List.getElem_toArray, List.getElem_cons_zero, List.getElem_cons_succ]; go_simp; try with_reducible rfl)
  simp only [List.getElem_toArray, List.getElem_cons_zero, List.getElem_cons_succ]
  refine wpAnyH_take (i := 1) (oi := _) (v := ?v1_2) rfl (by kernel_rfl) (by kernel_rfl) (by kernel_rfl) (fun _ _ _ h => h) (Or.inl ⟨by first | kernel_rfl | rfl, ?hy1_2⟩) (by assumption) ?rest1_2
  case hy1_2 => (intro wq hSw; (try dsimp only at hSw); obtain ⟨qT, qL, qA, qD⟩ := hSw; clear qT qL qA qD; simp only [List.getElem_toArray, List.getElem_cons_zero, List.getElem_cons_succ]; go_simp; try with_reducible rfl)
  simp only [List.getElem_toArray, List.getElem_cons_zero, List.getElem_cons_succ]
  refine wpAnyH_take (i := 2) (oi := _) (v := ?v2_3) rfl (by kernel_rfl) (by kernel_rfl) (by kernel_rfl) (fun _ _ _ h => h) (Or.inl ⟨by first | kernel_rfl | rfl, ?hy2_3⟩) (by assumption) ?rest2_3
  case hy2_3 => (intro wq hSw; (try dsimp only at hSw); obtain ⟨qT, qL, qA, qD⟩ := hSw; clear qT qL qA qD; simp only [List.getElem_toArray, List.getElem_cons_zero, List.getElem_cons_succ]; go_simp; try with_reducible rfl)
  simp only [List.getElem_toArray, List.getElem_cons_zero, List.getElem_cons_succ]
  refine wpAnyH_take (i := 3) (oi := _) (v := ?v3_4) rfl (by kernel_rfl) (by kernel_rfl) (by kernel_rfl) (fun _ _ _ h => h) (Or.inl ⟨by first | kernel_rfl | rfl, ?hy3_4⟩) (by assumption) ?rest3_4
  case hy3_4 => (intro wq hSw; (try dsimp only at hSw); obtain ⟨qT, qL, qA, qD⟩ := hSw; have z0 : wq.cell? ⟨g20, 3, none⟩ = some (.int .i64 (d2 : Int)) := qL.out.cell 3; clear qT qL qA qD; simp only [List.getElem_toArray, List.getElem_cons_zero, List.getElem_cons_succ]; go_simp; try with_reducible rfl)
  simp only [List.getElem_toArray, List.getElem_cons_zero, List.getElem_cons_succ]
  refine wpAnyH_take (i := 4) (oi := _) (v := ?v4_5) rfl (by kernel_rfl) (by kernel_rfl) (by kernel_rfl) (fun _ _ _ h => h) (Or.inl ⟨by first | kernel_rfl | rfl, ?hy4_5⟩) (by assumption) ?rest4_5
  case hy4_5 => (intro wq hSw; (try dsimp only at hSw); obtain ⟨qT, qL, qA, qD⟩ := hSw; clear qT qL qA qD; simp only [List.getElem_toArray, List.getElem_cons_zero, List.getElem_cons_succ]; go_simp; try with_reducible rfl)
  simp only [List.getElem_toArray, List.getElem_cons_zero, List.getElem_cons_succ]
  refine wpAnyH_take (i := 5) (oi := _) (v := ?v5_6) rfl (by kernel_rfl) (by kernel_rfl) (by kernel_rfl) (fun _ _ _ h => h) (Or.inl ⟨by first | kernel_rfl | rfl, ?hy5_6⟩) (by assumption) ?rest5_6
  case hy5_6 => (intro wq hSw; (try dsimp only at hSw); obtain ⟨qT, qL, qA, qD⟩ := hSw; clear qT qL qA qD; simp only [List.getElem_toArray, List.getElem_cons_zero, List.getElem_cons_succ]; go_simp; try with_reducible rfl)
  simp only [List.getElem_toArray, List.getElem_cons_zero, List.getElem_cons_succ]
  refine wpAnyH_take (i := 6) (oi := _) (v := ?v6_7) rfl (by kernel_rfl) (by kernel_rfl) (by kernel_rfl) (fun _ _ _ h => h) (Or.inl ⟨by first | kernel_rfl | rfl, ?hy6_7⟩) (by assumption) ?rest6_7
  case hy6_7 => (intro wq hSw; (try dsimp only at hSw); obtain ⟨qT, qL, qA, qD⟩ := hSw; clear qT qL qA qD; simp only [List.getElem_toArray, List.getElem_cons_zero, List.getElem_cons_succ]; go_simp; try with_reducible rfl)
  simp only [List.getElem_toArray, List.getElem_cons_zero, List.getElem_cons_succ]
  refine wpAnyH_take (i := 7) (oi := _) (v := ?v7_8) rfl (by kernel_rfl) (by kernel_rfl) (by kernel_rfl) (fun _ _ _ h => h) (Or.inl ⟨by first | kernel_rfl | rfl, ?hy7_8⟩) (by assumption) ?rest7_8
  case hy7_8 => (intro wq hSw; (try dsimp only at hSw); obtain ⟨qT, qL, qA, qD⟩ := hSw; have z0 := load_cpu qA.out HC3.out.size; clear qT qL qA qD; simp only [List.getElem_toArray, List.getElem_cons_zero, List.getElem_cons_succ]; go_simp; try with_reducible rfl)
  simp only [List.getElem_toArray, List.getElem_cons_zero, List.getElem_cons_succ]
  refine wpAnyH_take (i := 8) (oi := _) (v := ?v8_9) rfl (by kernel_rfl) (by kernel_rfl) (by kernel_rfl) (fun _ _ _ h => h) (Or.inl ⟨by first | kernel_rfl | rfl, ?hy8_9⟩) (by assumption) ?rest8_9
  case hy8_9 => (intro wq hSw; (try dsimp only at hSw); obtain ⟨qT, qL, qA, qD⟩ := hSw; have z0 := load_cpu qD.out HC3.out.size; clear qT qL qA qD; simp only [List.getElem_toArray, List.getElem_cons_zero, List.getElem_cons_succ]; go_simp; try with_reducible rfl)
  simp only [List.getElem_toArray, List.getElem_cons_zero, List.getElem_cons_succ]
  refine wpAnyH_take (i := 9) (oi := _) (v := ?v9_10) rfl (by kernel_rfl) (by kernel_rfl) (by kernel_rfl) (fun _ _ _ h => h) (Or.inl ⟨by first | kernel_rfl | rfl, ?hy9_10⟩) (by assumption) ?rest9_10
  case hy9_10 => (intro wq hSw; (try dsimp only at hSw); obtain ⟨qT, qL, qA, qD⟩ := hSw; have z0 := run_eql_cpu HC3.out wq; clear qT qL qA qD; simp only [List.getElem_toArray, List.getElem_cons_zero, List.getElem_cons_succ]; go_simp; try with_reducible rfl)
  simp only [List.getElem_toArray, List.getElem_cons_zero, List.getElem_cons_succ]
  refine wpAnyH_take (i := 10) (oi := _) (v := ?v10_11) rfl (by kernel_rfl) (by kernel_rfl) (by kernel_rfl) (fun _ _ _ h => h) (Or.inl ⟨by first | kernel_rfl | rfl, ?hy10_11⟩) (by assumption) ?rest10_11
  case hy10_11 => (intro wq hSw; (try dsimp only at hSw); obtain ⟨qT, qL, qA, qD⟩ := hSw; clear qT qL qA qD; simp only [List.getElem_toArray, List.getElem_cons_zero, List.getElem_cons_succ]; go_simp; try with_reducible rfl)
  simp only [List.getElem_toArray, List.getElem_cons_zero, List.getElem_cons_succ]
  refine wpAnyH_take (i := 11) (oi := _) (v := ?v11_12) rfl (by kernel_rfl) (by kernel_rfl) (by kernel_rfl) (fun _ _ _ h => h) (Or.inl ⟨by first | kernel_rfl | rfl, ?hy11_12⟩) (by assumption) ?rest11_12
  case hy11_12 => (intro wq hSw; (try dsimp only at hSw); obtain ⟨qT, qL, qA, qD⟩ := hSw; clear qT qL qA qD; simp only [List.getElem_toArray, List.getElem_cons_zero, List.getElem_cons_succ]; go_simp; try with_reducible rfl)
  simp only [List.getElem_toArray, List.getElem_cons_zero, List.getElem_cons_succ]
  refine wpAnyH_take (i := 13) (oi := _) (v := ?v13_13) rfl (by kernel_rfl) (by kernel_rfl) (by kernel_rfl) (fun _ _ _ h => h) (Or.inl ⟨by first | kernel_rfl | rfl, ?hy13_13⟩) (by assumption) ?rest13_13
  case hy13_13 => (intro wq hSw; (try dsimp only at hSw); obtain ⟨qT, qL, qA, qD⟩ := hSw; clear qT qL qA qD; simp only [List.getElem_toArray, List.getElem_cons_zero, List.getElem_cons_succ]; go_simp; try with_reducible rfl)
  simp only [List.getElem_toArray, List.getElem_cons_zero, List.getElem_cons_succ]
  refine wpAnyH_ready (rs := [12]) (by kernel_rfl) (by simp) ?_
  refine (AllReadyH.cons (o := _) rfl (fun K hK => ?_) AllReadyH.nil)
  try simp only [List.getElem_toArray, List.getElem_cons_zero, List.getElem_cons_succ]
  go_simp
  go_at_call 22
  refine (JT.out.outA).mono ?_
  rintro e wz ⟨rfl, rfl⟩
  refine hK.out _ _ ⟨JT, JL, JA, JD⟩ (fun _ => ?_)
  try simp only [List.getElem_toArray, List.getElem_cons_zero, List.getElem_cons_succ]
  refine wpAnyH_ready (rs := [14]) (by kernel_rfl) (by simp) ?_
  refine (AllReadyH.cons (o := _) rfl (fun K hK => ?_) AllReadyH.nil)
  try simp only [List.getElem_toArray, List.getElem_cons_zero, List.getElem_cons_succ]
  go_simp
  go_at_call 22
  refine (JT.out.swap.outA).mono ?_
  rintro e wz ⟨rfl, rfl⟩
  refine hK.out _ _ ⟨JT, JL, JA, JD⟩ (fun _ => ?_)
  try simp only [List.getElem_toArray, List.getElem_cons_zero, List.getElem_cons_succ]
  refine wpAnyH_take (i := 15) (oi := _) (v := ?v15_14) rfl (by kernel_rfl) (by kernel_rfl) (by kernel_rfl) (fun _ _ _ h => h) (Or.inl ⟨by first | kernel_rfl | rfl, ?hy15_14⟩) (by assumption) ?rest15_14
  case hy15_14 => (intro wq hSw; (try dsimp only at hSw); obtain ⟨qT, qL, qA, qD⟩ := hSw; clear qT qL qA qD; simp only [List.getElem_toArray, List.getElem_cons_zero, List.getElem_cons_succ]; go_simp; try with_reducible rfl)
  simp only [List.getElem_toArray, List.getElem_cons_zero, List.getElem_cons_succ]
  refine wpAnyH_take (i := 16) (oi := _) (v := ?v16_15) rfl (by kernel_rfl) (by kernel_rfl) (by kernel_rfl) (fun _ _ _ h => h) (Or.inl ⟨by first | kernel_rfl | rfl, ?hy16_15⟩) (by assumption) ?rest16_15
  case hy16_15 => (intro wq hSw; (try dsimp only at hSw); obtain ⟨qT, qL, qA, qD⟩ := hSw; clear qT qL qA qD; simp only [List.getElem_toArray, List.getElem_cons_zero, List.getElem_cons_succ]; go_simp; try with_reducible rfl)
  simp only [List.getElem_toArray, List.getElem_cons_zero, List.getElem_cons_succ]
  refine wpAnyH_take (i := 17) (oi := _) (v := ?v17_16) rfl (by kernel_rfl) (by kernel_rfl) (by kernel_rfl) (fun _ _ _ h => h) (Or.inl ⟨by first | kernel_rfl | rfl, ?hy17_16⟩) (by assumption) ?rest17_16
  case hy17_16 => (intro wq hSw; (try dsimp only at hSw); obtain ⟨qT, qL, qA, qD⟩ := hSw; clear qT qL qA qD; simp only [List.getElem_toArray, List.getElem_cons_zero, List.getElem_cons_succ]; go_simp; try with_reducible rfl)
  simp only [List.getElem_toArray, List.getElem_cons_zero, List.getElem_cons_succ]
  refine wpAnyH_take (i := 18) (oi := _) (v := ?v18_17) rfl (by kernel_rfl) (by kernel_rfl) (by kernel_rfl) (fun _ _ _ h => h) (Or.inl ⟨by first | kernel_rfl | rfl, ?hy18_17⟩) (by assumption) ?rest18_17
  case hy18_17 => (intro wq hSw; (try dsimp only at hSw); obtain ⟨qT, qL, qA, qD⟩ := hSw; clear qT qL qA qD; simp only [List.getElem_toArray, List.getElem_cons_zero, List.getElem_cons_succ]; go_simp; try with_reducible rfl)
  simp only [List.getElem_toArray, List.getElem_cons_zero, List.getElem_cons_succ]
  refine wpAnyH_take (i := 20) (oi := _) (v := ?v20_18) rfl (by kernel_rfl) (by kernel_rfl) (by kernel_rfl) (fun _ _ _ h => h) (Or.inl ⟨by first | kernel_rfl | rfl, ?hy20_18⟩) (by assumption) ?rest20_18
  case hy20_18 => (intro wq hSw; (try dsimp only at hSw); obtain ⟨qT, qL, qA, qD⟩ := hSw; clear qT qL qA qD; simp only [List.getElem_toArray, List.getElem_cons_zero, List.getElem_cons_succ]; go_simp; try with_reducible rfl)
  simp only [List.getElem_toArray, List.getElem_cons_zero, List.getElem_cons_succ]
  refine wpAnyH_ready (rs := [19]) (by kernel_rfl) (by simp) ?_
  refine (AllReadyH.cons (o := _) rfl (fun K hK => ?_) AllReadyH.nil)
  try simp only [List.getElem_toArray, List.getElem_cons_zero, List.getElem_cons_succ]
  go_simp
  go_at_call 17
  refine (JT.out.stepsA).mono ?_
  rintro e wz ⟨rfl, rfl⟩
  refine hK.out _ _ ⟨JT, JL, JA, JD⟩ (fun _ => ?_)
  try simp only [List.getElem_toArray, List.getElem_cons_zero, List.getElem_cons_succ]
  refine wpAnyH_ready (rs := [21]) (by kernel_rfl) (by simp) ?_
  refine (AllReadyH.cons (o := _) rfl (fun K hK => ?_) AllReadyH.nil)
  try simp only [List.getElem_toArray, List.getElem_cons_zero, List.getElem_cons_succ]
  go_simp
  go_at_call 17
  refine (JT.out.swap.stepsA).mono ?_
  rintro e wz ⟨rfl, rfl⟩
  refine hK.out _ _ ⟨JT, JL, JA, JD⟩ (fun _ => ?_)
  try simp only [List.getElem_toArray, List.getElem_cons_zero, List.getElem_cons_succ]
  refine wpAnyH_take (i := 22) (oi := _) (v := ?v22_19) rfl (by kernel_rfl) (by kernel_rfl) (by kernel_rfl) (fun _ _ _ h => h) (Or.inl ⟨by first | kernel_rfl | rfl, ?hy22_19⟩) (by assumption) ?rest22_19
  case hy22_19 => (intro wq hSw; (try dsimp only at hSw); obtain ⟨qT, qL, qA, qD⟩ := hSw; clear qT qL qA qD; simp only [List.getElem_toArray, List.getElem_cons_zero, List.getElem_cons_succ]; go_simp; try with_reducible rfl)
  simp only [List.getElem_toArray, List.getElem_cons_zero, List.getElem_cons_succ]
  refine wpAnyH_take (i := 23) (oi := _) (v := ?v23_20) rfl (by kernel_rfl) (by kernel_rfl) (by kernel_rfl) (fun _ _ _ h => h) (Or.inl ⟨by first | kernel_rfl | rfl, ?hy23_20⟩) (by assumption) ?rest23_20
  case hy23_20 => (intro wq hSw; (try dsimp only at hSw); obtain ⟨qT, qL, qA, qD⟩ := hSw; clear qT qL qA qD; simp only [List.getElem_toArray, List.getElem_cons_zero, List.getElem_cons_succ]; go_simp; try with_reducible rfl)
  simp only [List.getElem_toArray, List.getElem_cons_zero, List.getElem_cons_succ]
  refine wpAnyH_take (i := 24) (oi := _) (v := ?v24_21) rfl (by kernel_rfl) (by kernel_rfl) (by kernel_rfl) (fun _ _ _ h => h) (Or.inl ⟨by first | kernel_rfl | rfl, ?hy24_21⟩) (by assumption) ?rest24_21
  case hy24_21 => (intro wq hSw; (try dsimp only at hSw); obtain ⟨qT, qL, qA, qD⟩ := hSw; clear qT qL qA qD; simp only [List.getElem_toArray, List.getElem_cons_zero, List.getElem_cons_succ]; go_simp; try with_reducible rfl)
  simp only [List.getElem_toArray, List.getElem_cons_zero, List.getElem_cons_succ]
  refine wpAnyH_take (i := 25) (oi := _) (v := ?v25_22) rfl (by kernel_rfl) (by kernel_rfl) (by kernel_rfl) (fun _ _ _ h => h) (Or.inl ⟨by first | kernel_rfl | rfl, ?hy25_22⟩) (by assumption) ?rest25_22
  case hy25_22 => (intro wq hSw; (try dsimp only at hSw); obtain ⟨qT, qL, qA, qD⟩ := hSw; clear qT qL qA qD; simp only [List.getElem_toArray, List.getElem_cons_zero, List.getElem_cons_succ]; go_simp; try with_reducible rfl)
  simp only [List.getElem_toArray, List.getElem_cons_zero, List.getElem_cons_succ]
  refine wpAnyH_take (i := 29) (oi := _) (v := ?v29_23) rfl (by kernel_rfl) (by kernel_rfl) (by kernel_rfl) (fun _ _ _ h => h) (Or.inl ⟨by first | kernel_rfl | rfl, ?hy29_23⟩) (by assumption) ?rest29_23
  case hy29_23 => (intro wq hSw; (try dsimp only at hSw); obtain ⟨qT, qL, qA, qD⟩ := hSw; clear qT qL qA qD; simp only [List.getElem_toArray, List.getElem_cons_zero, List.getElem_cons_succ]; go_simp; try with_reducible rfl)
  simp only [List.getElem_toArray, List.getElem_cons_zero, List.getElem_cons_succ]
  clear hHeld
  refine wpAnyH_ready (rs := [26]) (by kernel_rfl) (by simp) ?_
  refine (AllReadyH.cons (o := _) rfl (fun K hK => ?_) AllReadyH.nil)
  try simp only [List.getElem_toArray, List.getElem_cons_zero, List.getElem_cons_succ]
  go_simp
  go_at_call 19
  refine (JT.out.diskA).mono ?_
  rintro e wz ⟨rfl, rfl⟩
  refine hK.out _ _ ⟨JT, JL, JA, JD⟩ (fun _ => ?_)
  try simp only [List.getElem_toArray, List.getElem_cons_zero, List.getElem_cons_succ]
  refine wpAnyH_ready (rs := [27]) (by kernel_rfl) (by simp) ?_
  refine (AllReadyH.cons (o := _) rfl (fun K hK => ?_) AllReadyH.nil)
  try simp only [List.getElem_toArray, List.getElem_cons_zero, List.getElem_cons_succ]
  go_simp
  go_at_call 21
  refine (JT.out.imageA).mono ?_
  rintro e wg ⟨qv, rfl, hrow, hT, hb⟩
  have MT := Lib.hid hT
  have ML := Lib.hid (JL.out.step hb)
  have MA := Lib.hid (JA.out.step hb)
  have MD := Lib.hid (JD.out.step hb)
  have MR := Lib.hid hrow
  clear hT hb hrow JT JL JA JD
  refine hK.out _ _ ⟨MT, ML, MA, MD⟩ (fun _ => ?_)
  try simp only [List.getElem_toArray, List.getElem_cons_zero, List.getElem_cons_succ]
  refine wpAnyH_strong2 (S' := (fun w' => Hid (Two w w' b m v x3 ⟨cs2, -1, gn, (d2 : Int)⟩ c' m' u8 x3 ⟨cs2, -1, g2, (d2 : Int)⟩) ∧ Hid (Blk w' g20 (endA K2 T2 E2 d2) 35) ∧ Hid (Blk w' g11 cs2 39) ∧ Hid (Blk w' g12 cs2 39) ∧ Hid (BytesRow w' wf.heap.size qv (imgL x3.sec x3.N)))) (fun _ h => ⟨h.1, h.2.1, h.2.2.1, h.2.2.2.1⟩) _ _ _ _ ?_
  have hHeld2 : ((fun w' => Hid (Two w w' b m v x3 ⟨cs2, -1, gn, (d2 : Int)⟩ c' m' u8 x3 ⟨cs2, -1, g2, (d2 : Int)⟩) ∧ Hid (Blk w' g20 (endA K2 T2 E2 d2) 35) ∧ Hid (Blk w' g11 cs2 39) ∧ Hid (Blk w' g12 cs2 39) ∧ Hid (BytesRow w' wf.heap.size qv (imgL x3.sec x3.N))) wg) := ⟨MT, ML, MA, MD, MR⟩
  refine wpAnyH_take (i := 28) (oi := _) (v := ?v28_24) rfl (by kernel_rfl) (by kernel_rfl) (by kernel_rfl) (fun _ _ _ h => h) (Or.inl ⟨by first | kernel_rfl | rfl, ?hy28_24⟩) (by assumption) ?rest28_24
  case hy28_24 => (intro wq hSw; (try dsimp only at hSw); obtain ⟨qT, qL, qA, qD, qR⟩ := hSw; have z0 := qR.out.conv; clear qT qL qA qD qR; simp only [List.getElem_toArray, List.getElem_cons_zero, List.getElem_cons_succ]; go_simp; try with_reducible rfl)
  simp only [List.getElem_toArray, List.getElem_cons_zero, List.getElem_cons_succ]
  clear hHeld2
  refine wpAnyH_ready (rs := [30]) (by kernel_rfl) (by simp) ?_
  refine (AllReadyH.cons (o := _) rfl (fun K hK => ?_) AllReadyH.nil)
  try simp only [List.getElem_toArray, List.getElem_cons_zero, List.getElem_cons_succ]
  go_simp
  go_at_call 19
  refine (MT.out.swap.diskA).mono ?_
  rintro e wz ⟨rfl, rfl⟩
  refine hK.out _ _ ⟨MT, ML, MA, MD, MR⟩ (fun _ => ?_)
  try simp only [List.getElem_toArray, List.getElem_cons_zero, List.getElem_cons_succ]
  refine wpAnyH_ready (rs := [31]) (by kernel_rfl) (by simp) ?_
  refine (AllReadyH.cons (o := _) rfl (fun K hK => ?_) AllReadyH.nil)
  try simp only [List.getElem_toArray, List.getElem_cons_zero, List.getElem_cons_succ]
  go_simp
  go_at_call 21
  refine (MT.out.swap.imageA).mono ?_
  rintro e wh ⟨qx, rfl, hrow, hT, hb⟩
  have NT := Lib.hid hT.swap
  have NL := Lib.hid (ML.out.step hb)
  have NA := Lib.hid (MA.out.step hb)
  have ND := Lib.hid (MD.out.step hb)
  have NR := Lib.hid (MR.out.below (B := 0) hb)
  have NQ := Lib.hid hrow
  clear hT hb hrow MT ML MA MD MR
  refine hK.out _ _ ⟨NT, NL, NA, ND, NR⟩ (fun _ => ?_)
  try simp only [List.getElem_toArray, List.getElem_cons_zero, List.getElem_cons_succ]
  refine wpAnyH_strong2 (S' := (fun w' => Hid (Two w w' b m v x3 ⟨cs2, -1, gn, (d2 : Int)⟩ c' m' u8 x3 ⟨cs2, -1, g2, (d2 : Int)⟩) ∧ Hid (Blk w' g20 (endA K2 T2 E2 d2) 35) ∧ Hid (Blk w' g11 cs2 39) ∧ Hid (Blk w' g12 cs2 39) ∧ Hid (BytesRow w' wf.heap.size qv (imgL x3.sec x3.N)) ∧ Hid (BytesRow w' wg.heap.size qx (imgL x3.sec x3.N)))) (fun _ h => ⟨h.1, h.2.1, h.2.2.1, h.2.2.2.1, h.2.2.2.2.1⟩) _ _ _ _ ?_
  have hHeld3 : ((fun w' => Hid (Two w w' b m v x3 ⟨cs2, -1, gn, (d2 : Int)⟩ c' m' u8 x3 ⟨cs2, -1, g2, (d2 : Int)⟩) ∧ Hid (Blk w' g20 (endA K2 T2 E2 d2) 35) ∧ Hid (Blk w' g11 cs2 39) ∧ Hid (Blk w' g12 cs2 39) ∧ Hid (BytesRow w' wf.heap.size qv (imgL x3.sec x3.N)) ∧ Hid (BytesRow w' wg.heap.size qx (imgL x3.sec x3.N))) wh) := ⟨NT, NL, NA, ND, NR, NQ⟩
  refine wpAnyH_take (i := 32) (oi := _) (v := ?v32_25) rfl (by kernel_rfl) (by kernel_rfl) (by kernel_rfl) (fun _ _ _ h => h) (Or.inl ⟨by first | kernel_rfl | rfl, ?hy32_25⟩) (by assumption) ?rest32_25
  case hy32_25 => (intro wq hSw; (try dsimp only at hSw); obtain ⟨qT, qL, qA, qD, qR, qQ⟩ := hSw; have z0 := qQ.out.conv; clear qT qL qA qD qR qQ; simp only [List.getElem_toArray, List.getElem_cons_zero, List.getElem_cons_succ]; go_simp; try with_reducible rfl)
  simp only [List.getElem_toArray, List.getElem_cons_zero, List.getElem_cons_succ]
  refine wpAnyH_take (i := 33) (oi := _) (v := ?v33_26) rfl (by kernel_rfl) (by kernel_rfl) (by kernel_rfl) (fun _ _ _ h => h) (Or.inl ⟨by first | kernel_rfl | rfl, ?hy33_26⟩) (by assumption) ?rest33_26
  case hy33_26 => (intro wq hSw; (try dsimp only at hSw); obtain ⟨qT, qL, qA, qD, qR, qQ⟩ := hSw; clear qT qL qA qD qR qQ; simp only [List.getElem_toArray, List.getElem_cons_zero, List.getElem_cons_succ]; go_simp; try with_reducible rfl)
  simp only [List.getElem_toArray, List.getElem_cons_zero, List.getElem_cons_succ]
  refine wpAnyH_take (i := 34) (oi := _) (v := ?v34_27) rfl (by kernel_rfl) (by kernel_rfl) (by kernel_rfl) (fun _ _ _ h => h) (Or.inl ⟨by first | kernel_rfl | rfl, ?hy34_27⟩) (by assumption) ?rest34_27
  case hy34_27 => (intro wq hSw; (try dsimp only at hSw); obtain ⟨qT, qL, qA, qD, qR, qQ⟩ := hSw; clear qT qL qA qD qR qQ; simp only [List.getElem_toArray, List.getElem_cons_zero, List.getElem_cons_succ]; go_simp; try with_reducible rfl)
  simp only [List.getElem_toArray, List.getElem_cons_zero, List.getElem_cons_succ]
  refine wpAnyH_take (i := 35) (oi := _) (v := ?v35_28) rfl (by kernel_rfl) (by kernel_rfl) (by kernel_rfl) (fun _ _ _ h => h) (Or.inl ⟨by first | kernel_rfl | rfl, ?hy35_28⟩) (by assumption) ?rest35_28
  case hy35_28 => (intro wq hSw; (try dsimp only at hSw); obtain ⟨qT, qL, qA, qD, qR, qQ⟩ := hSw; clear qT qL qA qD qR qQ; simp only [List.getElem_toArray, List.getElem_cons_zero, List.getElem_cons_succ]; go_simp; try with_reducible rfl)
  simp only [List.getElem_toArray, List.getElem_cons_zero, List.getElem_cons_succ]
  refine wpAnyH_take (i := 36) (oi := _) (v := ?v36_29) rfl (by kernel_rfl) (by kernel_rfl) (by kernel_rfl) (fun _ _ _ h => h) (Or.inl ⟨by first | kernel_rfl | rfl, ?hy36_29⟩) (by assumption) ?rest36_29
  case hy36_29 => (intro wq hSw; (try dsimp only at hSw); obtain ⟨qT, qL, qA, qD, qR, qQ⟩ := hSw; clear qT qL qA qD qR qQ; simp only [List.getElem_toArray, List.getElem_cons_zero, List.getElem_cons_succ]; go_simp; try with_reducible rfl)
  simp only [List.getElem_toArray, List.getElem_cons_zero, List.getElem_cons_succ]
  refine wpAnyH_take (i := 37) (oi := _) (v := ?v37_30) rfl (by kernel_rfl) (by kernel_rfl) (by kernel_rfl) (fun _ _ _ h => h) (Or.inl ⟨by first | kernel_rfl | rfl, ?hy37_30⟩) (by assumption) ?rest37_30
  case hy37_30 => (intro wq hSw; (try dsimp only at hSw); obtain ⟨qT, qL, qA, qD, qR, qQ⟩ := hSw; clear qT qL qA qD qR qQ; simp only [List.getElem_toArray, List.getElem_cons_zero, List.getElem_cons_succ]; go_simp; try with_reducible rfl)
  simp only [List.getElem_toArray, List.getElem_cons_zero, List.getElem_cons_succ]
  refine wpAnyH_done (by kernel_rfl) ?_ _
  go_wp2_with fail
  go_ret
  exact ⟨rfl, NT.out.below⟩
end Go.Proofs.YtgcknekhimpfkaaDoor
