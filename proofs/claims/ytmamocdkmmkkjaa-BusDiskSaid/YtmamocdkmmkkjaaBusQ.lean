/- The walk of BusDisk. -/
import Derived.Test.YtmamocdkmmkkjaaBusP
namespace Go.Proofs.Ytmamocdkmmkkjaa
open Go Go.RowKit Go.Lib Go.Proofs.Ytmamocdkmmkkjaa.Pl
set_option linter.unusedVariables false
set_option linter.unusedSimpArgs false
def dskX (M : Nat → Int) : BS := ⟨M, [], [], 0, 0, 0, 0, 16, fun _ => nought, []⟩
def dskC (M : Nat → Int) (s a : Int) : BS := { dskX M with se := s, ad := a }
theorem cmd_no {X : BS} (h : X.may = false) (n : Int) : X.cmd n = X.fail := by unfold BS.cmd; rw [h]; simp
theorem cmd_other {X : BS} {n : Int} (h1 : n ≠ 1) (h2 : n ≠ 2) : X.cmd n = X.fail := by unfold BS.cmd; rw [if_neg h1, if_neg h2]; simp
theorem may_no1 (M : Nat → Int) (s a : Int) (h : 16 ≤ s) : (dskC M s a).may = false := by
  have : ¬ s < 16 := by omega
  simp [BS.may, dskC, dskX, this]
theorem may_no2 (M : Nat → Int) (s a : Int) (h : ¬ a % 4 = 0) : (dskC M s a).may = false := by simp only [BS.may, dskC, h, decide_false, Bool.false_and]
theorem may_no3 (M : Nat → Int) (s a : Int) (h : ¬ a ≤ 1047552) : (dskC M s a).may = false := by simp only [BS.may, dskC, h, decide_false, Bool.false_and, Bool.and_false]
theorem may_yes (x : BS) (h1 : x.ad % 4 = 0) (h2 : x.ad ≤ 1047552) (h3 : x.se < x.N) : x.may = true := by simp only [BS.may, h1, h2, h3, decide_true, Bool.and_true]
/-- Behind a sector that was written. -/
def dskW (M : Nat → Int) (n P : Nat) : BS := { dskC M n P with fl := 0, sec := upd (fun _ => nought) n (ofBs (memBytes M P 1024)), ws := [(n, nought)] }
theorem cmd_write (M : Nat → Int) (n P : Nat) (hn : n < 16) (h4 : P % 4 = 0) (hP : P ≤ 1047552) : (dskC M n P).cmd 2 = dskW M n P := by
  unfold BS.cmd
  rw [may_yes _ (by simp only [dskC]; omega) (by simp only [dskC]; omega) (by simp only [dskC, dskX]; omega), if_pos rfl, if_neg (by decide), if_pos rfl, if_pos (by simp [dskC, dskX])]
  rfl
def dskR (M : Nat → Int) (n P Q : Nat) : BS := { dskW M n P with ad := Q, M := laidS M Q 1024 (ofBs (memBytes M P 1024)) }
theorem cmd_read (M : Nat → Int) (n P Q : Nat) (hn : n < 16) (h4 : Q % 4 = 0) (hQ : Q ≤ 1047552) : ({ dskW M n P with se := (n : Int), ad := (Q : Int) } : BS).cmd 1 = dskR M n P Q := by
  unfold BS.cmd
  rw [may_yes _ (by simp only; omega) (by simp only; omega) (by simp only [dskW, dskC, dskX]; omega), if_pos rfl, if_pos rfl]
  unfold dskR dskW
  simp only [Int.toNat_natCast, upd, if_true]
  rfl
theorem byte_mem (M : Nat → Int) (P k : Nat) (hk : k < 1024) (hb : 0 ≤ M (P + k) ∧ M (P + k) ≤ 255) : byteAt (ofBs (memBytes M P 1024)) k = M (P + k) := by
  unfold byteAt ofBs memBytes
  rw [List.getD_eq_getElem?_getD]
  simp only [List.getElem?_map, List.getElem?_range hk, Option.map_some, Option.getD_some]
  rw [u8Of_toNat]
  omega
theorem wbyte_bd' (y : Int) (j : Nat) : 0 ≤ wbyte y j ∧ wbyte y j ≤ 255 := wbyte_bd y j
theorem byte_stands {M : Nat → Int} {P i : Nat} {y : Int} (h : Stands M (P + 4 * i) y) (hi : i < 256) (j : Nat) (hj : j < 4) : byteAt (ofBs (memBytes M P 1024)) (4 * i + j) = wbyte y j := by
  have := h j hj
  rw [byte_mem M P (4 * i + j) (by omega) (by rw [show P + (4 * i + j) = P + 4 * i + j from by omega, this]; exact wbyte_bd y j), ← this]
  congr 1
  omega
theorem read_stands {M : Nat → Int} {P Q i : Nat} {y : Int} (h : Stands M (P + 4 * i) y) (hi : i < 256) : Stands (laidS M Q 1024 (ofBs (memBytes M P 1024))) (Q + 4 * i) y := fun j hj => by
  unfold laidS
  rw [if_pos (by omega), show Q + 4 * i + j - Q = 4 * i + j from by omega]
  exact byte_stands h hi j hj
theorem or4 (y : Int) (y0 : 0 ≤ y) (y1 : y < 4294967296) : bits .or .u32 (bits .or .u32 (bits .or .u32 (wbyte y 0) (wbyte y 1 * 256)) (wbyte y 2 * 65536)) (wbyte y 3 * 16777216) = y := by
  have h0 := wbyte_bd y 0
  have h1 := wbyte_bd y 1
  have h2 := wbyte_bd y 2
  have h3 := wbyte_bd y 3
  rw [or_join (wbyte y 0) (wbyte y 1 * 256) 8 (by omega) (by omega) (by simp; omega) (by omega) (by omega) (by simp),
    or_join (wbyte y 0 + wbyte y 1 * 256) (wbyte y 2 * 65536) 16 (by omega) (by omega) (by simp; omega) (by omega) (by omega) (by simp),
    or_join (wbyte y 0 + wbyte y 1 * 256 + wbyte y 2 * 65536) (wbyte y 3 * 16777216) 24 (by omega) (by omega) (by simp; omega) (by omega) (by omega) (by simp)]
  simp only [wbyte]
  omega
set_option maxRecDepth 20000 in
set_option maxHeartbeats 2000000 in
theorem bdisk_any' (A : Option Addr) (n c : Nat) (f : Nat → Int) (hn : n ≤ 140737488351232) (hnc : n ≤ c) (hf : ∀ i, 0 ≤ f i ∧ f i < 4294967296) (c1 c2 c3 c4 : Int) (h1 : -9223372036854775808 ≤ c1 ∧ c1 ≤ 9223372036854775807) (h2 : -9223372036854775808 ≤ c2 ∧ c2 ≤ 9223372036854775807)
    (h3 : -9223372036854775808 ≤ c3 ∧ c3 ≤ 9223372036854775807) (h4 : -9223372036854775808 ≤ c4 ∧ c4 ≤ 9223372036854775807) (w : World) (hr : RdI .u32 w A n f) :
    Calls Try.prog 4 #[.slice A n c, .int .i64 c1, .int .i64 c2, .int .i64 c3, .int .i64 c4] w fun e w' => e = .returned (.bool true) ∧ Below w.heap.size w w' := by
  have HF := Lib.hid hf
  have HR := Lib.hid hr
  have hp1 : ∀ W, Calls Try.prog 12 #[.int .i64 c1, .int .i64 16] W fun e w' => e = .returned (.int .i64 (pickV c1 16 : Nat)) ∧ W = w' := fun W => pick_any c1 16 (by decide) (by decide) h1.1 h1.2 W
  have hp2 : ∀ W, Calls Try.prog 12 #[.int .i64 c2, .int .i64 261889] W fun e w' => e = .returned (.int .i64 (pickV c2 261889 : Nat)) ∧ W = w' := fun W => pick_any c2 261889 (by decide) (by decide) h2.1 h2.2 W
  have hp3 : ∀ W, Calls Try.prog 12 #[.int .i64 c3, .int .i64 261889] W fun e w' => e = .returned (.int .i64 (pickV c3 261889 : Nat)) ∧ W = w' := fun W => pick_any c3 261889 (by decide) (by decide) h3.1 h3.2 W
  have hp4 : ∀ W, Calls Try.prog 12 #[.int .i64 c4, .int .i64 6] W fun e w' => e = .returned (.int .i64 (pickV c4 6 : Nat)) ∧ W = w' := fun W => pick_any c4 6 (by decide) (by decide) h4.1 h4.2 W
  have hq1 := pickV_lt c1 16 (by decide)
  have hq2 := pickV_lt c2 261889 (by decide)
  have hq3 := pickV_lt c3 261889 (by decide)
  have hq4 := pickV_lt c4 6 (by decide)
  generalize pickV c1 16 = S at hp1 hq1
  generalize pickV c2 261889 = X at hp2 hq2
  generalize pickV c3 261889 = Y at hp3 hq3
  generalize pickV c4 6 = V at hp4 hq4
  have HP1 := Lib.hid hp1
  have HP2 := Lib.hid hp2
  have HP3 := Lib.hid hp3
  have HP4 := Lib.hid hp4
  clear hf hr hp1 hp2 hp3 hp4 h1 h2 h3 h4
  go_enter Try.func4, Try.ntmps4
  go_upto_region 2 with (go_at_call 7; refine (bshown_any _).mono ?_; rintro e w1 ⟨rfl, hb1⟩; have HB1 := Lib.hid hb1; clear hb1)
  go_upto_region 3 with (go_at_call 8; refine (new_yes 16 _ (by decide) (by decide)).mono ?_; rintro e w2 ⟨d, s, rfl, D, hb2⟩; have hn0 := Lib.hid (Law.new none 0 0 (fun _ => 0) w w2 (HB1.out.trans (hb2.mono HB1.out.size)) w1.heap.size d s 16 (fun _ => nought) (by decide) (fun _ => by decide) (fun h => absurd h (by decide)) HB1.out.size D); clear D hb2)
  clear HB1
  go_upto_if 35 with fail
  go_cut [0] from 35 to 37 (fun s0 wx => ∃ m c' : Nat, s0 = .slice A m c' ∧ m ≤ 256 ∧ m ≤ n ∧ w2 = wx)
  case first =>
    by_cases hbig : n ≤ 256
    · have hT : decide ((256 : Int) < n) = false := decide_eq_false (by omega)
      go_wp2_with fail
      go_meet
      exact ⟨n, c, rfl, hbig, Nat.le_refl _, rfl⟩
    · have hT : decide ((256 : Int) < n) = true := decide_eq_true (by omega)
      have hr0 := HR.out (by omega)
      obtain ⟨bb, off, rfl, hlb, hc⟩ := hr0
      clear hc
      go_wp2_with fail
      go_meet
      exact ⟨256, c, rfl, by omega, by omega, rfl⟩
  case rest =>
  obtain ⟨m, c', rfl, hm, hmn, rfl⟩ := hcut
  go_upto_region 11 with (first | (go_at_call 9; refine hn0.out.mono ?_; rintro e w3 ⟨b, rfl, l0, hb3⟩; have L0 := Lib.hid (show Law w w3 b d (dskX (wordsM (fun _ => 0) 0)) [] from l0); clear l0 hb3) | (go_at_call 12; first | ((with_reducible refine (HP1.out _).mono ?_); rintro e w4 ⟨rfl, rfl⟩) | ((with_reducible refine (HP2.out _).mono ?_); rintro e w4 ⟨rfl, rfl⟩) | ((with_reducible refine (HP3.out _).mono ?_); rintro e w4 ⟨rfl, rfl⟩)))
  clear hn0 HP1 HP2 HP3
  have e1 : ((X : Int) * 4) = ((X * 4 : Nat) : Int) := by omega
  have e2 : ((Y : Int) * 4) = ((Y * 4 : Nat) : Int) := by omega
  have hx1 : X * 4 ≤ 1047552 := by omega
  have hx2 : X * 4 % 4 = 0 := by omega
  have hy1 : Y * 4 ≤ 1047552 := by omega
  have hy2 : Y * 4 % 4 = 0 := by omega
  rw [e1, e2]
  clear e1 e2 hq2 hq3
  generalize X * 4 = P at hx1 hx2 ⊢
  generalize Y * 4 = Q at hy1 hy2 ⊢
  have HX2 := Lib.hid hx2
  have HY2 := Lib.hid hy2
  clear hx2 hy2
  go_wp2_with fail
  go_loopw [19] (fun i wr => ∃ k : Nat, k ≤ m ∧ i = .int .i64 k ∧ Hid (∃ M, Law w wr b d (dskX M) [] ∧ ∀ j, j < k → Stands M (P + 4 * j) (f j))) (fun i _ => m - (intOf i).toNat)
  case atStart => exact ⟨0, by omega, rfl, ⟨_, L0.out, fun j hj => absurd hj (by omega)⟩⟩
  case round =>
    obtain ⟨k, hk, rfl, HL⟩ := hrel
    obtain ⟨M, l, hst⟩ := HL.out
    have L := Lib.hid l
    have HST := Lib.hid hst
    clear l hst HL
    by_cases hkn : k < m
    · obtain ⟨bb, off, rfl, hlb, hc⟩ := HR.out (by omega)
      have hck := (L.out.below.cell (p := ⟨bb, off + k, none⟩) hlb).trans (hc k (by omega))
      have hF := HF.out k
      obtain ⟨hF0, hF1⟩ := hF
      clear hc
      go_wp2_with (go_at_call 13; refine (L.out.poke_yes ((P : Int) + 4 * (k : Int)) (f k) (by omega) (by omega) (by have := HX2.out; omega) hF0 hF1).mono ?_; rintro e w5 ⟨rfl, l2, -⟩; have L2 := Lib.hid l2; clear l2)
      go_roundw
      case rel =>
        have hto : ((P : Int) + 4 * (k : Int)).toNat = P + 4 * k := by omega
        refine ⟨k + 1, by omega, by go_num, ⟨_, L2.out, fun j hj => ?_⟩⟩
        rw [hto]
        rcases Nat.lt_or_ge j k with g | g
        · exact (HST.out j g).far (P + 4 * k) (f k) (by have := HX2.out; omega) (by have := HX2.out; omega) (by omega)
        · obtain rfl : j = k := by omega
          exact stands_laid _ _ _
      case measure => simp [intOf]; omega
    · obtain rfl : k = m := by omega
      clear hkn
      go_upto_region 16 with (go_at_call 12; refine (HP4.out _).mono ?_; rintro e w4 ⟨rfl, rfl⟩)
      have hV : V = 1 ∨ V = 2 ∨ V = 3 ∨ V = 4 ∨ V = 5 ∨ V = 0 := by omega
      have hP4 := HX2.out
      have HN1 := Lib.hid (fun s a n (h : (dskC M s a).may = false) => cmd_no h n)
      have hw16 : ((S : Int) + 16) % 4294967296 = (S : Int) + 16 := by omega
      rcases hV with rfl | rfl | rfl | rfl | rfl | rfl
      · have HC := Lib.hid (fun (W : World) (L : Law w W b d (dskX M) []) => L.command 2 ((S : Int) + 16) P (by decide) (by decide) (by omega) (by omega) (by omega) (by omega) (show (dskC M ((S : Int) + 16) P).cmd 2 = _ from cmd_no (may_no1 M _ _ (by omega)) 2) (show _ = (1 : Int) from rfl) (r := false) rfl)
        go_wp2_with (first | (go_at_call 14; refine (HC.out _ L.out).mono ?_; rintro e w5 ⟨rfl, l3⟩; have L3 := Lib.hid l3; clear l3) | (go_at_call 15; refine (L3.out.writes (z := 0) rfl).mono ?_; rintro e w6 ⟨aa, cc, rfl, l4, -⟩; have L4 := Lib.hid l4; clear l4))
        go_ret
        exact ⟨rfl, L4.out.below⟩
      · have HC := Lib.hid (fun (W : World) (L : Law w W b d (dskX M) []) => L.command 2 S ((P : Int) + 1) (by decide) (by decide) (by omega) (by omega) (by omega) (by omega) (show (dskC M S ((P : Int) + 1)).cmd 2 = _ from cmd_no (may_no2 M _ _ (by omega)) 2) (show _ = (1 : Int) from rfl) (r := false) rfl)
        go_wp2_with (first | (go_at_call 14; refine (HC.out _ L.out).mono ?_; rintro e w5 ⟨rfl, l3⟩; have L3 := Lib.hid l3; clear l3) | (go_at_call 15; refine (L3.out.writes (z := 0) rfl).mono ?_; rintro e w6 ⟨aa, cc, rfl, l4, -⟩; have L4 := Lib.hid l4; clear l4))
        go_ret
        exact ⟨rfl, L4.out.below⟩
      · have HC := Lib.hid (fun (W : World) (L : Law w W b d (dskX M) []) => L.command 2 S 1047556 (by decide) (by decide) (by omega) (by omega) (by omega) (by omega) (show (dskC M S 1047556).cmd 2 = _ from cmd_no (may_no3 M _ _ (by omega)) 2) (show _ = (1 : Int) from rfl) (r := false) rfl)
        go_wp2_with (first | (go_at_call 14; refine (HC.out _ L.out).mono ?_; rintro e w5 ⟨rfl, l3⟩; have L3 := Lib.hid l3; clear l3) | (go_at_call 15; refine (L3.out.writes (z := 0) rfl).mono ?_; rintro e w6 ⟨aa, cc, rfl, l4, -⟩; have L4 := Lib.hid l4; clear l4))
        go_ret
        exact ⟨rfl, L4.out.below⟩
      · have HC := Lib.hid (fun (W : World) (L : Law w W b d (dskX M) []) => L.command 3 S P (by decide) (by decide) (by omega) (by omega) (by omega) (by omega) (show (dskC M S P).cmd 3 = _ from cmd_other (by decide) (by decide)) (show _ = (1 : Int) from rfl) (r := false) rfl)
        go_wp2_with (first | (go_at_call 14; refine (HC.out _ L.out).mono ?_; rintro e w5 ⟨rfl, l3⟩; have L3 := Lib.hid l3; clear l3) | (go_at_call 15; refine (L3.out.writes (z := 0) rfl).mono ?_; rintro e w6 ⟨aa, cc, rfl, l4, -⟩; have L4 := Lib.hid l4; clear l4))
        go_ret
        exact ⟨rfl, L4.out.below⟩
      · have HC := Lib.hid (fun (W : World) (L : Law w W b d (dskX M) []) => L.command 1 4294967295 P (by decide) (by decide) (by omega) (by omega) (by omega) (by omega) (show (dskC M 4294967295 P).cmd 1 = _ from cmd_no (may_no1 M _ _ (by omega)) 1) (show _ = (1 : Int) from rfl) (r := false) rfl)
        go_wp2_with (first | (go_at_call 14; refine (HC.out _ L.out).mono ?_; rintro e w5 ⟨rfl, l3⟩; have L3 := Lib.hid l3; clear l3) | (go_at_call 15; refine (L3.out.writes (z := 0) rfl).mono ?_; rintro e w6 ⟨aa, cc, rfl, l4, -⟩; have L4 := Lib.hid l4; clear l4))
        go_ret
        exact ⟨rfl, L4.out.below⟩
      · have HC := Lib.hid (fun (W : World) (L : Law w W b d (dskX M) []) => L.command 2 S P (by decide) (by decide) (by omega) (by omega) (by omega) (by omega) (show (dskC M S P).cmd 2 = _ from cmd_write M S P hq1 hP4 hx1) (show _ = (0 : Int) from rfl) (r := true) rfl)
        have HC2 := Lib.hid (fun (W : World) (L : Law w W b d (dskW M S P) []) => L.command 1 S Q (by decide) (by decide) (by omega) (by omega) (by omega) (by omega) (show ({ dskW M S P with se := (S : Int), ad := (Q : Int) } : BS).cmd 1 = _ from cmd_read M S P Q hq1 HY2.out hy1) (show _ = (0 : Int) from rfl) (r := true) rfl)
        go_upto_region 31 with (first | (go_at_call 14; first | (refine (HC2.out _ L3.out).mono ?_; rintro e w6 ⟨rfl, l4⟩; have L4 := Lib.hid l4; clear l4) | (refine (HC.out _ L.out).mono ?_; rintro e w5 ⟨rfl, l3⟩; have L3 := Lib.hid l3; clear l3)) | (go_at_call 16; refine (L4.out.read S hq1).mono ?_; rintro e w7 ⟨g, rfl, l5, hgl, hgw, hgc⟩; have L5 := Lib.hid l5; have HGC := Lib.hid hgc; clear l5 hgc) | (go_at_call 15; refine (L5.out.writes (z := 1) rfl).mono ?_; rintro e w8 ⟨aa, cc, rfl, l6, hb8⟩; have L6 := Lib.hid l6; have HB8 := Lib.hid hb8; clear l6 hb8))
        have L7 := Lib.hid (show Law w w8 b d (dskR M S P Q) [] from L6.out)
        have HG8 : Hid (∀ i, i < 1024 → w8.cell? ⟨g, i, none⟩ = some (.int .u8 (byteAt (ofBs (memBytes M P 1024)) i))) := Lib.hid (fun i hi => by
          have := (HB8.out.cell (p := ⟨g, i, none⟩) hgl).trans (HGC.out i hi)
          simpa [dskR, dskW, upd] using this)
        clear L L3 L4 L5 L6 HC HC2 HGC HB8 HP4
        go_wp2_with fail
        go_loopw [24] (fun i wr => ∃ j : Nat, j ≤ k ∧ i = .int .i64 j ∧ Hid (Law w wr b d (dskR M S P Q) []) ∧ Hid (∀ i, i < 1024 → wr.cell? ⟨g, i, none⟩ = some (.int .u8 (byteAt (ofBs (memBytes M P 1024)) i)))) (fun i _ => k - (intOf i).toNat)
        case atStart => exact ⟨0, by omega, rfl, L7, HG8⟩
        case round =>
          obtain ⟨j, hj, rfl, HL, HG⟩ := hrel
          obtain ⟨wi, rfl⟩ : ∃ wi : World, wi = wr := ⟨_, rfl⟩
          by_cases hjk : j < k
          · obtain ⟨bb, off, rfl, hlb, hc⟩ := HR.out (by omega)
            have hck := (HL.out.below.cell (p := ⟨bb, off + j, none⟩) hlb).trans (hc j (by omega))
            obtain ⟨hF0, hF1⟩ := HF.out j
            have hstj := HST.out j hjk
            have hgv : getV (dskR M S P Q).M ((Q : Int) + 4 * (j : Int)).toNat = f j := by
              rw [show ((Q : Int) + 4 * (j : Int)).toNat = Q + 4 * j from by omega]
              exact (read_stands hstj (by omega)).get hF0 hF1
            have HGV := Lib.hid hgv
            have k0 := HG.out (4 * j + 0) (by omega)
            have k1 := HG.out (4 * j + 1) (by omega)
            have k2 := HG.out (4 * j + 2) (by omega)
            have k3 := HG.out (4 * j + 3) (by omega)
            rw [byte_stands hstj (by omega) _ (by decide)] at k0 k1 k2 k3
            rw [Nat.add_zero] at k0
            clear hc hstj hgv
            generalize hFj : f j = F at *
            have b0 := wbyte_bd F 0
            have b1 := wbyte_bd F 1
            have b2 := wbyte_bd F 2
            have b3 := wbyte_bd F 3
            have hor := or4 F hF0 hF1
            have HOR := Lib.hid hor
            clear hor hFj
            go_upto_region 35 with (go_at_call 11; refine (HL.out.word_yes ((Q : Int) + 4 * (j : Int)) (by omega) (by omega) (by have := HY2.out; omega)).mono ?_; rintro e w9 ⟨rfl, rfl⟩; rw [HGV.out])
            have i0 : IntKind.i64.wrap (4 * (j : Int)) = 4 * (j : Int) := IntWalk.i64_in _ (by omega)
            have i1 : IntKind.i64.wrap (4 * (j : Int) + 1) = 4 * (j : Int) + 1 := IntWalk.i64_in _ (by omega)
            have i2 : IntKind.i64.wrap (4 * (j : Int) + 2) = 4 * (j : Int) + 2 := IntWalk.i64_in _ (by omega)
            have i3 : IntKind.i64.wrap (4 * (j : Int) + 3) = 4 * (j : Int) + 3 := IntWalk.i64_in _ (by omega)
            have n0 : (4 * (j : Int)).toNat = 4 * j := by omega
            have n1 : (4 * (j : Int) + 1).toNat = 4 * j + 1 := by omega
            have n2 : (4 * (j : Int) + 2).toNat = 4 * j + 2 := by omega
            have n3 : (4 * (j : Int) + 3).toNat = 4 * j + 3 := by omega
            have p0 : (4 * (j : Int)) < 1024 := by omega
            have p1 : (4 * (j : Int) + 1) < 1024 := by omega
            have p2 : (4 * (j : Int) + 2) < 1024 := by omega
            have p3 : (4 * (j : Int) + 3) < 1024 := by omega
            have m0 : (0 : Int) ≤ 4 * (j : Int) := by omega
            have m1 : (0 : Int) ≤ 4 * (j : Int) + 1 := by omega
            have m2 : (0 : Int) ≤ 4 * (j : Int) + 2 := by omega
            have m3 : (0 : Int) ≤ 4 * (j : Int) + 3 := by omega
            generalize wbyte F 0 = x0 at *
            generalize wbyte F 1 = x1 at *
            generalize wbyte F 2 = x2 at *
            generalize wbyte F 3 = x3 at *
            go_cut [27] from 188 to 251 (fun s27 wx => s27 = .int .u32 F ∧ ∃ nq, wx = wi.drewN nq)
            case first =>
              go_quiet (fail)
              go_wp2_with fail
              go_meet
              exact ⟨by rw [HOR.out], _, rfl⟩
            case rest =>
            obtain ⟨rfl, nq, rfl⟩ := hcut
            have hck2 : (wi.drewN nq).cell? ⟨bb, off + j, none⟩ = some (.int .u32 F) := by rw [World.cell?_drewN]; exact hck
            clear i0 i1 i2 i3 n0 n1 n2 n3 p0 p1 p2 p3 m0 m1 m2 m3 k0 k1 k2 k3 hck
            go_wp2_with fail
            go_roundw
            case rel => exact ⟨j + 1, by omega, by go_num, Lib.hid (HL.out.drew _), Lib.hid fun i hi => by rw [World.cell?_drewN]; exact HG.out i hi⟩
            case measure => simp [intOf]; omega
          · obtain rfl : j = k := by omega
            go_wp2_with fail
            go_ret
            exact ⟨rfl, HL.out.below⟩
def busDiskAts : List Gen.AT := [.one (.slice 4 [.int .u32]), .one (.int .i64), .one (.int .i64), .one (.int .i64), .one (.int .i64)]
theorem busDisk_args (W : World) (vs : List Value) (h : Gen.ArgsGood W busDiskAts vs) :
    Calls Try.prog 4 vs.toArray W fun e W' => e = .returned (.bool true) ∧ Below W.heap.size W W' := by
  match vs, h with
  | [v0, v1, v2, v3, v4], h =>
    obtain ⟨h0, h1, h2, h3, h4, _⟩ := h
    obtain ⟨A, n, c, V, rfl, hl, _, hb, hr⟩ := h0.slice_inv
    obtain ⟨f, hf1, hf2, hf3⟩ := Gen.rows_int hr
    obtain ⟨c1, rfl, w1⟩ := h1.int_inv
    obtain ⟨c2, rfl, w2⟩ := h2.int_inv
    obtain ⟨c3, rfl, w3⟩ := h3.int_inv
    obtain ⟨c4, rfl, w4⟩ := h4.int_inv
    unfold reachBytes at hb
    refine bdisk_any' A n c f (by omega) hl (fun i => ?_) c1 c2 c3 c4 (by have := bounds_i64 w1; omega) (by have := bounds_i64 w2; omega) (by have := bounds_i64 w3; omega) (by have := bounds_i64 w4; omega) W (fun hn => ?_)
    · rcases Nat.lt_or_ge i c with g | g
      · have := bounds_u32 (hf2 i g); omega
      · rw [hf3 i g]; omega
    · obtain ⟨b, off, hA, hlt, hc⟩ := hf1 (by omega)
      exact ⟨b, off, hA, hlt, fun i hi => hc i (by omega)⟩
end Go.Proofs.Ytmamocdkmmkkjaa
