/- Any access. -/
import Derived.Test.YtgcknekhimpfkaaGreatDoorBusJ
namespace Go.Proofs.YtgcknekhimpfkaaGreatDoor
open Go Go.RowKit Go.Lib Go.Proofs.YtgcknekhimpfkaaGreatDoor.Pl
open List renaming getElem?_toArray → lD, getElem?_cons_zero → lE, getElem?_cons_succ → lF
set_option maxHeartbeats 1000000
set_option linter.unusedVariables false
set_option linter.unusedSimpArgs false
section
variable {w : World} {base : Nat} {v : BV} {x : BS}
set_option maxRecDepth 20000 in
theorem bdo_xlb (B : BusAt w base v x) (a y : Int) (a0 : 0 ≤ a) (a1 : a < 4294967296) (y0 : 0 ≤ y) (y1 : y < 4294967296) (hm : decide (a < 1048576) = false) :
 Calls Tryz.prog 37 #[.pointer (some ⟨v.b, 0, none⟩), .agg #[.int .i64 2, .int .u32 a, .int .u32 y]] w fun e w' => e = .returned (.tuple #[.int .u32 0, .int .i64 1]) ∧ ∃ v', BusAt w' base v' x ∧ Moves w w' v v' := by
 have hmf := hmf_all
 go_enter Tryz.func37, Tryz.ntmps37
 go_upto_region 1 with fail
 have k0 := Blk.new w #[.int .i64 2, .int .u32 a, .int .u32 y] 96
 have kb : Below w.heap.size w (w.alloc (.cells #[.int .i64 2, .int .u32 a, .int .u32 y] 96)) := (Below.refl _ _).alloc (Nat.le_refl _) _
 have kl : w.heap.size < (w.alloc (.cells #[.int .i64 2, .int .u32 a, .int .u32 y] 96)).heap.size := by simp
 have B1 := B.below kb
 generalize w.alloc (.cells #[.int .i64 2, .int .u32 a, .int .u32 y] 96) = W at k0 kb kl B1 ⊢
 have e0 := k0.cell 0
 have e1 := k0.cell 1
 have e2 := k0.cell 2
 simp only [lD, lE, lF] at e0 e1 e2
 have KB := hid kb
 have K0 := hid k0
 have HB1 := hid B1
 clear kb k0 B1
 go_wp2_with fail
 go_ret2
 exact ⟨rfl, v, B.moves KB.out⟩
set_option maxRecDepth 20000 in
theorem bdo_xsb (B : BusAt w base v x) (a y : Int) (a0 : 0 ≤ a) (a1 : a < 4294967296) (y0 : 0 ≤ y) (y1 : y < 4294967296) (hm : decide (a < 1048576) = false) :
 Calls Tryz.prog 37 #[.pointer (some ⟨v.b, 0, none⟩), .agg #[.int .i64 4, .int .u32 a, .int .u32 y]] w fun e w' => e = .returned (.tuple #[.int .u32 0, .int .i64 1]) ∧ ∃ v', BusAt w' base v' x ∧ Moves w w' v v' := by
 have hmf := hmf_all
 go_enter Tryz.func37, Tryz.ntmps37
 go_upto_region 1 with fail
 have k0 := Blk.new w #[.int .i64 4, .int .u32 a, .int .u32 y] 96
 have kb : Below w.heap.size w (w.alloc (.cells #[.int .i64 4, .int .u32 a, .int .u32 y] 96)) := (Below.refl _ _).alloc (Nat.le_refl _) _
 have kl : w.heap.size < (w.alloc (.cells #[.int .i64 4, .int .u32 a, .int .u32 y] 96)).heap.size := by simp
 have B1 := B.below kb
 generalize w.alloc (.cells #[.int .i64 4, .int .u32 a, .int .u32 y] 96) = W at k0 kb kl B1 ⊢
 have e0 := k0.cell 0
 have e1 := k0.cell 1
 have e2 := k0.cell 2
 simp only [lD, lE, lF] at e0 e1 e2
 have KB := hid kb
 have K0 := hid k0
 have HB1 := hid B1
 clear kb k0 B1
 go_wp2_with fail
 go_ret2
 exact ⟨rfl, v, B.moves KB.out⟩
set_option maxRecDepth 20000 in
theorem bdo_xk (B : BusAt w base v x) (k : Int) (a y : Int) (a0 : 0 ≤ a) (a1 : a < 4294967296) (y0 : 0 ≤ y) (y1 : y < 4294967296) (h0 : (k == 0) = false) (h1 : (k == 1) = false) (h2 : (k == 2) = false) (h3 : (k == 3) = false) (h4 : (k == 4) = false) (hm : a < 1048576) :
 Calls Tryz.prog 37 #[.pointer (some ⟨v.b, 0, none⟩), .agg #[.int .i64 k, .int .u32 a, .int .u32 y]] w fun e w' => e = .returned (.tuple #[.int .u32 0, .int .i64 1]) ∧ ∃ v', BusAt w' base v' x ∧ Moves w w' v v' := by
 have hmf := hmf_all
 go_enter Tryz.func37, Tryz.ntmps37
 go_upto_region 1 with fail
 have k0 := Blk.new w #[.int .i64 k, .int .u32 a, .int .u32 y] 96
 have kb : Below w.heap.size w (w.alloc (.cells #[.int .i64 k, .int .u32 a, .int .u32 y] 96)) := (Below.refl _ _).alloc (Nat.le_refl _) _
 have kl : w.heap.size < (w.alloc (.cells #[.int .i64 k, .int .u32 a, .int .u32 y] 96)).heap.size := by simp
 have B1 := B.below kb
 generalize w.alloc (.cells #[.int .i64 k, .int .u32 a, .int .u32 y] 96) = W at k0 kb kl B1 ⊢
 have e0 := k0.cell 0
 have e1 := k0.cell 1
 have e2 := k0.cell 2
 simp only [lD, lE, lF] at e0 e1 e2
 have KB := hid kb
 have K0 := hid k0
 have HB1 := hid B1
 clear kb k0 B1
 go_wp2_with fail
 go_ret2
 exact ⟨rfl, v, B.moves KB.out⟩
set_option maxRecDepth 20000 in
theorem bdo_yk (B : BusAt w base v x) (k : Int) (a y : Int) (a0 : 0 ≤ a) (a1 : a < 4294967296) (y0 : 0 ≤ y) (y1 : y < 4294967296) (h0 : (k == 0) = false) (h1 : (k == 1) = false) (h2 : (k == 2) = false) (h3 : (k == 3) = false) (h4 : (k == 4) = false) (hm : decide (a < 1048576) = false) :
 Calls Tryz.prog 37 #[.pointer (some ⟨v.b, 0, none⟩), .agg #[.int .i64 k, .int .u32 a, .int .u32 y]] w fun e w' => e = .returned (.tuple #[.int .u32 0, .int .i64 1]) ∧ ∃ v', BusAt w' base v' x ∧ Moves w w' v v' := by
 have hmf := hmf_all
 go_enter Tryz.func37, Tryz.ntmps37
 go_upto_region 1 with fail
 have k0 := Blk.new w #[.int .i64 k, .int .u32 a, .int .u32 y] 96
 have kb : Below w.heap.size w (w.alloc (.cells #[.int .i64 k, .int .u32 a, .int .u32 y] 96)) := (Below.refl _ _).alloc (Nat.le_refl _) _
 have kl : w.heap.size < (w.alloc (.cells #[.int .i64 k, .int .u32 a, .int .u32 y] 96)).heap.size := by simp
 have B1 := B.below kb
 generalize w.alloc (.cells #[.int .i64 k, .int .u32 a, .int .u32 y] 96) = W at k0 kb kl B1 ⊢
 have e0 := k0.cell 0
 have e1 := k0.cell 1
 have e2 := k0.cell 2
 simp only [lD, lE, lF] at e0 e1 e2
 have KB := hid kb
 have K0 := hid k0
 have HB1 := hid B1
 clear kb k0 B1
 go_wp2_with fail
 go_ret2
 exact ⟨rfl, v, B.moves KB.out⟩
theorem bdo_any (B : BusAt w base v x) (k a y : Int) (a0 : 0 ≤ a) (a1 : a < 4294967296) (y0 : 0 ≤ y) (y1 : y < 4294967296) :
 Calls Tryz.prog 37 #[.pointer (some ⟨v.b, 0, none⟩), .agg #[.int .i64 k, .int .u32 a, .int .u32 y]] w fun e w' => e = .returned (.tuple #[.int .u32 (x.act k a y).1, .int .i64 (x.act k a y).2.1]) ∧ ∃ v', BusAt w' base v' (x.act k a y).2.2 ∧ Moves w w' v v' := by
 by_cases k0 : k = 0
 ·subst k0; exact bdo_no B a y a0 a1 y0 y1
 by_cases ha : a < 1048576
 ·by_cases k2 : k = 2
  ·subst k2; have := bdo_lb B a y a0 a1 y0 y1 ha; unfold BS.act; rw [if_neg (by omega), if_pos ⟨rfl, ha⟩]; exact this
  by_cases k4 : k = 4
  ·subst k4; have := bdo_sb B a y a0 a1 y0 y1 ha; unfold BS.act; rw [if_neg (by omega), if_neg (by omega), if_pos ⟨rfl, ha⟩]; exact this
  by_cases k1 : k = 1
  ·subst k1
   by_cases h4 : a % 4 = 0
   ·have := bdo_lwyes B a y a0 a1 y0 y1 ha h4; unfold BS.act; rw [if_neg (by omega), if_neg (by omega), if_neg (by omega), if_pos ⟨rfl, ha⟩, if_pos h4]; exact this
   ·have := bdo_lwno B a y a0 a1 y0 y1 ha h4; unfold BS.act; rw [if_neg (by omega), if_neg (by omega), if_neg (by omega), if_pos ⟨rfl, ha⟩, if_neg h4]; exact this
  by_cases k3 : k = 3
  ·subst k3
   by_cases h4 : a % 4 = 0
   ·have := bdo_swyes B a y a0 a1 y0 y1 ha h4; unfold BS.act; rw [if_neg (by omega), if_neg (by omega), if_neg (by omega), if_neg (by omega), if_pos ⟨rfl, ha⟩, if_pos h4]; exact this
   ·have := bdo_swno B a y a0 a1 y0 y1 ha h4; unfold BS.act; rw [if_neg (by omega), if_neg (by omega), if_neg (by omega), if_neg (by omega), if_pos ⟨rfl, ha⟩, if_neg h4]; exact this
  have := bdo_xk B k a y a0 a1 y0 y1 (beq_eq_false_iff_ne.2 k0) (beq_eq_false_iff_ne.2 k1) (beq_eq_false_iff_ne.2 k2) (beq_eq_false_iff_ne.2 k3) (beq_eq_false_iff_ne.2 k4) ha
  unfold BS.act
  rw [if_neg k0, if_neg (by omega), if_neg (by omega), if_neg (by omega), if_neg (by omega), if_neg k1, if_neg k3]
  exact this
 ·by_cases k2 : k = 2
  ·subst k2; have := bdo_xlb B a y a0 a1 y0 y1 (decide_eq_false ha); unfold BS.act; rw [if_neg (by omega), if_neg (by omega), if_neg (by omega), if_neg (by omega), if_neg (by omega), if_neg (by omega), if_neg (by omega)]; exact this
  by_cases k4 : k = 4
  ·subst k4; have := bdo_xsb B a y a0 a1 y0 y1 (decide_eq_false ha); unfold BS.act; rw [if_neg (by omega), if_neg (by omega), if_neg (by omega), if_neg (by omega), if_neg (by omega), if_neg (by omega), if_neg (by omega)]; exact this
  by_cases k1 : k = 1
  ·subst k1; have := bload_any B a y a0 a1 y0 y1 ha; unfold BS.act; rw [if_neg (by omega), if_neg (by omega), if_neg (by omega), if_neg (by omega), if_neg (by omega), if_pos rfl]; exact this
  by_cases k3 : k = 3
  ·subst k3; have := bstore_any B a y a0 a1 y0 y1 ha; unfold BS.act; rw [if_neg (by omega), if_neg (by omega), if_neg (by omega), if_neg (by omega), if_neg (by omega), if_neg (by omega), if_pos rfl]; exact this
  have := bdo_yk B k a y a0 a1 y0 y1 (beq_eq_false_iff_ne.2 k0) (beq_eq_false_iff_ne.2 k1) (beq_eq_false_iff_ne.2 k2) (beq_eq_false_iff_ne.2 k3) (beq_eq_false_iff_ne.2 k4) (decide_eq_false ha)
  unfold BS.act
  rw [if_neg k0, if_neg (by omega), if_neg (by omega), if_neg (by omega), if_neg (by omega), if_neg k1, if_neg k3]
  exact this
end
/-! New. -/
def wordsM (f : Nat → Int) (n : Nat) (i : Nat) : Int := if i < 4 * n then wbyte (f (i / 4)) (i % 4) else 0
theorem wordsM_bd (f : Nat → Int) (n i : Nat) : 0 ≤ wordsM f n i ∧ wordsM f n i ≤ 255 := by
 unfold wordsM
 split
 ·exact wbyte_bd _ _
 ·omega
theorem wordsM_zero (f : Nat → Int) : wordsM f 0 = fun _ => 0 := by funext i; unfold wordsM; rw [if_neg (by omega)]
theorem wordsM_succ (f : Nat → Int) (n : Nat) : laid4 (wordsM f n) (4 * n) (f n) = wordsM f (n + 1) := by
 funext j
 unfold laid4 wordsM
 by_cases h : 4 * n ≤ j ∧ j < 4 * n + 4
 ·rw [if_pos h, if_pos (by omega), show j / 4 = n from by omega, show j - 4 * n = j % 4 from by omega]
 ·rw [if_neg h]
  by_cases h2 : j < 4 * n
  ·rw [if_pos h2, if_pos (by omega)]
  ·rw [if_neg h2, if_neg (by omega)]
set_option maxRecDepth 20000 in
theorem bnew_yes (A : Option Addr) (n c : Nat) (f : Nat → Int) (w : World) (base d s : Nat) (vw : Value) (N : Nat) (sec : Nat → ByteArray) (ws : List (Nat × ByteArray)) (hn : n ≤ 262144) (hf : ∀ i, 0 ≤ f i ∧ f i < 4294967296) (hr : RdI .u32 w A n f) (D : DiskAt w base d s vw N sec ws) :
 Calls Tryz.prog 31 #[.slice A n c, .pointer (some ⟨d, 0, none⟩)] w fun e w' => ∃ b m, e = .returned (.tuple #[.pointer (some ⟨b, 0, none⟩), .int .i64 0]) ∧ BusAt w' base ⟨b, m, d, s, .slice none 0 0, .slice none 0 0, vw⟩ ⟨wordsM f n, [], [], 0, 0, 0, 0, N, sec, ws⟩ ∧ Below w.heap.size w w' ∧ w.heap.size ≤ b ∧ w.heap.size ≤ m := by
 obtain ⟨i0, hi, hz0, hz1, hz2⟩ := u8_info
 obtain ⟨k0, hk⟩ : ∃ k : Nat, (k : Int) = 1048576 := ⟨1048576, rfl⟩
 have HK := hid hk
 clear hk
 have HF := hid hf
 have HR := hid hr
 have HD := hid D
 have HN := hid hn
 have hn2 : decide ((262144 : Int) < n) = false := decide_eq_false (by omega)
 clear hf hr D hn
 go_enter Tryz.func31, Tryz.ntmps31
 go_upto_region 5 with fail
 go_wp2_with (at_make; refine wpList_make_full _ rfl _ _ 69 rfl w.heap.size 5 i0 _ 1 Tryz.underlying69 hi hz0 hz1 .i64 .i64 1048576 1048576 k0 rfl rfl ?m1 ?m2 ?m3 ?m4 (Nat.le_refl _) ?_)
 case m1 => have := HK.out; omega
 case m2 => have := HK.out; omega
 case m3 => have := HK.out; rw [hz2]; omega
 case m4 => have := HK.out; unfold maxLen; omega
 intro w1 hown hgrow
 have hblk := made_own hown
 have hO : OwnI .u8 w1 w.heap.size k0 5 (fun _ => 0) := ⟨_, hblk, by rw [Array.toArray_toList, size_madeCells], fun i hi => by rw [Array.toArray_toList]; have h9 := made_u8 k0 i hi; rw [Nat.mul_one] at h9; exact h9⟩
 have hb1 : Below w.heap.size w w1 := (Below.refl w.heap.size w).grown hgrow (Nat.le_refl _) (fun _ h => by cases h)
 have hlt : w.heap.size < w1.heap.size := hO.lt
 obtain rfl : k0 = 1048576 := by have := HK.out; omega
 clear hown hgrow hblk HK hi hz0 hz1 hz2
 have HO := hid hO
 have HB := hid hb1
 clear hO hb1
 go_upto_region 7 with fail
 have hB2 : Below w.heap.size w (w1.alloc (.cells #[.slice (some ⟨w.heap.size, 0, none⟩) 1048576 1048576, .pointer (some ⟨d, 0, none⟩), .slice none 0 0, .slice none 0 0, .int .u32 0, .int .u32 0, .int .u32 0, .int .u32 0] 114)) := HB.out.alloc HB.out.size _
 have hz : Below w1.heap.size w1 (w1.alloc (.cells #[.slice (some ⟨w.heap.size, 0, none⟩) 1048576 1048576, .pointer (some ⟨d, 0, none⟩), .slice none 0 0, .slice none 0 0, .int .u32 0, .int .u32 0, .int .u32 0, .int .u32 0] 114)) := (Below.refl _ _).alloc (Nat.le_refl _) _
 have hd0 := HD.out.dlt
 have hs0 := HD.out.slt
 have hv0 := HD.out.vlt
 have hbase : base ≤ w.heap.size := Nat.le_trans HD.out.bd (Nat.le_of_lt hd0)
 have hnd : Apart ⟨w1.heap.size, w.heap.size, d, s, .slice none 0 0, .slice none 0 0, vw⟩ :=
  { bm := by simp only; omega
    bd := by simp only; omega
    bs := by simp only; omega
    md := by simp only; omega
    ms := by simp only; omega
    ds := HD.out.ds
    ib := fun g h => by cases h
    ob := fun g h => by cases h
    wb := fun g h => ⟨by have := (hv0 g h).1; simp only; omega, by have := (hv0 g h).1; simp only; omega, fun e => HD.out.vd ((show g = d from e) ▸ h), fun e => HD.out.vs ((show g = s from e) ▸ h)⟩
    io := fun g h => by cases h
    iw := fun g h => by cases h
    ow := fun g h => by cases h }
 have hBus : BusAt (w1.alloc (.cells #[.slice (some ⟨w.heap.size, 0, none⟩) 1048576 1048576, .pointer (some ⟨d, 0, none⟩), .slice none 0 0, .slice none 0 0, .int .u32 0, .int .u32 0, .int .u32 0, .int .u32 0] 114)) base ⟨w1.heap.size, w.heap.size, d, s, .slice none 0 0, .slice none 0 0, vw⟩ ⟨wordsM f 0, [], [], 0, 0, 0, 0, N, sec, ws⟩ :=
  { row := Blk.new w1 _ _
    mem := by rw [wordsM_zero]; exact HO.out.below hz hlt
    mb := fun i => wordsM_bd f 0 i
    inn := .inl ⟨rfl, rfl⟩
    out := ⟨rfl, .inl ⟨rfl, rfl⟩⟩
    ql := Nat.zero_le _
    ol := Nat.zero_le _
    tkb := ⟨by simp only; omega, by simp only; omega⟩
    seb := ⟨by simp only; omega, by simp only; omega⟩
    adb := ⟨by simp only; omega, by simp only; omega⟩
    flb := ⟨by simp only; omega, by simp only; omega⟩
    disk := HD.out.below (hB2)
    nd := (apart_iff _).2 hnd
    lo := ⟨by simp only; omega, hbase⟩ }
 have HBUS := hid hBus
 have HB2 := hid hB2
 clear hBus hB2 hz hnd hv0 HO HB
 generalize w1.alloc (.cells #[.slice (some ⟨w.heap.size, 0, none⟩) 1048576 1048576, .pointer (some ⟨d, 0, none⟩), .slice none 0 0, .slice none 0 0, .int .u32 0, .int .u32 0, .int .u32 0, .int .u32 0] 114) = W at HBUS HB2 ⊢
 go_loopw [22] (fun i wr => ∃ k : Nat, k ≤ n ∧ i = .int .i64 k ∧ Hid (Below w.heap.size w wr) ∧ Hid (BusAt wr base ⟨w1.heap.size, w.heap.size, d, s, .slice none 0 0, .slice none 0 0, vw⟩ ⟨wordsM f k, [], [], 0, 0, 0, 0, N, sec, ws⟩)) (fun i _ => n - (intOf i).toNat)
 case atStart => exact ⟨0, by omega, rfl, HB2, HBUS⟩
 case round =>
  obtain ⟨k, hk, rfl, HBw, HBu⟩ := hrel
  by_cases hkn : k < n
  ·obtain ⟨b, off, rfl, hlb, hc⟩ := HR.out (by omega)
   have hck := (HBw.out.cell (p := ⟨b, off + k, none⟩) hlb).trans (hc k hkn)
   have c0 := HBu.out.cells.1
   simp only at c0
   have hp := put_any w.heap.size 0 1048576 1048576 1048576 5 (wordsM f k) (4 * (k : Int)) (f k) wr (by decide) (HF.out k).1 (HF.out k).2 HBu.out.mem (by decide)
   rw [show getOk 1048576 (4 * (k : Int)) = true from getOk_yes (by omega) (by have := HN.out; omega), show putW wr w.heap.size 0 1048576 (4 * (k : Int)) (f k) = put4 wr w.heap.size (4 * k) (f k) from by unfold putW; rw [getOk_yes (by omega) (by have := HN.out; omega), if_pos rfl, Nat.zero_add]; congr 1] at hp
   have HP := hid hp
   have hB3 := HBu.out.poke (4 * k) (f k) (HF.out k).1 (HF.out k).2
   simp only [wordsM_succ] at hB3
   have HB3 := hid hB3
   have hw4 : IntKind.i64.wrap (4 * (k : Int)) = 4 * (k : Int) := IntWalk.i64_in _ (by have := HN.out; omega)
   have h0 := (HF.out k).1
   have h1 := (HF.out k).2
   clear hp hB3 hc
   have hkb : k ≤ 262144 := by have := HN.out; omega
   have hki : (k : Int) ≤ 262144 := by omega
   go_wp2_with (go_at_call 49; refine HP.out.mono ?_; rintro e w3 ⟨rfl, rfl⟩)
   go_roundw
   case rel => exact ⟨k + 1, by omega, by go_num, hid (HBw.out.trans (put4_below (Nat.le_refl _) _ _)), HB3⟩
   case measure => simp [intOf]; omega
  ·obtain rfl : k = n := by omega
   go_wp2_with fail
   go_ret2
   exact ⟨_, _, rfl, HBu.out, HBw.out, Nat.le_of_lt hlt, Nat.le_refl _⟩
end Go.Proofs.YtgcknekhimpfkaaGreatDoor
