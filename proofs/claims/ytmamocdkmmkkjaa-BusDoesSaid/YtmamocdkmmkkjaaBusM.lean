/- The walk of BusMemory. -/
import Derived.Test.YtmamocdkmmkkjaaBusL
import Derived.Test.YtmamocdkmmkkjaaGen
namespace Go.Proofs.Ytmamocdkmmkkjaa
open Go Go.RowKit Go.Lib Go.Proofs.Ytmamocdkmmkkjaa.Pl
set_option linter.unusedVariables false
set_option linter.unusedSimpArgs false
def memX (M : Nat → Int) : BS := ⟨M, [], [], 0, 0, 0, 0, 8, fun _ => nought, []⟩
theorem act_sw (x : BS) (a : Nat) (y : Int) (ha : a + 4 ≤ 1048576) (h4 : a % 4 = 0) : x.act 3 a y = (0, 0, { x with M := laid4 x.M a y }) := by
  unfold BS.act
  rw [if_neg (by omega), if_neg (by omega), if_neg (by omega), if_neg (by omega), if_pos ⟨rfl, by omega⟩, if_pos (by omega)]
  rfl
theorem act_lw (x : BS) (a : Nat) (y : Int) (ha : a + 4 ≤ 1048576) (h4 : a % 4 = 0) : x.act 1 a y = (getV x.M a, 0, x) := by
  unfold BS.act
  rw [if_neg (by omega), if_neg (by omega), if_neg (by omega), if_pos ⟨rfl, by omega⟩, if_pos (by omega)]
  rfl
theorem act_lb (x : BS) (a : Nat) (y : Int) (ha : a < 1048576) : x.act 2 a y = (x.M a, 0, x) := by
  unfold BS.act
  rw [if_neg (by omega), if_pos ⟨rfl, by omega⟩]
  rfl
theorem act_sb (x : BS) (a : Nat) (y : Int) (ha : a < 1048576) : x.act 4 a y = (0, 0, { x with M := setB x.M a (y % 256) }) := by
  unfold BS.act
  rw [if_neg (by omega), if_neg (by omega), if_pos ⟨rfl, by omega⟩]
  rfl
/-- The four bytes of y stand at P. -/
def Stands (M : Nat → Int) (P : Nat) (y : Int) : Prop := ∀ j, j < 4 → M (P + j) = wbyte y j
theorem stands_laid (M : Nat → Int) (P : Nat) (y : Int) : Stands (laid4 M P y) P y := fun j hj => by
  unfold laid4
  rw [if_pos (by omega)]
  congr 1
  omega
theorem Stands.far {M : Nat → Int} {P : Nat} {y : Int} (h : Stands M P y) (X : Nat) (z : Int) (hP : P % 4 = 0) (hX : X % 4 = 0) (hne : ¬ X / 4 = P / 4) : Stands (laid4 M X z) P y := fun j hj => by
  unfold laid4
  rw [if_neg (by omega)]
  exact h j hj
theorem Stands.byte {M : Nat → Int} {P : Nat} {y : Int} (h : Stands M P y) (X : Nat) (z : Int) (hP : P % 4 = 0) (hne : ¬ X / 4 = P / 4) : Stands (setB M X z) P y := fun j hj => by
  unfold setB
  rw [if_neg (by omega)]
  exact h j hj
theorem Stands.get {M : Nat → Int} {P : Nat} {y : Int} (h : Stands M P y) (y0 : 0 ≤ y) (y1 : y < 4294967296) : getV M P = y := by
  unfold getV
  have h0 := h 0 (by omega)
  have h1 := h 1 (by omega)
  have h2 := h 2 (by omega)
  have h3 := h 3 (by omega)
  rw [Nat.add_zero] at h0
  rw [h0, h1, h2, h3]
  simp only [wbyte]
  omega
theorem and255w (l : Int) (h0 : 0 ≤ l) (h1 : l < 4294967296) : bits .and .u32 l 255 = l % 256 := by
  rw [u32_and _ _ h0 h1 (by omega) (by omega)]
  obtain ⟨m, rfl⟩ := Int.eq_ofNat_of_zero_le h0
  rw [show (255 : Int).toNat = 2 ^ 8 - 1 from rfl, Int.toNat_natCast, Nat.and_two_pow_sub_one_eq_mod]
  omega
theorem odd2 (k : Nat) : Int.tmod (k : Int) 2 = ((k % 2 : Nat) : Int) := by rw [Int.tmod_eq_emod_of_nonneg (by omega)]; omega
set_option maxRecDepth 20000 in
set_option maxHeartbeats 1000000 in
theorem bmem_any (q : Nat) (hq : q < 4294967296) (y : Int) (y0 : 0 ≤ y) (y1 : y < 4294967296) (A : Option Addr) (n c : Nat) (f : Nat → Int) (hn : n ≤ 140737488351232) (hf : ∀ i, 0 ≤ f i ∧ f i < 4294967296) (w : World) (hr : RdI .u32 w A n f) :
    Calls Try.prog 3 #[.int .u32 (q : Int), .int .u32 y, .slice A n c] w fun e w' => e = .returned (.bool true) ∧ Below w.heap.size w w' := by
  have HF := Lib.hid hf
  have HR := Lib.hid hr
  have HQ := Lib.hid hq
  clear hf hr
  go_enter Try.func3, Try.ntmps3
  go_upto_region 2 with (go_at_call 7; refine (bshown_any _).mono ?_; rintro e w1 ⟨rfl, hb1⟩; have HB1 := Lib.hid hb1; clear hb1)
  go_upto_region 3 with (go_at_call 8; refine (new_yes 8 _ (by decide) (by decide)).mono ?_; rintro e w2 ⟨d, s, rfl, D, hb2⟩; have hn0 := Lib.hid (Law.new none 0 0 (fun _ => 0) w w2 (HB1.out.trans (hb2.mono HB1.out.size)) w1.heap.size d s 8 (fun _ => nought) (by decide) (fun _ => by decide) (fun h => absurd h (by decide)) HB1.out.size D); clear D hb2)
  go_upto_region 4 with (go_at_call 9; refine hn0.out.mono ?_; rintro e w3 ⟨b, rfl, l0, hb3⟩; have L0 := Lib.hid (show Law w w3 b d (memX (wordsM (fun _ => 0) 0)) [] from l0); clear l0 hb3)
  clear hn0
  go_upto_region 7 with fail
  have hP : (q : Int) % 262144 * 4 = ((q % 262144 * 4 : Nat) : Int) := by omega
  have hp4 : q % 262144 * 4 % 4 = 0 := by omega
  have hpl : q % 262144 * 4 + 4 ≤ 1048576 := by omega
  rw [hP]
  clear hP
  generalize q % 262144 * 4 = P at hp4 hpl ⊢
  have HP4 := Lib.hid hp4
  have HPL := Lib.hid hpl
  clear hp4 hpl
  go_upto_region 8 with (go_at_call 10; refine (L0.out.act (act_sw (memX (wordsM (fun _ => 0) 0)) P y HPL.out HP4.out) (by omega) (by have := HPL.out; omega) y0 y1).mono ?_; rintro e w4 ⟨rfl, l1, -⟩; have L1 : Hid (Law w w4 b d (memX (laid4 (wordsM (fun _ => 0) 0) P y)) []) := Lib.hid l1; clear l1)
  clear L0
  go_wp2_with fail
  go_loopw [14] (fun i wr => ∃ k : Nat, k ≤ n ∧ i = .int .i64 k ∧ Hid (∃ M, Law w wr b d (memX M) [] ∧ Stands M P y)) (fun i _ => n - (intOf i).toNat)
  case atStart => exact ⟨0, by omega, rfl, ⟨_, L1.out, stands_laid _ _ _⟩⟩
  case round =>
    obtain ⟨k, hk, rfl, HL⟩ := hrel
    obtain ⟨M, l, hst⟩ := HL.out
    have L := Lib.hid l
    have HST := Lib.hid hst
    clear l hst HL
    by_cases hkn : k < n
    · obtain ⟨bb, off, rfl, hlb, hc⟩ := HR.out (by omega)
      have hck := (L.out.below.cell (p := ⟨bb, off + k, none⟩) hlb).trans (hc k hkn)
      obtain ⟨F, hF⟩ := Int.eq_ofNat_of_zero_le (HF.out k).1
      have hF1 : F < 4294967296 := by have := (HF.out k).2; omega
      rw [hF] at hck
      clear hc hF
      by_cases hodd : k % 2 = 1
      · have hm1 : Int.tmod (k : Int) 2 = 1 := by rw [odd2]; omega
        go_upto_region 16 with fail
        have hX : (F : Int) % 1048576 = ((F % 1048576 : Nat) : Int) := by omega
        have hXl : F % 1048576 < 1048576 := by omega
        rw [hX]
        clear hX
        generalize F % 1048576 = X at hXl ⊢
        by_cases hXP : X / 4 = P / 4
        · have hT : ((X : Int) / 4 == (P : Int) / 4 % 4294967296) = true := by have := HPL.out; simp; omega
          go_wp2_with fail
          go_roundw
          case rel => exact ⟨k + 1, by omega, by go_num, ⟨M, L.out, HST.out⟩⟩
          case measure => simp [intOf]; omega
        · have hT : ((X : Int) / 4 == (P : Int) / 4 % 4294967296) = false := by have := HPL.out; simp; omega
          have hT2 : decide ((X : Int) / 4 = (P : Int) / 4) = false := decide_eq_false (by omega)
          go_wp2_with (go_at_call 10; refine (L.out.act (act_sb (memX M) X (F : Int) hXl) (by omega) (by omega) (by omega) (by omega)).mono ?_; rintro e w5 ⟨rfl, l2, -⟩)
          go_roundw
          case rel => exact ⟨k + 1, by omega, by go_num, ⟨_, l2, HST.out.byte X (F % 256) HP4.out hXP⟩⟩
          case measure => simp [intOf]; omega
      · have hm1 : Int.tmod (k : Int) 2 = 0 := by rw [odd2]; omega
        go_upto_region 16 with fail
        have hX : (F : Int) % 262144 * 4 = ((F % 262144 * 4 : Nat) : Int) := by omega
        have hXl : F % 262144 * 4 + 4 ≤ 1048576 := by omega
        have hX4 : F % 262144 * 4 % 4 = 0 := by omega
        rw [hX]
        clear hX
        generalize F % 262144 * 4 = X at hXl hX4 ⊢
        by_cases hXP : X / 4 = P / 4
        · have hT : ((X : Int) / 4 == (P : Int) / 4 % 4294967296) = true := by have := HPL.out; simp; omega
          go_wp2_with fail
          go_roundw
          case rel => exact ⟨k + 1, by omega, by go_num, ⟨M, L.out, HST.out⟩⟩
          case measure => simp [intOf]; omega
        · have hT : ((X : Int) / 4 == (P : Int) / 4 % 4294967296) = false := by have := HPL.out; simp; omega
          have hT2 : decide ((X : Int) / 4 = (P : Int) / 4) = false := decide_eq_false (by omega)
          go_wp2_with (go_at_call 10; refine (L.out.act (act_sw (memX M) X (F : Int) hXl hX4) (by omega) (by omega) (by omega) (by omega)).mono ?_; rintro e w5 ⟨rfl, l2, -⟩)
          go_roundw
          case rel => exact ⟨k + 1, by omega, by go_num, ⟨_, l2, HST.out.far X F HP4.out hX4 hXP⟩⟩
          case measure => simp [intOf]; omega
    · obtain rfl : k = n := by omega
      have hg := HST.out.get y0 y1
      have HG := Lib.hid hg
      clear hg
      go_upto_region 23 with (first | (go_at_call 11; refine (L.out.word_yes (P : Int) (by omega) (by have := HPL.out; omega) (by have := HP4.out; omega)).mono ?_; rintro e w5 ⟨rfl, rfl⟩; rw [show ((P : Int)).toNat = P from rfl, show getV (memX M).M P = y from HG.out]) | (go_at_call 10; refine (L.out.act (act_lw (memX M) P 0 HPL.out HP4.out) (by omega) (by have := HPL.out; omega) (by omega) (by omega)).mono ?_; rintro e w6 ⟨rfl, l2, -⟩; rw [show getV (memX M).M P = y from HG.out]; have L2 := Lib.hid l2; clear l2))
      go_wp2_with fail
      go_loopw [21] (fun i wr => ∃ j : Nat, j ≤ 4 ∧ i = .int .u32 j ∧ Hid (Law w wr b d (memX M) [])) (fun i _ => 4 - (intOf i).toNat)
      case atStart => exact ⟨0, by omega, rfl, L2.out⟩
      case round =>
        obtain ⟨j, hj, rfl, HL3⟩ := hrel
        have hsum : ((P : Int) + (j : Int)) % 4294967296 = ((P + j : Nat) : Int) := by have := HPL.out; omega
        by_cases hj4 : j < 4
        · have hPj : P + j < 1048576 := by have := HPL.out; omega
          go_upto_region 26 with (go_at_call 10; refine (HL3.out.act (act_lb (memX M) (P + j) 0 hPj) (by omega) (by omega) (by omega) (by omega)).mono ?_; rintro e w7 ⟨rfl, l3, -⟩; rw [show (memX M).M (P + j) = wbyte y j from HST.out j hj4]; have L3 := Lib.hid l3; clear l3)
          have hjj : j = 0 ∨ j = 1 ∨ j = 2 ∨ j = 3 := by omega
          rcases hjj with rfl | rfl | rfl | rfl
          · have hT : (wbyte y 0 != bits .and .u32 y 255) = false := by rw [and255w y (by omega) (by omega)]; simp [wbyte]
            go_wp2_with fail
            go_roundw
            case rel => exact ⟨1, by omega, by go_num, L3.out⟩
            case measure => simp [intOf]
          · have hT : (wbyte y 1 != bits .and .u32 (y / 256) 255) = false := by rw [and255w (y / 256) (by omega) (by omega)]; simp [wbyte]
            go_wp2_with fail
            go_roundw
            case rel => exact ⟨2, by omega, by go_num, L3.out⟩
            case measure => simp [intOf]
          · have hT : (wbyte y 2 != bits .and .u32 (y / 65536) 255) = false := by rw [and255w (y / 65536) (by omega) (by omega)]; simp [wbyte]
            go_wp2_with fail
            go_roundw
            case rel => exact ⟨3, by omega, by go_num, L3.out⟩
            case measure => simp [intOf]
          · have hT : (wbyte y 3 != bits .and .u32 (y / 16777216) 255) = false := by rw [and255w (y / 16777216) (by omega) (by omega)]; simp [wbyte]
            go_wp2_with fail
            go_roundw
            case rel => exact ⟨4, by omega, by go_num, L3.out⟩
            case measure => simp [intOf]
        · obtain rfl : j = 4 := by omega
          go_wp2_with fail
          go_ret
          exact ⟨rfl, HL3.out.below⟩
def busMemoryAts : List Gen.AT := [.one (.int .u32), .one (.int .u32), .one (.slice 4 [.int .u32])]
theorem busMemory_args (W : World) (vs : List Value) (h : Gen.ArgsGood W busMemoryAts vs) :
    Calls Try.prog 3 vs.toArray W fun e W' => e = .returned (.bool true) ∧ Below W.heap.size W W' := by
  match vs, h with
  | [v0, v1, v2], h =>
    obtain ⟨h0, h1, h2, _⟩ := h
    obtain ⟨q, rfl, wq⟩ := h0.int_inv
    obtain ⟨y, rfl, wy⟩ := h1.int_inv
    obtain ⟨A, n, c, V, rfl, hl, _, hb, hr⟩ := h2.slice_inv
    obtain ⟨f, hf1, hf2, hf3⟩ := Gen.rows_int hr
    have bq := bounds_u32 wq
    have bx := bounds_u32 wy
    unfold reachBytes at hb
    obtain ⟨q, rfl⟩ := Int.eq_ofNat_of_zero_le (show 0 ≤ q by omega)
    refine bmem_any q (by omega) y (by omega) (by omega) A n c f (by omega) (fun i => ?_) W (fun hn => ?_)
    · rcases Nat.lt_or_ge i c with g | g
      · have := bounds_u32 (hf2 i g); omega
      · rw [hf3 i g]; omega
    · obtain ⟨b, off, hA, hlt, hc⟩ := hf1 (by omega)
      exact ⟨b, off, hA, hlt, fun i hi => hc i (by omega)⟩
end Go.Proofs.Ytmamocdkmmkkjaa
