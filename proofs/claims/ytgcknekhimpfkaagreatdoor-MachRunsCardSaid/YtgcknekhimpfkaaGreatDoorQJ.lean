/- The instruction that a word is: Decode. -/
import Derived.Test.YtgcknekhimpfkaaGreatDoorQI
namespace Go.Proofs.YtgcknekhimpfkaaGreatDoor
open Go Go.RowKit Go.Lib Go.Proofs.YtgcknekhimpfkaaGreatDoor.Pl
open Go.World renaming cell?_alloc_lt → wA
set_option maxHeartbeats 1000000
set_option linter.unusedVariables false
set_option linter.unusedSimpArgs false
def decF (x : Int) : Int := x / 1073741824
def decU (x : Int) : Bool := decide (x / 536870912 % 2 = 1)
def decV (x : Int) : Bool := decide (x / 268435456 % 2 = 1)
def decA (x : Int) : Int := x / 16777216 % 16
def decB (x : Int) : Int := if decF x = 3 then 0 else x / 1048576 % 16
def decO (x : Int) : Int := if decF x = 0 ∨ decF x = 1 then x / 65536 % 16 else 0
def decC (x : Int) : Int := if decF x = 0 ∨ decF x = 3 ∧ decU x = false then x % 16 else 0
def decN (x : Int) : Int := if decF x = 1 then x % 65536 else if decF x = 2 then sextV x 20 else if decF x = 3 ∧ decU x = true then sextV x 24 else 0
theorem bit_neq (x k : Int) (h0 : 0 ≤ x) (h1 : x < 4294967296) (hk : 0 < k) : (bits .and .u32 (x / k) 1 != 0) = decide (x / k % 2 = 1) := by
 have hd : 0 ≤ x / k ∧ x / k ≤ x := ⟨Int.ediv_nonneg h0 (by omega), Int.ediv_le_self _ h0⟩
 rw [show (x / k : Int) = x / k % 4294967296 from by omega, show bits .and .u32 (x / k % 4294967296) 1 = x / k % 2 from and_low (x / k) 1 (by omega)]
 rw [bne_dec, show x / k % 4294967296 % 2 = x / k % 2 from by omega]
 by_cases h : x / k % 2 = 1
 ·simp [h]
 ·simp [h, show x / k % 2 = 0 from by omega]
theorem and15' (x k : Int) (h0 : 0 ≤ x) (h1 : x < 4294967296) (hk : 0 < k) : bits .and .u32 (x / k) 15 = x / k % 16 := by
 have hd : 0 ≤ x / k ∧ x / k ≤ x := ⟨Int.ediv_nonneg h0 (by omega), Int.ediv_le_self _ h0⟩
 have := and_low (x / k) 4 (by omega)
 rw [show x / k % 4294967296 = x / k from by omega] at this
 exact this
theorem and15z (x : Int) (h0 : 0 ≤ x) (h1 : x < 4294967296) : bits .and .u32 x 15 = x % 16 := by
 have := and_low x 4 (by omega)
 rw [show x % 4294967296 = x from by omega] at this
 exact this
theorem and65535 (x : Int) (h0 : 0 ≤ x) (h1 : x < 4294967296) : bits .and .u32 x 65535 = x % 65536 := by
 have := and_low x 16 (by omega)
 rw [show x % 4294967296 = x from by omega] at this
 exact this
/-- What a word's fields are, whether or not they make an instruction. -/
def decI (x : Int) : Value := ins (decF x) (decU x) (decV x) (decA x) (decB x) (decO x) (decC x) (decN x)
def decR (x : Int) : Bool := rightB (decF x) (decU x) (decV x) (decA x) (decB x) (decO x) (decC x) (decN x)
def decW (x : Int) : Int := encW (decF x) (decU x) (decV x) (decA x) (decB x) (decO x) (decC x) (decN x)
def decOk (x : Int) : Bool := decR x && decide (decW x = x)
theorem sext20 (x : Int) (h0 : 0 ≤ x) (h1 : x < 4294967296) (w : World) : Calls Tryz.prog 51 #[.int .u32 x, .int .i64 20] w fun e w' => e = .returned (.int .i64 (sextV x 20)) ∧ w = w' := sext_yes x 20 h0 h1 (by omega) (by omega) w
theorem sext24 (x : Int) (h0 : 0 ≤ x) (h1 : x < 4294967296) (w : World) : Calls Tryz.prog 51 #[.int .u32 x, .int .i64 24] w fun e w' => e = .returned (.int .i64 (sextV x 24)) ∧ w = w' := sext_yes x 24 h0 h1 (by omega) (by omega) w
def noIns : Value := ins 0 false false 0 0 0 0 0
theorem dec_0a (x : Int) (h0 : 0 ≤ x) (h1 : x < 4294967296) (hf : x / 1073741824 = 0) (hE : (encE 0 (decU x) (decV x) (decA x) (x / 1048576 % 16) (x / 65536 % 16) (x % 16) 0 != 0) = true) (w : World) (hT : Tab w) :
 Calls Tryz.prog 35 #[.int .u32 x] w fun e w' => e = .returned (.tuple #[noIns, .bool false]) ∧ Below w.heap.size w w' := by
 have hu : (bits .and .u32 (x / 536870912) 1 != 0) = decU x := bit_neq x _ h0 h1 (by omega)
 have hv : (bits .and .u32 (x / 268435456) 1 != 0) = decV x := bit_neq x _ h0 h1 (by omega)
 have ha : bits .and .u32 (x / 16777216) 15 = decA x := and15' x _ h0 h1 (by omega)
 have hb : bits .and .u32 (x / 1048576) 15 = x / 1048576 % 16 := and15' x _ h0 h1 (by omega)
 have ho : bits .and .u32 (x / 65536) 15 = x / 65536 % 16 := and15' x _ h0 h1 (by omega)
 have hc : bits .and .u32 x 15 = x % 16 := and15z x h0 h1
 have hA0 : 0 ≤ decA x := by unfold decA; omega
 have hA1 : decA x ≤ 15 := by unfold decA; omega
 have HT := tabHid hT
 clear hT
 go_enter Tryz.func35, Tryz.ntmps35
 go_wp2_with (first | (go_at_call 52; refine (enc_any _ _ _ _ _ _ _ _ _ (HT.out _ (by go_grown))).mono ?_; rintro e w1 ⟨rfl, hb1⟩; have hs1 := hb1.size; obtain ⟨hi, hj⟩ := bcell hb1; simp only [World.size_alloc, World.size_setCell] at hi hj))
 refine bodyPost_ret (v := .tuple #[noIns, .bool false]) ?_ rfl ⟨rfl, ?_⟩
 ·clear HT hs1 hb1 hj
  have c0 : w1.cell? ⟨w.heap.size, 0, none⟩ = some (.int .i64 0) := by rw [hi _ _ (by omega)]; simp [wA]
  have c1 : w1.cell? ⟨w.heap.size, 1, none⟩ = some (.bool false) := by rw [hi _ _ (by omega)]; simp [wA]
  have c2 : w1.cell? ⟨w.heap.size, 2, none⟩ = some (.bool false) := by rw [hi _ _ (by omega)]; simp [wA]
  have c3 : w1.cell? ⟨w.heap.size, 3, none⟩ = some (.int .i64 0) := by rw [hi _ _ (by omega)]; simp [wA]
  have c4 : w1.cell? ⟨w.heap.size, 4, none⟩ = some (.int .i64 0) := by rw [hi _ _ (by omega)]; simp [wA]
  have c5 : w1.cell? ⟨w.heap.size, 5, none⟩ = some (.int .i64 0) := by rw [hi _ _ (by omega)]; simp [wA]
  have c6 : w1.cell? ⟨w.heap.size, 6, none⟩ = some (.int .i64 0) := by rw [hi _ _ (by omega)]; simp [wA]
  have c7 : w1.cell? ⟨w.heap.size, 7, none⟩ = some (.int .i64 0) := by rw [hi _ _ (by omega)]; simp [wA]
  clear hi
  simp [results, Tryz.results35, go_sem, ins, noIns, *]
 ·iterate 8 refine belSet ?_ _ _
  exact bel2 hb1
theorem dec_0b (x : Int) (h0 : 0 ≤ x) (h1 : x < 4294967296) (hf : x / 1073741824 = 0) (hE : (encE 0 (decU x) (decV x) (decA x) (x / 1048576 % 16) (x / 65536 % 16) (x % 16) 0 != 0) = false) (hR : (encR 0 (decU x) (decV x) (decA x) (x / 1048576 % 16) (x / 65536 % 16) (x % 16) 0 != x) = true) (w : World) (hT : Tab w) :
 Calls Tryz.prog 35 #[.int .u32 x] w fun e w' => e = .returned (.tuple #[noIns, .bool false]) ∧ Below w.heap.size w w' := by
 have hu : (bits .and .u32 (x / 536870912) 1 != 0) = decU x := bit_neq x _ h0 h1 (by omega)
 have hv : (bits .and .u32 (x / 268435456) 1 != 0) = decV x := bit_neq x _ h0 h1 (by omega)
 have ha : bits .and .u32 (x / 16777216) 15 = decA x := and15' x _ h0 h1 (by omega)
 have hb : bits .and .u32 (x / 1048576) 15 = x / 1048576 % 16 := and15' x _ h0 h1 (by omega)
 have ho : bits .and .u32 (x / 65536) 15 = x / 65536 % 16 := and15' x _ h0 h1 (by omega)
 have hc : bits .and .u32 x 15 = x % 16 := and15z x h0 h1
 have hA0 : 0 ≤ decA x := by unfold decA; omega
 have hA1 : decA x ≤ 15 := by unfold decA; omega
 have HT := tabHid hT
 clear hT
 go_enter Tryz.func35, Tryz.ntmps35
 go_wp2_with (first | (go_at_call 52; refine (enc_any _ _ _ _ _ _ _ _ _ (HT.out _ (by go_grown))).mono ?_; rintro e w1 ⟨rfl, hb1⟩; have hs1 := hb1.size; obtain ⟨hi, hj⟩ := bcell hb1; simp only [World.size_alloc, World.size_setCell] at hi hj))
 refine bodyPost_ret (v := .tuple #[noIns, .bool false]) ?_ rfl ⟨rfl, ?_⟩
 ·clear HT hs1 hb1 hj
  have c0 : w1.cell? ⟨w.heap.size, 0, none⟩ = some (.int .i64 0) := by rw [hi _ _ (by omega)]; simp [wA]
  have c1 : w1.cell? ⟨w.heap.size, 1, none⟩ = some (.bool false) := by rw [hi _ _ (by omega)]; simp [wA]
  have c2 : w1.cell? ⟨w.heap.size, 2, none⟩ = some (.bool false) := by rw [hi _ _ (by omega)]; simp [wA]
  have c3 : w1.cell? ⟨w.heap.size, 3, none⟩ = some (.int .i64 0) := by rw [hi _ _ (by omega)]; simp [wA]
  have c4 : w1.cell? ⟨w.heap.size, 4, none⟩ = some (.int .i64 0) := by rw [hi _ _ (by omega)]; simp [wA]
  have c5 : w1.cell? ⟨w.heap.size, 5, none⟩ = some (.int .i64 0) := by rw [hi _ _ (by omega)]; simp [wA]
  have c6 : w1.cell? ⟨w.heap.size, 6, none⟩ = some (.int .i64 0) := by rw [hi _ _ (by omega)]; simp [wA]
  have c7 : w1.cell? ⟨w.heap.size, 7, none⟩ = some (.int .i64 0) := by rw [hi _ _ (by omega)]; simp [wA]
  clear hi
  simp [results, Tryz.results35, go_sem, ins, noIns, *]
 ·iterate 8 refine belSet ?_ _ _
  exact bel2 hb1
theorem dec_0c (x : Int) (h0 : 0 ≤ x) (h1 : x < 4294967296) (hf : x / 1073741824 = 0) (hE : (encE 0 (decU x) (decV x) (decA x) (x / 1048576 % 16) (x / 65536 % 16) (x % 16) 0 != 0) = false) (hR : (encR 0 (decU x) (decV x) (decA x) (x / 1048576 % 16) (x / 65536 % 16) (x % 16) 0 != x) = false) (w : World) (hT : Tab w) :
 Calls Tryz.prog 35 #[.int .u32 x] w fun e w' => e = .returned (.tuple #[(ins 0 (decU x) (decV x) (decA x) (x / 1048576 % 16) (x / 65536 % 16) (x % 16) 0), .bool true]) ∧ Below w.heap.size w w' := by
 have hu : (bits .and .u32 (x / 536870912) 1 != 0) = decU x := bit_neq x _ h0 h1 (by omega)
 have hv : (bits .and .u32 (x / 268435456) 1 != 0) = decV x := bit_neq x _ h0 h1 (by omega)
 have ha : bits .and .u32 (x / 16777216) 15 = decA x := and15' x _ h0 h1 (by omega)
 have hb : bits .and .u32 (x / 1048576) 15 = x / 1048576 % 16 := and15' x _ h0 h1 (by omega)
 have ho : bits .and .u32 (x / 65536) 15 = x / 65536 % 16 := and15' x _ h0 h1 (by omega)
 have hc : bits .and .u32 x 15 = x % 16 := and15z x h0 h1
 have hA0 : 0 ≤ decA x := by unfold decA; omega
 have hA1 : decA x ≤ 15 := by unfold decA; omega
 have HT := tabHid hT
 clear hT
 go_enter Tryz.func35, Tryz.ntmps35
 go_wp2_with (first | (go_at_call 52; refine (enc_any _ _ _ _ _ _ _ _ _ (HT.out _ (by go_grown))).mono ?_; rintro e w1 ⟨rfl, hb1⟩; have hs1 := hb1.size; obtain ⟨hi, hj⟩ := bcell hb1; simp only [World.size_alloc, World.size_setCell] at hi hj))
 refine bodyPost_ret (v := .tuple #[(ins 0 (decU x) (decV x) (decA x) (x / 1048576 % 16) (x / 65536 % 16) (x % 16) 0), .bool true]) ?_ rfl ⟨rfl, ?_⟩
 ·clear HT hs1 hb1 hj
  have c0 : w1.cell? ⟨w.heap.size, 0, none⟩ = some (.int .i64 0) := by rw [hi _ _ (by omega)]; simp [wA]
  have c1 : w1.cell? ⟨w.heap.size, 1, none⟩ = some (.bool false) := by rw [hi _ _ (by omega)]; simp [wA]
  have c2 : w1.cell? ⟨w.heap.size, 2, none⟩ = some (.bool false) := by rw [hi _ _ (by omega)]; simp [wA]
  have c3 : w1.cell? ⟨w.heap.size, 3, none⟩ = some (.int .i64 0) := by rw [hi _ _ (by omega)]; simp [wA]
  have c4 : w1.cell? ⟨w.heap.size, 4, none⟩ = some (.int .i64 0) := by rw [hi _ _ (by omega)]; simp [wA]
  have c5 : w1.cell? ⟨w.heap.size, 5, none⟩ = some (.int .i64 0) := by rw [hi _ _ (by omega)]; simp [wA]
  have c6 : w1.cell? ⟨w.heap.size, 6, none⟩ = some (.int .i64 0) := by rw [hi _ _ (by omega)]; simp [wA]
  have c7 : w1.cell? ⟨w.heap.size, 7, none⟩ = some (.int .i64 0) := by rw [hi _ _ (by omega)]; simp [wA]
  clear hi
  simp [results, Tryz.results35, go_sem, ins, noIns, *]
 ·iterate 8 refine belSet ?_ _ _
  exact bel2 hb1
theorem dec_1a (x : Int) (h0 : 0 ≤ x) (h1 : x < 4294967296) (hf : x / 1073741824 = 1) (hE : (encE 1 (decU x) (decV x) (decA x) (x / 1048576 % 16) (x / 65536 % 16) 0 (x % 65536) != 0) = true) (w : World) (hT : Tab w) :
 Calls Tryz.prog 35 #[.int .u32 x] w fun e w' => e = .returned (.tuple #[noIns, .bool false]) ∧ Below w.heap.size w w' := by
 have hu : (bits .and .u32 (x / 536870912) 1 != 0) = decU x := bit_neq x _ h0 h1 (by omega)
 have hv : (bits .and .u32 (x / 268435456) 1 != 0) = decV x := bit_neq x _ h0 h1 (by omega)
 have ha : bits .and .u32 (x / 16777216) 15 = decA x := and15' x _ h0 h1 (by omega)
 have hb : bits .and .u32 (x / 1048576) 15 = x / 1048576 % 16 := and15' x _ h0 h1 (by omega)
 have ho : bits .and .u32 (x / 65536) 15 = x / 65536 % 16 := and15' x _ h0 h1 (by omega)
 have hn : bits .and .u32 x 65535 = x % 65536 := and65535 x h0 h1
 have hA0 : 0 ≤ decA x := by unfold decA; omega
 have hA1 : decA x ≤ 15 := by unfold decA; omega
 have HT := tabHid hT
 clear hT
 go_enter Tryz.func35, Tryz.ntmps35
 go_wp2_with (first | (go_at_call 52; refine (enc_any _ _ _ _ _ _ _ _ _ (HT.out _ (by go_grown))).mono ?_; rintro e w1 ⟨rfl, hb1⟩; have hs1 := hb1.size; obtain ⟨hi, hj⟩ := bcell hb1; simp only [World.size_alloc, World.size_setCell] at hi hj))
 refine bodyPost_ret (v := .tuple #[noIns, .bool false]) ?_ rfl ⟨rfl, ?_⟩
 ·clear HT hs1 hb1 hj
  have c0 : w1.cell? ⟨w.heap.size, 0, none⟩ = some (.int .i64 0) := by rw [hi _ _ (by omega)]; simp [wA]
  have c1 : w1.cell? ⟨w.heap.size, 1, none⟩ = some (.bool false) := by rw [hi _ _ (by omega)]; simp [wA]
  have c2 : w1.cell? ⟨w.heap.size, 2, none⟩ = some (.bool false) := by rw [hi _ _ (by omega)]; simp [wA]
  have c3 : w1.cell? ⟨w.heap.size, 3, none⟩ = some (.int .i64 0) := by rw [hi _ _ (by omega)]; simp [wA]
  have c4 : w1.cell? ⟨w.heap.size, 4, none⟩ = some (.int .i64 0) := by rw [hi _ _ (by omega)]; simp [wA]
  have c5 : w1.cell? ⟨w.heap.size, 5, none⟩ = some (.int .i64 0) := by rw [hi _ _ (by omega)]; simp [wA]
  have c6 : w1.cell? ⟨w.heap.size, 6, none⟩ = some (.int .i64 0) := by rw [hi _ _ (by omega)]; simp [wA]
  have c7 : w1.cell? ⟨w.heap.size, 7, none⟩ = some (.int .i64 0) := by rw [hi _ _ (by omega)]; simp [wA]
  clear hi
  simp [results, Tryz.results35, go_sem, ins, noIns, *]
 ·iterate 8 refine belSet ?_ _ _
  exact bel2 hb1
theorem dec_1b (x : Int) (h0 : 0 ≤ x) (h1 : x < 4294967296) (hf : x / 1073741824 = 1) (hE : (encE 1 (decU x) (decV x) (decA x) (x / 1048576 % 16) (x / 65536 % 16) 0 (x % 65536) != 0) = false) (hR : (encR 1 (decU x) (decV x) (decA x) (x / 1048576 % 16) (x / 65536 % 16) 0 (x % 65536) != x) = true) (w : World) (hT : Tab w) :
 Calls Tryz.prog 35 #[.int .u32 x] w fun e w' => e = .returned (.tuple #[noIns, .bool false]) ∧ Below w.heap.size w w' := by
 have hu : (bits .and .u32 (x / 536870912) 1 != 0) = decU x := bit_neq x _ h0 h1 (by omega)
 have hv : (bits .and .u32 (x / 268435456) 1 != 0) = decV x := bit_neq x _ h0 h1 (by omega)
 have ha : bits .and .u32 (x / 16777216) 15 = decA x := and15' x _ h0 h1 (by omega)
 have hb : bits .and .u32 (x / 1048576) 15 = x / 1048576 % 16 := and15' x _ h0 h1 (by omega)
 have ho : bits .and .u32 (x / 65536) 15 = x / 65536 % 16 := and15' x _ h0 h1 (by omega)
 have hn : bits .and .u32 x 65535 = x % 65536 := and65535 x h0 h1
 have hA0 : 0 ≤ decA x := by unfold decA; omega
 have hA1 : decA x ≤ 15 := by unfold decA; omega
 have HT := tabHid hT
 clear hT
 go_enter Tryz.func35, Tryz.ntmps35
 go_wp2_with (first | (go_at_call 52; refine (enc_any _ _ _ _ _ _ _ _ _ (HT.out _ (by go_grown))).mono ?_; rintro e w1 ⟨rfl, hb1⟩; have hs1 := hb1.size; obtain ⟨hi, hj⟩ := bcell hb1; simp only [World.size_alloc, World.size_setCell] at hi hj))
 refine bodyPost_ret (v := .tuple #[noIns, .bool false]) ?_ rfl ⟨rfl, ?_⟩
 ·clear HT hs1 hb1 hj
  have c0 : w1.cell? ⟨w.heap.size, 0, none⟩ = some (.int .i64 0) := by rw [hi _ _ (by omega)]; simp [wA]
  have c1 : w1.cell? ⟨w.heap.size, 1, none⟩ = some (.bool false) := by rw [hi _ _ (by omega)]; simp [wA]
  have c2 : w1.cell? ⟨w.heap.size, 2, none⟩ = some (.bool false) := by rw [hi _ _ (by omega)]; simp [wA]
  have c3 : w1.cell? ⟨w.heap.size, 3, none⟩ = some (.int .i64 0) := by rw [hi _ _ (by omega)]; simp [wA]
  have c4 : w1.cell? ⟨w.heap.size, 4, none⟩ = some (.int .i64 0) := by rw [hi _ _ (by omega)]; simp [wA]
  have c5 : w1.cell? ⟨w.heap.size, 5, none⟩ = some (.int .i64 0) := by rw [hi _ _ (by omega)]; simp [wA]
  have c6 : w1.cell? ⟨w.heap.size, 6, none⟩ = some (.int .i64 0) := by rw [hi _ _ (by omega)]; simp [wA]
  have c7 : w1.cell? ⟨w.heap.size, 7, none⟩ = some (.int .i64 0) := by rw [hi _ _ (by omega)]; simp [wA]
  clear hi
  simp [results, Tryz.results35, go_sem, ins, noIns, *]
 ·iterate 8 refine belSet ?_ _ _
  exact bel2 hb1
theorem dec_1c (x : Int) (h0 : 0 ≤ x) (h1 : x < 4294967296) (hf : x / 1073741824 = 1) (hE : (encE 1 (decU x) (decV x) (decA x) (x / 1048576 % 16) (x / 65536 % 16) 0 (x % 65536) != 0) = false) (hR : (encR 1 (decU x) (decV x) (decA x) (x / 1048576 % 16) (x / 65536 % 16) 0 (x % 65536) != x) = false) (w : World) (hT : Tab w) :
 Calls Tryz.prog 35 #[.int .u32 x] w fun e w' => e = .returned (.tuple #[(ins 1 (decU x) (decV x) (decA x) (x / 1048576 % 16) (x / 65536 % 16) 0 (x % 65536)), .bool true]) ∧ Below w.heap.size w w' := by
 have hu : (bits .and .u32 (x / 536870912) 1 != 0) = decU x := bit_neq x _ h0 h1 (by omega)
 have hv : (bits .and .u32 (x / 268435456) 1 != 0) = decV x := bit_neq x _ h0 h1 (by omega)
 have ha : bits .and .u32 (x / 16777216) 15 = decA x := and15' x _ h0 h1 (by omega)
 have hb : bits .and .u32 (x / 1048576) 15 = x / 1048576 % 16 := and15' x _ h0 h1 (by omega)
 have ho : bits .and .u32 (x / 65536) 15 = x / 65536 % 16 := and15' x _ h0 h1 (by omega)
 have hn : bits .and .u32 x 65535 = x % 65536 := and65535 x h0 h1
 have hA0 : 0 ≤ decA x := by unfold decA; omega
 have hA1 : decA x ≤ 15 := by unfold decA; omega
 have HT := tabHid hT
 clear hT
 go_enter Tryz.func35, Tryz.ntmps35
 go_wp2_with (first | (go_at_call 52; refine (enc_any _ _ _ _ _ _ _ _ _ (HT.out _ (by go_grown))).mono ?_; rintro e w1 ⟨rfl, hb1⟩; have hs1 := hb1.size; obtain ⟨hi, hj⟩ := bcell hb1; simp only [World.size_alloc, World.size_setCell] at hi hj))
 refine bodyPost_ret (v := .tuple #[(ins 1 (decU x) (decV x) (decA x) (x / 1048576 % 16) (x / 65536 % 16) 0 (x % 65536)), .bool true]) ?_ rfl ⟨rfl, ?_⟩
 ·clear HT hs1 hb1 hj
  have c0 : w1.cell? ⟨w.heap.size, 0, none⟩ = some (.int .i64 0) := by rw [hi _ _ (by omega)]; simp [wA]
  have c1 : w1.cell? ⟨w.heap.size, 1, none⟩ = some (.bool false) := by rw [hi _ _ (by omega)]; simp [wA]
  have c2 : w1.cell? ⟨w.heap.size, 2, none⟩ = some (.bool false) := by rw [hi _ _ (by omega)]; simp [wA]
  have c3 : w1.cell? ⟨w.heap.size, 3, none⟩ = some (.int .i64 0) := by rw [hi _ _ (by omega)]; simp [wA]
  have c4 : w1.cell? ⟨w.heap.size, 4, none⟩ = some (.int .i64 0) := by rw [hi _ _ (by omega)]; simp [wA]
  have c5 : w1.cell? ⟨w.heap.size, 5, none⟩ = some (.int .i64 0) := by rw [hi _ _ (by omega)]; simp [wA]
  have c6 : w1.cell? ⟨w.heap.size, 6, none⟩ = some (.int .i64 0) := by rw [hi _ _ (by omega)]; simp [wA]
  have c7 : w1.cell? ⟨w.heap.size, 7, none⟩ = some (.int .i64 0) := by rw [hi _ _ (by omega)]; simp [wA]
  clear hi
  simp [results, Tryz.results35, go_sem, ins, noIns, *]
 ·iterate 8 refine belSet ?_ _ _
  exact bel2 hb1
theorem dec_2a (x : Int) (h0 : 0 ≤ x) (h1 : x < 4294967296) (hf : x / 1073741824 = 2) (hE : (encE 2 (decU x) (decV x) (decA x) (x / 1048576 % 16) 0 0 (sextV x 20) != 0) = true) (w : World) (hT : Tab w) :
 Calls Tryz.prog 35 #[.int .u32 x] w fun e w' => e = .returned (.tuple #[noIns, .bool false]) ∧ Below w.heap.size w w' := by
 have hu : (bits .and .u32 (x / 536870912) 1 != 0) = decU x := bit_neq x _ h0 h1 (by omega)
 have hv : (bits .and .u32 (x / 268435456) 1 != 0) = decV x := bit_neq x _ h0 h1 (by omega)
 have ha : bits .and .u32 (x / 16777216) 15 = decA x := and15' x _ h0 h1 (by omega)
 have hb : bits .and .u32 (x / 1048576) 15 = x / 1048576 % 16 := and15' x _ h0 h1 (by omega)
 have hA0 : 0 ≤ decA x := by unfold decA; omega
 have hA1 : decA x ≤ 15 := by unfold decA; omega
 have HT := tabHid hT
 clear hT
 go_enter Tryz.func35, Tryz.ntmps35
 go_wp2_with (first | (go_at_call 51; refine (sext20 x h0 h1 _).mono ?_; rintro e w' ⟨rfl, rfl⟩) | (go_at_call 52; refine (enc_any _ _ _ _ _ _ _ _ _ (HT.out _ (by go_grown))).mono ?_; rintro e w1 ⟨rfl, hb1⟩; have hs1 := hb1.size; obtain ⟨hi, hj⟩ := bcell hb1; simp only [World.size_alloc, World.size_setCell] at hi hj))
 refine bodyPost_ret (v := .tuple #[noIns, .bool false]) ?_ rfl ⟨rfl, ?_⟩
 ·clear HT hs1 hb1 hj
  have c0 : w1.cell? ⟨w.heap.size, 0, none⟩ = some (.int .i64 0) := by rw [hi _ _ (by omega)]; simp [wA]
  have c1 : w1.cell? ⟨w.heap.size, 1, none⟩ = some (.bool false) := by rw [hi _ _ (by omega)]; simp [wA]
  have c2 : w1.cell? ⟨w.heap.size, 2, none⟩ = some (.bool false) := by rw [hi _ _ (by omega)]; simp [wA]
  have c3 : w1.cell? ⟨w.heap.size, 3, none⟩ = some (.int .i64 0) := by rw [hi _ _ (by omega)]; simp [wA]
  have c4 : w1.cell? ⟨w.heap.size, 4, none⟩ = some (.int .i64 0) := by rw [hi _ _ (by omega)]; simp [wA]
  have c5 : w1.cell? ⟨w.heap.size, 5, none⟩ = some (.int .i64 0) := by rw [hi _ _ (by omega)]; simp [wA]
  have c6 : w1.cell? ⟨w.heap.size, 6, none⟩ = some (.int .i64 0) := by rw [hi _ _ (by omega)]; simp [wA]
  have c7 : w1.cell? ⟨w.heap.size, 7, none⟩ = some (.int .i64 0) := by rw [hi _ _ (by omega)]; simp [wA]
  clear hi
  simp [results, Tryz.results35, go_sem, ins, noIns, *]
 ·iterate 8 refine belSet ?_ _ _
  exact bel2 hb1
theorem dec_2b (x : Int) (h0 : 0 ≤ x) (h1 : x < 4294967296) (hf : x / 1073741824 = 2) (hE : (encE 2 (decU x) (decV x) (decA x) (x / 1048576 % 16) 0 0 (sextV x 20) != 0) = false) (hR : (encR 2 (decU x) (decV x) (decA x) (x / 1048576 % 16) 0 0 (sextV x 20) != x) = true) (w : World) (hT : Tab w) :
 Calls Tryz.prog 35 #[.int .u32 x] w fun e w' => e = .returned (.tuple #[noIns, .bool false]) ∧ Below w.heap.size w w' := by
 have hu : (bits .and .u32 (x / 536870912) 1 != 0) = decU x := bit_neq x _ h0 h1 (by omega)
 have hv : (bits .and .u32 (x / 268435456) 1 != 0) = decV x := bit_neq x _ h0 h1 (by omega)
 have ha : bits .and .u32 (x / 16777216) 15 = decA x := and15' x _ h0 h1 (by omega)
 have hb : bits .and .u32 (x / 1048576) 15 = x / 1048576 % 16 := and15' x _ h0 h1 (by omega)
 have hA0 : 0 ≤ decA x := by unfold decA; omega
 have hA1 : decA x ≤ 15 := by unfold decA; omega
 have HT := tabHid hT
 clear hT
 go_enter Tryz.func35, Tryz.ntmps35
 go_wp2_with (first | (go_at_call 51; refine (sext20 x h0 h1 _).mono ?_; rintro e w' ⟨rfl, rfl⟩) | (go_at_call 52; refine (enc_any _ _ _ _ _ _ _ _ _ (HT.out _ (by go_grown))).mono ?_; rintro e w1 ⟨rfl, hb1⟩; have hs1 := hb1.size; obtain ⟨hi, hj⟩ := bcell hb1; simp only [World.size_alloc, World.size_setCell] at hi hj))
 refine bodyPost_ret (v := .tuple #[noIns, .bool false]) ?_ rfl ⟨rfl, ?_⟩
 ·clear HT hs1 hb1 hj
  have c0 : w1.cell? ⟨w.heap.size, 0, none⟩ = some (.int .i64 0) := by rw [hi _ _ (by omega)]; simp [wA]
  have c1 : w1.cell? ⟨w.heap.size, 1, none⟩ = some (.bool false) := by rw [hi _ _ (by omega)]; simp [wA]
  have c2 : w1.cell? ⟨w.heap.size, 2, none⟩ = some (.bool false) := by rw [hi _ _ (by omega)]; simp [wA]
  have c3 : w1.cell? ⟨w.heap.size, 3, none⟩ = some (.int .i64 0) := by rw [hi _ _ (by omega)]; simp [wA]
  have c4 : w1.cell? ⟨w.heap.size, 4, none⟩ = some (.int .i64 0) := by rw [hi _ _ (by omega)]; simp [wA]
  have c5 : w1.cell? ⟨w.heap.size, 5, none⟩ = some (.int .i64 0) := by rw [hi _ _ (by omega)]; simp [wA]
  have c6 : w1.cell? ⟨w.heap.size, 6, none⟩ = some (.int .i64 0) := by rw [hi _ _ (by omega)]; simp [wA]
  have c7 : w1.cell? ⟨w.heap.size, 7, none⟩ = some (.int .i64 0) := by rw [hi _ _ (by omega)]; simp [wA]
  clear hi
  simp [results, Tryz.results35, go_sem, ins, noIns, *]
 ·iterate 8 refine belSet ?_ _ _
  exact bel2 hb1
theorem dec_2c (x : Int) (h0 : 0 ≤ x) (h1 : x < 4294967296) (hf : x / 1073741824 = 2) (hE : (encE 2 (decU x) (decV x) (decA x) (x / 1048576 % 16) 0 0 (sextV x 20) != 0) = false) (hR : (encR 2 (decU x) (decV x) (decA x) (x / 1048576 % 16) 0 0 (sextV x 20) != x) = false) (w : World) (hT : Tab w) :
 Calls Tryz.prog 35 #[.int .u32 x] w fun e w' => e = .returned (.tuple #[(ins 2 (decU x) (decV x) (decA x) (x / 1048576 % 16) 0 0 (sextV x 20)), .bool true]) ∧ Below w.heap.size w w' := by
 have hu : (bits .and .u32 (x / 536870912) 1 != 0) = decU x := bit_neq x _ h0 h1 (by omega)
 have hv : (bits .and .u32 (x / 268435456) 1 != 0) = decV x := bit_neq x _ h0 h1 (by omega)
 have ha : bits .and .u32 (x / 16777216) 15 = decA x := and15' x _ h0 h1 (by omega)
 have hb : bits .and .u32 (x / 1048576) 15 = x / 1048576 % 16 := and15' x _ h0 h1 (by omega)
 have hA0 : 0 ≤ decA x := by unfold decA; omega
 have hA1 : decA x ≤ 15 := by unfold decA; omega
 have HT := tabHid hT
 clear hT
 go_enter Tryz.func35, Tryz.ntmps35
 go_wp2_with (first | (go_at_call 51; refine (sext20 x h0 h1 _).mono ?_; rintro e w' ⟨rfl, rfl⟩) | (go_at_call 52; refine (enc_any _ _ _ _ _ _ _ _ _ (HT.out _ (by go_grown))).mono ?_; rintro e w1 ⟨rfl, hb1⟩; have hs1 := hb1.size; obtain ⟨hi, hj⟩ := bcell hb1; simp only [World.size_alloc, World.size_setCell] at hi hj))
 refine bodyPost_ret (v := .tuple #[(ins 2 (decU x) (decV x) (decA x) (x / 1048576 % 16) 0 0 (sextV x 20)), .bool true]) ?_ rfl ⟨rfl, ?_⟩
 ·clear HT hs1 hb1 hj
  have c0 : w1.cell? ⟨w.heap.size, 0, none⟩ = some (.int .i64 0) := by rw [hi _ _ (by omega)]; simp [wA]
  have c1 : w1.cell? ⟨w.heap.size, 1, none⟩ = some (.bool false) := by rw [hi _ _ (by omega)]; simp [wA]
  have c2 : w1.cell? ⟨w.heap.size, 2, none⟩ = some (.bool false) := by rw [hi _ _ (by omega)]; simp [wA]
  have c3 : w1.cell? ⟨w.heap.size, 3, none⟩ = some (.int .i64 0) := by rw [hi _ _ (by omega)]; simp [wA]
  have c4 : w1.cell? ⟨w.heap.size, 4, none⟩ = some (.int .i64 0) := by rw [hi _ _ (by omega)]; simp [wA]
  have c5 : w1.cell? ⟨w.heap.size, 5, none⟩ = some (.int .i64 0) := by rw [hi _ _ (by omega)]; simp [wA]
  have c6 : w1.cell? ⟨w.heap.size, 6, none⟩ = some (.int .i64 0) := by rw [hi _ _ (by omega)]; simp [wA]
  have c7 : w1.cell? ⟨w.heap.size, 7, none⟩ = some (.int .i64 0) := by rw [hi _ _ (by omega)]; simp [wA]
  clear hi
  simp [results, Tryz.results35, go_sem, ins, noIns, *]
 ·iterate 8 refine belSet ?_ _ _
  exact bel2 hb1
theorem dec_3ua (x : Int) (h0 : 0 ≤ x) (h1 : x < 4294967296) (hf : x / 1073741824 = 3) (hU : decU x = true) (hE : (encE 3 true (decV x) (decA x) 0 0 0 (sextV x 24) != 0) = true) (w : World) (hT : Tab w) :
 Calls Tryz.prog 35 #[.int .u32 x] w fun e w' => e = .returned (.tuple #[noIns, .bool false]) ∧ Below w.heap.size w w' := by
 have hu : (bits .and .u32 (x / 536870912) 1 != 0) = decU x := bit_neq x _ h0 h1 (by omega)
 have hv : (bits .and .u32 (x / 268435456) 1 != 0) = decV x := bit_neq x _ h0 h1 (by omega)
 have ha : bits .and .u32 (x / 16777216) 15 = decA x := and15' x _ h0 h1 (by omega)
 have hA0 : 0 ≤ decA x := by unfold decA; omega
 have hA1 : decA x ≤ 15 := by unfold decA; omega
 have HT := tabHid hT
 clear hT
 go_enter Tryz.func35, Tryz.ntmps35
 go_wp2_with (first | (go_at_call 51; refine (sext24 x h0 h1 _).mono ?_; rintro e w' ⟨rfl, rfl⟩) | (go_at_call 52; refine (enc_any _ _ _ _ _ _ _ _ _ (HT.out _ (by go_grown))).mono ?_; rintro e w1 ⟨rfl, hb1⟩; have hs1 := hb1.size; obtain ⟨hi, hj⟩ := bcell hb1; simp only [World.size_alloc, World.size_setCell] at hi hj))
 refine bodyPost_ret (v := .tuple #[noIns, .bool false]) ?_ rfl ⟨rfl, ?_⟩
 ·clear HT hs1 hb1 hj
  have c0 : w1.cell? ⟨w.heap.size, 0, none⟩ = some (.int .i64 0) := by rw [hi _ _ (by omega)]; simp [wA]
  have c1 : w1.cell? ⟨w.heap.size, 1, none⟩ = some (.bool false) := by rw [hi _ _ (by omega)]; simp [wA]
  have c2 : w1.cell? ⟨w.heap.size, 2, none⟩ = some (.bool false) := by rw [hi _ _ (by omega)]; simp [wA]
  have c3 : w1.cell? ⟨w.heap.size, 3, none⟩ = some (.int .i64 0) := by rw [hi _ _ (by omega)]; simp [wA]
  have c4 : w1.cell? ⟨w.heap.size, 4, none⟩ = some (.int .i64 0) := by rw [hi _ _ (by omega)]; simp [wA]
  have c5 : w1.cell? ⟨w.heap.size, 5, none⟩ = some (.int .i64 0) := by rw [hi _ _ (by omega)]; simp [wA]
  have c6 : w1.cell? ⟨w.heap.size, 6, none⟩ = some (.int .i64 0) := by rw [hi _ _ (by omega)]; simp [wA]
  have c7 : w1.cell? ⟨w.heap.size, 7, none⟩ = some (.int .i64 0) := by rw [hi _ _ (by omega)]; simp [wA]
  clear hi
  simp [results, Tryz.results35, go_sem, ins, noIns, *]
 ·iterate 8 refine belSet ?_ _ _
  exact bel2 hb1
theorem dec_3ub (x : Int) (h0 : 0 ≤ x) (h1 : x < 4294967296) (hf : x / 1073741824 = 3) (hU : decU x = true) (hE : (encE 3 true (decV x) (decA x) 0 0 0 (sextV x 24) != 0) = false) (hR : (encR 3 true (decV x) (decA x) 0 0 0 (sextV x 24) != x) = true) (w : World) (hT : Tab w) :
 Calls Tryz.prog 35 #[.int .u32 x] w fun e w' => e = .returned (.tuple #[noIns, .bool false]) ∧ Below w.heap.size w w' := by
 have hu : (bits .and .u32 (x / 536870912) 1 != 0) = decU x := bit_neq x _ h0 h1 (by omega)
 have hv : (bits .and .u32 (x / 268435456) 1 != 0) = decV x := bit_neq x _ h0 h1 (by omega)
 have ha : bits .and .u32 (x / 16777216) 15 = decA x := and15' x _ h0 h1 (by omega)
 have hA0 : 0 ≤ decA x := by unfold decA; omega
 have hA1 : decA x ≤ 15 := by unfold decA; omega
 have HT := tabHid hT
 clear hT
 go_enter Tryz.func35, Tryz.ntmps35
 go_wp2_with (first | (go_at_call 51; refine (sext24 x h0 h1 _).mono ?_; rintro e w' ⟨rfl, rfl⟩) | (go_at_call 52; refine (enc_any _ _ _ _ _ _ _ _ _ (HT.out _ (by go_grown))).mono ?_; rintro e w1 ⟨rfl, hb1⟩; have hs1 := hb1.size; obtain ⟨hi, hj⟩ := bcell hb1; simp only [World.size_alloc, World.size_setCell] at hi hj))
 refine bodyPost_ret (v := .tuple #[noIns, .bool false]) ?_ rfl ⟨rfl, ?_⟩
 ·clear HT hs1 hb1 hj
  have c0 : w1.cell? ⟨w.heap.size, 0, none⟩ = some (.int .i64 0) := by rw [hi _ _ (by omega)]; simp [wA]
  have c1 : w1.cell? ⟨w.heap.size, 1, none⟩ = some (.bool false) := by rw [hi _ _ (by omega)]; simp [wA]
  have c2 : w1.cell? ⟨w.heap.size, 2, none⟩ = some (.bool false) := by rw [hi _ _ (by omega)]; simp [wA]
  have c3 : w1.cell? ⟨w.heap.size, 3, none⟩ = some (.int .i64 0) := by rw [hi _ _ (by omega)]; simp [wA]
  have c4 : w1.cell? ⟨w.heap.size, 4, none⟩ = some (.int .i64 0) := by rw [hi _ _ (by omega)]; simp [wA]
  have c5 : w1.cell? ⟨w.heap.size, 5, none⟩ = some (.int .i64 0) := by rw [hi _ _ (by omega)]; simp [wA]
  have c6 : w1.cell? ⟨w.heap.size, 6, none⟩ = some (.int .i64 0) := by rw [hi _ _ (by omega)]; simp [wA]
  have c7 : w1.cell? ⟨w.heap.size, 7, none⟩ = some (.int .i64 0) := by rw [hi _ _ (by omega)]; simp [wA]
  clear hi
  simp [results, Tryz.results35, go_sem, ins, noIns, *]
 ·iterate 8 refine belSet ?_ _ _
  exact bel2 hb1
theorem dec_3uc (x : Int) (h0 : 0 ≤ x) (h1 : x < 4294967296) (hf : x / 1073741824 = 3) (hU : decU x = true) (hE : (encE 3 true (decV x) (decA x) 0 0 0 (sextV x 24) != 0) = false) (hR : (encR 3 true (decV x) (decA x) 0 0 0 (sextV x 24) != x) = false) (w : World) (hT : Tab w) :
 Calls Tryz.prog 35 #[.int .u32 x] w fun e w' => e = .returned (.tuple #[(ins 3 true (decV x) (decA x) 0 0 0 (sextV x 24)), .bool true]) ∧ Below w.heap.size w w' := by
 have hu : (bits .and .u32 (x / 536870912) 1 != 0) = decU x := bit_neq x _ h0 h1 (by omega)
 have hv : (bits .and .u32 (x / 268435456) 1 != 0) = decV x := bit_neq x _ h0 h1 (by omega)
 have ha : bits .and .u32 (x / 16777216) 15 = decA x := and15' x _ h0 h1 (by omega)
 have hA0 : 0 ≤ decA x := by unfold decA; omega
 have hA1 : decA x ≤ 15 := by unfold decA; omega
 have HT := tabHid hT
 clear hT
 go_enter Tryz.func35, Tryz.ntmps35
 go_wp2_with (first | (go_at_call 51; refine (sext24 x h0 h1 _).mono ?_; rintro e w' ⟨rfl, rfl⟩) | (go_at_call 52; refine (enc_any _ _ _ _ _ _ _ _ _ (HT.out _ (by go_grown))).mono ?_; rintro e w1 ⟨rfl, hb1⟩; have hs1 := hb1.size; obtain ⟨hi, hj⟩ := bcell hb1; simp only [World.size_alloc, World.size_setCell] at hi hj))
 refine bodyPost_ret (v := .tuple #[(ins 3 true (decV x) (decA x) 0 0 0 (sextV x 24)), .bool true]) ?_ rfl ⟨rfl, ?_⟩
 ·clear HT hs1 hb1 hj
  have c0 : w1.cell? ⟨w.heap.size, 0, none⟩ = some (.int .i64 0) := by rw [hi _ _ (by omega)]; simp [wA]
  have c1 : w1.cell? ⟨w.heap.size, 1, none⟩ = some (.bool false) := by rw [hi _ _ (by omega)]; simp [wA]
  have c2 : w1.cell? ⟨w.heap.size, 2, none⟩ = some (.bool false) := by rw [hi _ _ (by omega)]; simp [wA]
  have c3 : w1.cell? ⟨w.heap.size, 3, none⟩ = some (.int .i64 0) := by rw [hi _ _ (by omega)]; simp [wA]
  have c4 : w1.cell? ⟨w.heap.size, 4, none⟩ = some (.int .i64 0) := by rw [hi _ _ (by omega)]; simp [wA]
  have c5 : w1.cell? ⟨w.heap.size, 5, none⟩ = some (.int .i64 0) := by rw [hi _ _ (by omega)]; simp [wA]
  have c6 : w1.cell? ⟨w.heap.size, 6, none⟩ = some (.int .i64 0) := by rw [hi _ _ (by omega)]; simp [wA]
  have c7 : w1.cell? ⟨w.heap.size, 7, none⟩ = some (.int .i64 0) := by rw [hi _ _ (by omega)]; simp [wA]
  clear hi
  simp [results, Tryz.results35, go_sem, ins, noIns, *]
 ·iterate 8 refine belSet ?_ _ _
  exact bel2 hb1
theorem dec_3na (x : Int) (h0 : 0 ≤ x) (h1 : x < 4294967296) (hf : x / 1073741824 = 3) (hU : decU x = false) (hE : (encE 3 false (decV x) (decA x) 0 0 (x % 16) 0 != 0) = true) (w : World) (hT : Tab w) :
 Calls Tryz.prog 35 #[.int .u32 x] w fun e w' => e = .returned (.tuple #[noIns, .bool false]) ∧ Below w.heap.size w w' := by
 have hu : (bits .and .u32 (x / 536870912) 1 != 0) = decU x := bit_neq x _ h0 h1 (by omega)
 have hv : (bits .and .u32 (x / 268435456) 1 != 0) = decV x := bit_neq x _ h0 h1 (by omega)
 have ha : bits .and .u32 (x / 16777216) 15 = decA x := and15' x _ h0 h1 (by omega)
 have hc : bits .and .u32 x 15 = x % 16 := and15z x h0 h1
 have hA0 : 0 ≤ decA x := by unfold decA; omega
 have hA1 : decA x ≤ 15 := by unfold decA; omega
 have HT := tabHid hT
 clear hT
 go_enter Tryz.func35, Tryz.ntmps35
 go_wp2_with (first | (go_at_call 52; refine (enc_any _ _ _ _ _ _ _ _ _ (HT.out _ (by go_grown))).mono ?_; rintro e w1 ⟨rfl, hb1⟩; have hs1 := hb1.size; obtain ⟨hi, hj⟩ := bcell hb1; simp only [World.size_alloc, World.size_setCell] at hi hj))
 refine bodyPost_ret (v := .tuple #[noIns, .bool false]) ?_ rfl ⟨rfl, ?_⟩
 ·clear HT hs1 hb1 hj
  have c0 : w1.cell? ⟨w.heap.size, 0, none⟩ = some (.int .i64 0) := by rw [hi _ _ (by omega)]; simp [wA]
  have c1 : w1.cell? ⟨w.heap.size, 1, none⟩ = some (.bool false) := by rw [hi _ _ (by omega)]; simp [wA]
  have c2 : w1.cell? ⟨w.heap.size, 2, none⟩ = some (.bool false) := by rw [hi _ _ (by omega)]; simp [wA]
  have c3 : w1.cell? ⟨w.heap.size, 3, none⟩ = some (.int .i64 0) := by rw [hi _ _ (by omega)]; simp [wA]
  have c4 : w1.cell? ⟨w.heap.size, 4, none⟩ = some (.int .i64 0) := by rw [hi _ _ (by omega)]; simp [wA]
  have c5 : w1.cell? ⟨w.heap.size, 5, none⟩ = some (.int .i64 0) := by rw [hi _ _ (by omega)]; simp [wA]
  have c6 : w1.cell? ⟨w.heap.size, 6, none⟩ = some (.int .i64 0) := by rw [hi _ _ (by omega)]; simp [wA]
  have c7 : w1.cell? ⟨w.heap.size, 7, none⟩ = some (.int .i64 0) := by rw [hi _ _ (by omega)]; simp [wA]
  clear hi
  simp [results, Tryz.results35, go_sem, ins, noIns, *]
 ·iterate 8 refine belSet ?_ _ _
  exact bel2 hb1
theorem dec_3nb (x : Int) (h0 : 0 ≤ x) (h1 : x < 4294967296) (hf : x / 1073741824 = 3) (hU : decU x = false) (hE : (encE 3 false (decV x) (decA x) 0 0 (x % 16) 0 != 0) = false) (hR : (encR 3 false (decV x) (decA x) 0 0 (x % 16) 0 != x) = true) (w : World) (hT : Tab w) :
 Calls Tryz.prog 35 #[.int .u32 x] w fun e w' => e = .returned (.tuple #[noIns, .bool false]) ∧ Below w.heap.size w w' := by
 have hu : (bits .and .u32 (x / 536870912) 1 != 0) = decU x := bit_neq x _ h0 h1 (by omega)
 have hv : (bits .and .u32 (x / 268435456) 1 != 0) = decV x := bit_neq x _ h0 h1 (by omega)
 have ha : bits .and .u32 (x / 16777216) 15 = decA x := and15' x _ h0 h1 (by omega)
 have hc : bits .and .u32 x 15 = x % 16 := and15z x h0 h1
 have hA0 : 0 ≤ decA x := by unfold decA; omega
 have hA1 : decA x ≤ 15 := by unfold decA; omega
 have HT := tabHid hT
 clear hT
 go_enter Tryz.func35, Tryz.ntmps35
 go_wp2_with (first | (go_at_call 52; refine (enc_any _ _ _ _ _ _ _ _ _ (HT.out _ (by go_grown))).mono ?_; rintro e w1 ⟨rfl, hb1⟩; have hs1 := hb1.size; obtain ⟨hi, hj⟩ := bcell hb1; simp only [World.size_alloc, World.size_setCell] at hi hj))
 refine bodyPost_ret (v := .tuple #[noIns, .bool false]) ?_ rfl ⟨rfl, ?_⟩
 ·clear HT hs1 hb1 hj
  have c0 : w1.cell? ⟨w.heap.size, 0, none⟩ = some (.int .i64 0) := by rw [hi _ _ (by omega)]; simp [wA]
  have c1 : w1.cell? ⟨w.heap.size, 1, none⟩ = some (.bool false) := by rw [hi _ _ (by omega)]; simp [wA]
  have c2 : w1.cell? ⟨w.heap.size, 2, none⟩ = some (.bool false) := by rw [hi _ _ (by omega)]; simp [wA]
  have c3 : w1.cell? ⟨w.heap.size, 3, none⟩ = some (.int .i64 0) := by rw [hi _ _ (by omega)]; simp [wA]
  have c4 : w1.cell? ⟨w.heap.size, 4, none⟩ = some (.int .i64 0) := by rw [hi _ _ (by omega)]; simp [wA]
  have c5 : w1.cell? ⟨w.heap.size, 5, none⟩ = some (.int .i64 0) := by rw [hi _ _ (by omega)]; simp [wA]
  have c6 : w1.cell? ⟨w.heap.size, 6, none⟩ = some (.int .i64 0) := by rw [hi _ _ (by omega)]; simp [wA]
  have c7 : w1.cell? ⟨w.heap.size, 7, none⟩ = some (.int .i64 0) := by rw [hi _ _ (by omega)]; simp [wA]
  clear hi
  simp [results, Tryz.results35, go_sem, ins, noIns, *]
 ·iterate 8 refine belSet ?_ _ _
  exact bel2 hb1
theorem dec_3nc (x : Int) (h0 : 0 ≤ x) (h1 : x < 4294967296) (hf : x / 1073741824 = 3) (hU : decU x = false) (hE : (encE 3 false (decV x) (decA x) 0 0 (x % 16) 0 != 0) = false) (hR : (encR 3 false (decV x) (decA x) 0 0 (x % 16) 0 != x) = false) (w : World) (hT : Tab w) :
 Calls Tryz.prog 35 #[.int .u32 x] w fun e w' => e = .returned (.tuple #[(ins 3 false (decV x) (decA x) 0 0 (x % 16) 0), .bool true]) ∧ Below w.heap.size w w' := by
 have hu : (bits .and .u32 (x / 536870912) 1 != 0) = decU x := bit_neq x _ h0 h1 (by omega)
 have hv : (bits .and .u32 (x / 268435456) 1 != 0) = decV x := bit_neq x _ h0 h1 (by omega)
 have ha : bits .and .u32 (x / 16777216) 15 = decA x := and15' x _ h0 h1 (by omega)
 have hc : bits .and .u32 x 15 = x % 16 := and15z x h0 h1
 have hA0 : 0 ≤ decA x := by unfold decA; omega
 have hA1 : decA x ≤ 15 := by unfold decA; omega
 have HT := tabHid hT
 clear hT
 go_enter Tryz.func35, Tryz.ntmps35
 go_wp2_with (first | (go_at_call 52; refine (enc_any _ _ _ _ _ _ _ _ _ (HT.out _ (by go_grown))).mono ?_; rintro e w1 ⟨rfl, hb1⟩; have hs1 := hb1.size; obtain ⟨hi, hj⟩ := bcell hb1; simp only [World.size_alloc, World.size_setCell] at hi hj))
 refine bodyPost_ret (v := .tuple #[(ins 3 false (decV x) (decA x) 0 0 (x % 16) 0), .bool true]) ?_ rfl ⟨rfl, ?_⟩
 ·clear HT hs1 hb1 hj
  have c0 : w1.cell? ⟨w.heap.size, 0, none⟩ = some (.int .i64 0) := by rw [hi _ _ (by omega)]; simp [wA]
  have c1 : w1.cell? ⟨w.heap.size, 1, none⟩ = some (.bool false) := by rw [hi _ _ (by omega)]; simp [wA]
  have c2 : w1.cell? ⟨w.heap.size, 2, none⟩ = some (.bool false) := by rw [hi _ _ (by omega)]; simp [wA]
  have c3 : w1.cell? ⟨w.heap.size, 3, none⟩ = some (.int .i64 0) := by rw [hi _ _ (by omega)]; simp [wA]
  have c4 : w1.cell? ⟨w.heap.size, 4, none⟩ = some (.int .i64 0) := by rw [hi _ _ (by omega)]; simp [wA]
  have c5 : w1.cell? ⟨w.heap.size, 5, none⟩ = some (.int .i64 0) := by rw [hi _ _ (by omega)]; simp [wA]
  have c6 : w1.cell? ⟨w.heap.size, 6, none⟩ = some (.int .i64 0) := by rw [hi _ _ (by omega)]; simp [wA]
  have c7 : w1.cell? ⟨w.heap.size, 7, none⟩ = some (.int .i64 0) := by rw [hi _ _ (by omega)]; simp [wA]
  clear hi
  simp [results, Tryz.results35, go_sem, ins, noIns, *]
 ·iterate 8 refine belSet ?_ _ _
  exact bel2 hb1
theorem bflipT {p q : Bool} (h : p = !q) (hp : p = false) : q = true := by cases q <;> simp_all
theorem bflipF {p q : Bool} (h : p = !q) (hp : p = true) : q = false := by cases q <;> simp_all
theorem encE_ne (f : Int) (u v : Bool) (a b op c n : Int) : (encE f u v a b op c n != 0) = !rightB f u v a b op c n := by unfold encE; cases rightB f u v a b op c n <;> rfl
theorem dec_sel (x f : Int) (u v : Bool) (a b op c n : Int) (hE : (encE f u v a b op c n != 0) = false) : (encR f u v a b op c n != x) = !(rightB f u v a b op c n && decide (encW f u v a b op c n = x)) := by
 rw [encE_ne] at hE
 have hr : rightB f u v a b op c n = true := by simpa using hE
 unfold encR
 rw [hr, bne_dec]
 simp
def decRes (x : Int) : Value := if decOk x then decI x else noIns
theorem dec_any (x : Int) (h0 : 0 ≤ x) (h1 : x < 4294967296) (w : World) (hT : Tab w) :
 Calls Tryz.prog 35 #[.int .u32 x] w fun e w' => e = .returned (.tuple #[decRes x, .bool (decOk x)]) ∧ Below w.heap.size w w' := by
 have hF : x / 1073741824 = 0 ∨ x / 1073741824 = 1 ∨ x / 1073741824 = 2 ∨ x / 1073741824 = 3 := by omega
 have key_0 : ∀ (h : x / 1073741824 = 0), Calls Tryz.prog 35 #[.int .u32 x] w fun e w' => e = .returned (.tuple #[decRes x, .bool (decOk x)]) ∧ Below w.heap.size w w' := by
  intro h
  have e1 : decI x = ins 0 (decU x) (decV x) (decA x) (x / 1048576 % 16) (x / 65536 % 16) (x % 16) 0 := by unfold decI decF decB decO decC decN decF; simp [h]
  have e2 : decOk x = (rightB 0 (decU x) (decV x) (decA x) (x / 1048576 % 16) (x / 65536 % 16) (x % 16) 0 && decide (encW 0 (decU x) (decV x) (decA x) (x / 1048576 % 16) (x / 65536 % 16) (x % 16) 0 = x)) := by unfold decOk decR decW decF decB decO decC decN decF; simp [h]
  cases hE : (encE 0 (decU x) (decV x) (decA x) (x / 1048576 % 16) (x / 65536 % 16) (x % 16) 0 != 0)
  ·cases hR : (encR 0 (decU x) (decV x) (decA x) (x / 1048576 % 16) (x / 65536 % 16) (x % 16) 0 != x)
   ·have hk : decOk x = true := by rw [e2]; exact bflipT (dec_sel x _ _ _ _ _ _ _ _ hE) hR
    unfold decRes
    rw [hk, if_pos rfl, e1]
    exact dec_0c x h0 h1 h hE hR w hT
   ·have hk : decOk x = false := by rw [e2]; exact bflipF (dec_sel x _ _ _ _ _ _ _ _ hE) hR
    unfold decRes
    rw [hk, if_neg Bool.false_ne_true]
    exact dec_0b x h0 h1 h hE hR w hT
  ·have hk : decOk x = false := by rw [e2]; rw [encE_ne] at hE; simp only [Bool.not_eq_true'] at hE; rw [hE]; rfl
   unfold decRes
   rw [hk, if_neg Bool.false_ne_true]
   exact dec_0a x h0 h1 h hE w hT
 have key_1 : ∀ (h : x / 1073741824 = 1), Calls Tryz.prog 35 #[.int .u32 x] w fun e w' => e = .returned (.tuple #[decRes x, .bool (decOk x)]) ∧ Below w.heap.size w w' := by
  intro h
  have e1 : decI x = ins 1 (decU x) (decV x) (decA x) (x / 1048576 % 16) (x / 65536 % 16) 0 (x % 65536) := by unfold decI decF decB decO decC decN decF; simp [h]
  have e2 : decOk x = (rightB 1 (decU x) (decV x) (decA x) (x / 1048576 % 16) (x / 65536 % 16) 0 (x % 65536) && decide (encW 1 (decU x) (decV x) (decA x) (x / 1048576 % 16) (x / 65536 % 16) 0 (x % 65536) = x)) := by unfold decOk decR decW decF decB decO decC decN decF; simp [h]
  cases hE : (encE 1 (decU x) (decV x) (decA x) (x / 1048576 % 16) (x / 65536 % 16) 0 (x % 65536) != 0)
  ·cases hR : (encR 1 (decU x) (decV x) (decA x) (x / 1048576 % 16) (x / 65536 % 16) 0 (x % 65536) != x)
   ·have hk : decOk x = true := by rw [e2]; exact bflipT (dec_sel x _ _ _ _ _ _ _ _ hE) hR
    unfold decRes
    rw [hk, if_pos rfl, e1]
    exact dec_1c x h0 h1 h hE hR w hT
   ·have hk : decOk x = false := by rw [e2]; exact bflipF (dec_sel x _ _ _ _ _ _ _ _ hE) hR
    unfold decRes
    rw [hk, if_neg Bool.false_ne_true]
    exact dec_1b x h0 h1 h hE hR w hT
  ·have hk : decOk x = false := by rw [e2]; rw [encE_ne] at hE; simp only [Bool.not_eq_true'] at hE; rw [hE]; rfl
   unfold decRes
   rw [hk, if_neg Bool.false_ne_true]
   exact dec_1a x h0 h1 h hE w hT
 have key_2 : ∀ (h : x / 1073741824 = 2), Calls Tryz.prog 35 #[.int .u32 x] w fun e w' => e = .returned (.tuple #[decRes x, .bool (decOk x)]) ∧ Below w.heap.size w w' := by
  intro h
  have e1 : decI x = ins 2 (decU x) (decV x) (decA x) (x / 1048576 % 16) 0 0 (sextV x 20) := by unfold decI decF decB decO decC decN decF; simp [h]
  have e2 : decOk x = (rightB 2 (decU x) (decV x) (decA x) (x / 1048576 % 16) 0 0 (sextV x 20) && decide (encW 2 (decU x) (decV x) (decA x) (x / 1048576 % 16) 0 0 (sextV x 20) = x)) := by unfold decOk decR decW decF decB decO decC decN decF; simp [h]
  cases hE : (encE 2 (decU x) (decV x) (decA x) (x / 1048576 % 16) 0 0 (sextV x 20) != 0)
  ·cases hR : (encR 2 (decU x) (decV x) (decA x) (x / 1048576 % 16) 0 0 (sextV x 20) != x)
   ·have hk : decOk x = true := by rw [e2]; exact bflipT (dec_sel x _ _ _ _ _ _ _ _ hE) hR
    unfold decRes
    rw [hk, if_pos rfl, e1]
    exact dec_2c x h0 h1 h hE hR w hT
   ·have hk : decOk x = false := by rw [e2]; exact bflipF (dec_sel x _ _ _ _ _ _ _ _ hE) hR
    unfold decRes
    rw [hk, if_neg Bool.false_ne_true]
    exact dec_2b x h0 h1 h hE hR w hT
  ·have hk : decOk x = false := by rw [e2]; rw [encE_ne] at hE; simp only [Bool.not_eq_true'] at hE; rw [hE]; rfl
   unfold decRes
   rw [hk, if_neg Bool.false_ne_true]
   exact dec_2a x h0 h1 h hE w hT
 have key_3u : ∀ (h : x / 1073741824 = 3) (hU : decU x = true), Calls Tryz.prog 35 #[.int .u32 x] w fun e w' => e = .returned (.tuple #[decRes x, .bool (decOk x)]) ∧ Below w.heap.size w w' := by
  intro h hU
  have e1 : decI x = ins 3 true (decV x) (decA x) 0 0 0 (sextV x 24) := by unfold decI decF decB decO decC decN decF; simp [h, hU]
  have e2 : decOk x = (rightB 3 true (decV x) (decA x) 0 0 0 (sextV x 24) && decide (encW 3 true (decV x) (decA x) 0 0 0 (sextV x 24) = x)) := by unfold decOk decR decW decF decB decO decC decN decF; simp [h, hU]
  cases hE : (encE 3 true (decV x) (decA x) 0 0 0 (sextV x 24) != 0)
  ·cases hR : (encR 3 true (decV x) (decA x) 0 0 0 (sextV x 24) != x)
   ·have hk : decOk x = true := by rw [e2]; exact bflipT (dec_sel x _ _ _ _ _ _ _ _ hE) hR
    unfold decRes
    rw [hk, if_pos rfl, e1]
    exact dec_3uc x h0 h1 h hU hE hR w hT
   ·have hk : decOk x = false := by rw [e2]; exact bflipF (dec_sel x _ _ _ _ _ _ _ _ hE) hR
    unfold decRes
    rw [hk, if_neg Bool.false_ne_true]
    exact dec_3ub x h0 h1 h hU hE hR w hT
  ·have hk : decOk x = false := by rw [e2]; rw [encE_ne] at hE; simp only [Bool.not_eq_true'] at hE; rw [hE]; rfl
   unfold decRes
   rw [hk, if_neg Bool.false_ne_true]
   exact dec_3ua x h0 h1 h hU hE w hT
 have key_3n : ∀ (h : x / 1073741824 = 3) (hU : decU x = false), Calls Tryz.prog 35 #[.int .u32 x] w fun e w' => e = .returned (.tuple #[decRes x, .bool (decOk x)]) ∧ Below w.heap.size w w' := by
  intro h hU
  have e1 : decI x = ins 3 false (decV x) (decA x) 0 0 (x % 16) 0 := by unfold decI decF decB decO decC decN decF; simp [h, hU]
  have e2 : decOk x = (rightB 3 false (decV x) (decA x) 0 0 (x % 16) 0 && decide (encW 3 false (decV x) (decA x) 0 0 (x % 16) 0 = x)) := by unfold decOk decR decW decF decB decO decC decN decF; simp [h, hU]
  cases hE : (encE 3 false (decV x) (decA x) 0 0 (x % 16) 0 != 0)
  ·cases hR : (encR 3 false (decV x) (decA x) 0 0 (x % 16) 0 != x)
   ·have hk : decOk x = true := by rw [e2]; exact bflipT (dec_sel x _ _ _ _ _ _ _ _ hE) hR
    unfold decRes
    rw [hk, if_pos rfl, e1]
    exact dec_3nc x h0 h1 h hU hE hR w hT
   ·have hk : decOk x = false := by rw [e2]; exact bflipF (dec_sel x _ _ _ _ _ _ _ _ hE) hR
    unfold decRes
    rw [hk, if_neg Bool.false_ne_true]
    exact dec_3nb x h0 h1 h hU hE hR w hT
  ·have hk : decOk x = false := by rw [e2]; rw [encE_ne] at hE; simp only [Bool.not_eq_true'] at hE; rw [hE]; rfl
   unfold decRes
   rw [hk, if_neg Bool.false_ne_true]
   exact dec_3na x h0 h1 h hU hE w hT
 rcases hF with h | h | h | h
 ·exact key_0 h
 ·exact key_1 h
 ·exact key_2 h
 ·cases hU : decU x
  ·exact key_3n h hU
  ·exact key_3u h hU
end Go.Proofs.YtgcknekhimpfkaaGreatDoor
