/- A trap with a vector: plain facts. -/
import Derived.Test.YtgcknekhimpfkaaDoorMachK
import Derived.Test.YtgcknekhimpfkaaDoorQH
namespace Go.Proofs.YtgcknekhimpfkaaDoor
open Go Go.RowKit Go.Lib Go.Proofs.YtgcknekhimpfkaaDoor.Pl
set_option linter.unusedVariables false
set_option linter.unusedSimpArgs false
/-- A TRAP's word. -/
theorem trap_dec (n : Int) (h0 : 0 < n) (h1 : n ≤ 65535) : decOk (1074724864 + n) = true ∧ inOf (1074724864 + n) = ⟨1, false, false, 0, 0, 15, 0, n⟩ := by
  have e1 : decF (1074724864 + n) = 1 := by unfold decF; omega
  have e2 : decU (1074724864 + n) = false := by unfold decU; exact decide_eq_false (by omega)
  have e3 : decV (1074724864 + n) = false := by unfold decV; exact decide_eq_false (by omega)
  have e4 : decA (1074724864 + n) = 0 := by unfold decA; omega
  have e5 : decB (1074724864 + n) = 0 := by unfold decB; rw [e1, if_neg (by decide)]; omega
  have e6 : decO (1074724864 + n) = 15 := by unfold decO; rw [e1, if_pos (.inr rfl)]; omega
  have e7 : decC (1074724864 + n) = 0 := by unfold decC; rw [e1, if_neg (by simp)]
  have e8 : decN (1074724864 + n) = n := by unfold decN; rw [e1, if_pos rfl]; omega
  have hr : rightB 1 false false 0 0 15 0 n = true := by
    unfold rightB reckB reg
    simp
    omega
  have hw : encW 1 false false 0 0 15 0 n = 1074724864 + n := by
    unfold encW encN cr
    simp
  have hd : decOk (1074724864 + n) = true := by
    unfold decOk decR decW
    rw [e1, e2, e3, e4, e5, e6, e7, e8, hr, hw]
    simp
  refine ⟨hd, ?_⟩
  unfold inOf
  rw [hd, if_pos rfl, e1, e2, e3, e4, e5, e6, e7, e8]
theorem trap_ex (n l : Int) (h0 : 0 < n) (h1 : n ≤ 65535) (cs : Array Value) : (⟨1, false, false, 0, 0, 15, 0, n⟩ : In8).ex cs l = (cs, n, true) := by
  have hr : rightB 1 false false 0 0 15 0 n = true := by
    unfold rightB reckB reg
    simp
    omega
  unfold In8.ex exV
  rw [hr, if_neg (by simp), if_neg (by simp), if_neg (by simp)]
  unfold exAlu
  rw [if_pos rfl]
theorem getV_laid (M : Nat → Int) (P : Nat) (y : Int) (y0 : 0 ≤ y) (y1 : y < 4294967296) : getV (laid4 M P y) P = y := by
  unfold getV laid4
  rw [if_pos (by omega), if_pos (by omega), if_pos (by omega), if_pos (by omega), show P - P = 0 from by omega, show P + 1 - P = 1 from by omega, show P + 2 - P = 2 from by omega, show P + 3 - P = 3 from by omega]
  simp only [wbyte]
  omega
theorem getV_far (M : Nat → Int) (P X : Nat) (y : Int) (h : X + 4 ≤ P ∨ P + 4 ≤ X) : getV (laid4 M X y) P = getV M P := by
  unfold getV laid4
  rw [if_neg (by omega), if_neg (by omega), if_neg (by omega), if_neg (by omega)]
theorem getV_words (f : Nat → Int) (n j : Nat) (hj : j < n) (h0 : 0 ≤ f j) (h1 : f j < 4294967296) : getV (wordsM f n) (4 * j) = f j := by
  unfold getV wordsM
  rw [if_pos (by omega), if_pos (by omega), if_pos (by omega), if_pos (by omega), show 4 * j / 4 = j from by omega, show (4 * j + 1) / 4 = j from by omega, show (4 * j + 2) / 4 = j from by omega, show (4 * j + 3) / 4 = j from by omega,
    show 4 * j % 4 = 0 from by omega, show (4 * j + 1) % 4 = 1 from by omega, show (4 * j + 2) % 4 = 2 from by omega, show (4 * j + 3) % 4 = 3 from by omega]
  simp only [wbyte]
  omega
def vecF (q : Nat) (n z : Int) (i : Nat) : Int := if i = 4 then z else if i = q then 1074724864 + n else 0
theorem vecF_bd (q : Nat) (n z : Int) (h0 : 0 < n) (h1 : n ≤ 65535) (z0 : 0 ≤ z) (z1 : z < 4294967296) (i : Nat) : 0 ≤ vecF q n z i ∧ vecF q n z i < 4294967296 := by
  unfold vecF
  split
  · omega
  split <;> omega
def vecX (q : Nat) (n z : Int) : BS := ⟨wordsM (vecF q n z) 1010, [], [], 0, 0, 0, 0, 8, fun _ => nought, []⟩
theorem vec_run (q : Nat) (n z : Int) (q0 : 16 ≤ q) (q1 : q ≤ 1000) (h0 : 0 < n) (h1 : n ≤ 65535) (z0 : 0 ≤ z) (z1 : z < 4294967296) (hz : z ≠ 0) :
    runM (-1) 1 (mcpu0 ((4 * q : Nat) : Int)) (vecX q n z) (lookV (-1) 0) 0 = ⟨1, 0, 0, 1, (mcpu0 ((4 * q : Nat) : Int)).setIfInBounds 21 (.int .u32 z), { vecX q n z with M := laid4 (laid4 (vecX q n z).M 20 n) 24 ((4 * q : Nat) : Int) }, false⟩ := by
  have hf := vecF_bd q n z h0 h1 z0 z1
  have hpc : pcOf (mcpu0 ((4 * q : Nat) : Int)) = ((4 * q : Nat) : Int) := rfl
  have hw : getV (vecX q n z).M (pcOf (mcpu0 ((4 * q : Nat) : Int))).toNat = 1074724864 + n := by
    rw [hpc, Int.toNat_natCast]
    show getV (wordsM (vecF q n z) 1010) (4 * q) = _
    rw [getV_words _ _ _ (by omega) (hf q).1 (hf q).2]
    unfold vecF
    rw [if_neg (by omega), if_pos rfl]
  have h16 : getV (vecX q n z).M 16 = z := by
    show getV (wordsM (vecF q n z) 1010) (4 * 4) = _
    rw [getV_words _ _ _ (by omega) (hf 4).1 (hf 4).2]
    unfold vecF
    rw [if_pos rfl]
  obtain ⟨hd, hi⟩ := trap_dec n h0 h1
  have hs : stepM (mcpu0 ((4 * q : Nat) : Int)) (vecX q n z) = .go ((mcpu0 ((4 * q : Nat) : Int)).setIfInBounds 21 (.int .u32 z)) { vecX q n z with M := laid4 (laid4 (vecX q n z).M 20 n) 24 ((4 * q : Nat) : Int) } false := by
    unfold stepM
    rw [if_pos (by rw [hpc]; omega), hw, hd, if_pos rfl, hi]
    have ha : (vecX q n z).act (⟨1, false, false, 0, 0, 15, 0, n⟩ : In8).k ((⟨1, false, false, 0, 0, 15, 0, n⟩ : In8).ad (mcpu0 ((4 * q : Nat) : Int))) ((⟨1, false, false, 0, 0, 15, 0, n⟩ : In8).val (mcpu0 ((4 * q : Nat) : Int))) = (0, 0, vecX q n z) := rfl
    rw [ha]
    unfold doneM
    simp only [trap_ex n 0 h0 h1]
    rw [if_neg (by decide), if_neg (by decide), if_pos trivial]
    unfold trapM
    rw [if_neg (by omega), h16, if_neg hz, hpc, show n % 4294967296 = n from by omega]
  rw [show lookV (-1) 0 = false from rfl, runO hs]
  rfl
theorem vec_told (q : Nat) (n z : Int) (h0 : 0 < n) (h1 : n ≤ 65535) (q1 : q ≤ 1000) : getV (laid4 (laid4 (vecX q n z).M 20 n) 24 ((4 * q : Nat) : Int)) 20 = n ∧ getV (laid4 (laid4 (vecX q n z).M 20 n) 24 ((4 * q : Nat) : Int)) 24 = ((4 * q : Nat) : Int) := by
  refine ⟨?_, getV_laid _ _ _ (by omega) (by omega)⟩
  rw [getV_far _ _ _ _ (by omega), getV_laid _ _ _ (by omega) (by omega)]
end Go.Proofs.YtgcknekhimpfkaaDoor
