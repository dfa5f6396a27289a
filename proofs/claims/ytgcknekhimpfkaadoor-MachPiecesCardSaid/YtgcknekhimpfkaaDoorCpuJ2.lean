/- The instruction that a word is: all words. -/
import Derived.Test.YtgcknekhimpfkaaDoorCpuJ
namespace Go.Proofs.YtgcknekhimpfkaaDoor
open Go Go.RowKit Go.Lib Go.Proofs.YtgcknekhimpfkaaDoor.Pl
set_option linter.unusedVariables false
set_option linter.unusedSimpArgs false
theorem bflipT {p q : Bool} (h : p = !q) (hp : p = false) : q = true := by cases q <;> simp_all
theorem bflipF {p q : Bool} (h : p = !q) (hp : p = true) : q = false := by cases q <;> simp_all
theorem encE_ne (f : Int) (u v : Bool) (a b op c n : Int) : (encE f u v a b op c n != 0) = !rightB f u v a b op c n := by unfold encE; cases rightB f u v a b op c n <;> rfl
theorem dec_sel (x f : Int) (u v : Bool) (a b op c n : Int) (hE : (encE f u v a b op c n != 0) = false) : (encR f u v a b op c n != x) = !(rightB f u v a b op c n && decide (encW f u v a b op c n = x)) := by
  rw [encE_ne] at hE
  have hr : rightB f u v a b op c n = true := by simpa using hE
  unfold encR
  rw [hr, bne_dec]
  simp
def decRes (x : Int) : Value := if decOk x then decI x else noIns
theorem dec_any (x : Int) (h0 : 0 ≤ x) (h1 : x < 4294967296) (w : World) (hT : Tab w) :
    Calls Tryd.prog 28 #[.int .u32 x] w fun e w' => e = .returned (.tuple #[decRes x, .bool (decOk x)]) ∧ Below w.heap.size w w' := by
  have hF : x / 1073741824 = 0 ∨ x / 1073741824 = 1 ∨ x / 1073741824 = 2 ∨ x / 1073741824 = 3 := by omega
  have key_0 : ∀ (h : x / 1073741824 = 0), Calls Tryd.prog 28 #[.int .u32 x] w fun e w' => e = .returned (.tuple #[decRes x, .bool (decOk x)]) ∧ Below w.heap.size w w' := by
    intro h
    have e1 : decI x = ins 0 (decU x) (decV x) (decA x) (x / 1048576 % 16) (x / 65536 % 16) (x % 16) 0 := by unfold decI decF decB decO decC decN decF; simp [h]
    have e2 : decOk x = (rightB 0 (decU x) (decV x) (decA x) (x / 1048576 % 16) (x / 65536 % 16) (x % 16) 0 && decide (encW 0 (decU x) (decV x) (decA x) (x / 1048576 % 16) (x / 65536 % 16) (x % 16) 0 = x)) := by unfold decOk decR decW decF decB decO decC decN decF; simp [h]
    cases hE : (encE 0 (decU x) (decV x) (decA x) (x / 1048576 % 16) (x / 65536 % 16) (x % 16) 0 != 0)
    · cases hR : (encR 0 (decU x) (decV x) (decA x) (x / 1048576 % 16) (x / 65536 % 16) (x % 16) 0 != x)
      · have hk : decOk x = true := by rw [e2]; exact bflipT (dec_sel x _ _ _ _ _ _ _ _ hE) hR
        unfold decRes
        rw [hk, if_pos rfl, e1]
        exact dec_0c x h0 h1 h hE hR w hT
      · have hk : decOk x = false := by rw [e2]; exact bflipF (dec_sel x _ _ _ _ _ _ _ _ hE) hR
        unfold decRes
        rw [hk, if_neg Bool.false_ne_true]
        exact dec_0b x h0 h1 h hE hR w hT
    · have hk : decOk x = false := by rw [e2]; rw [encE_ne] at hE; simp only [Bool.not_eq_true'] at hE; rw [hE]; rfl
      unfold decRes
      rw [hk, if_neg Bool.false_ne_true]
      exact dec_0a x h0 h1 h hE w hT
  have key_1 : ∀ (h : x / 1073741824 = 1), Calls Tryd.prog 28 #[.int .u32 x] w fun e w' => e = .returned (.tuple #[decRes x, .bool (decOk x)]) ∧ Below w.heap.size w w' := by
    intro h
    have e1 : decI x = ins 1 (decU x) (decV x) (decA x) (x / 1048576 % 16) (x / 65536 % 16) 0 (x % 65536) := by unfold decI decF decB decO decC decN decF; simp [h]
    have e2 : decOk x = (rightB 1 (decU x) (decV x) (decA x) (x / 1048576 % 16) (x / 65536 % 16) 0 (x % 65536) && decide (encW 1 (decU x) (decV x) (decA x) (x / 1048576 % 16) (x / 65536 % 16) 0 (x % 65536) = x)) := by unfold decOk decR decW decF decB decO decC decN decF; simp [h]
    cases hE : (encE 1 (decU x) (decV x) (decA x) (x / 1048576 % 16) (x / 65536 % 16) 0 (x % 65536) != 0)
    · cases hR : (encR 1 (decU x) (decV x) (decA x) (x / 1048576 % 16) (x / 65536 % 16) 0 (x % 65536) != x)
      · have hk : decOk x = true := by rw [e2]; exact bflipT (dec_sel x _ _ _ _ _ _ _ _ hE) hR
        unfold decRes
        rw [hk, if_pos rfl, e1]
        exact dec_1c x h0 h1 h hE hR w hT
      · have hk : decOk x = false := by rw [e2]; exact bflipF (dec_sel x _ _ _ _ _ _ _ _ hE) hR
        unfold decRes
        rw [hk, if_neg Bool.false_ne_true]
        exact dec_1b x h0 h1 h hE hR w hT
    · have hk : decOk x = false := by rw [e2]; rw [encE_ne] at hE; simp only [Bool.not_eq_true'] at hE; rw [hE]; rfl
      unfold decRes
      rw [hk, if_neg Bool.false_ne_true]
      exact dec_1a x h0 h1 h hE w hT
  have key_2 : ∀ (h : x / 1073741824 = 2), Calls Tryd.prog 28 #[.int .u32 x] w fun e w' => e = .returned (.tuple #[decRes x, .bool (decOk x)]) ∧ Below w.heap.size w w' := by
    intro h
    have e1 : decI x = ins 2 (decU x) (decV x) (decA x) (x / 1048576 % 16) 0 0 (sextV x 20) := by unfold decI decF decB decO decC decN decF; simp [h]
    have e2 : decOk x = (rightB 2 (decU x) (decV x) (decA x) (x / 1048576 % 16) 0 0 (sextV x 20) && decide (encW 2 (decU x) (decV x) (decA x) (x / 1048576 % 16) 0 0 (sextV x 20) = x)) := by unfold decOk decR decW decF decB decO decC decN decF; simp [h]
    cases hE : (encE 2 (decU x) (decV x) (decA x) (x / 1048576 % 16) 0 0 (sextV x 20) != 0)
    · cases hR : (encR 2 (decU x) (decV x) (decA x) (x / 1048576 % 16) 0 0 (sextV x 20) != x)
      · have hk : decOk x = true := by rw [e2]; exact bflipT (dec_sel x _ _ _ _ _ _ _ _ hE) hR
        unfold decRes
        rw [hk, if_pos rfl, e1]
        exact dec_2c x h0 h1 h hE hR w hT
      · have hk : decOk x = false := by rw [e2]; exact bflipF (dec_sel x _ _ _ _ _ _ _ _ hE) hR
        unfold decRes
        rw [hk, if_neg Bool.false_ne_true]
        exact dec_2b x h0 h1 h hE hR w hT
    · have hk : decOk x = false := by rw [e2]; rw [encE_ne] at hE; simp only [Bool.not_eq_true'] at hE; rw [hE]; rfl
      unfold decRes
      rw [hk, if_neg Bool.false_ne_true]
      exact dec_2a x h0 h1 h hE w hT
  have key_3u : ∀ (h : x / 1073741824 = 3) (hU : decU x = true), Calls Tryd.prog 28 #[.int .u32 x] w fun e w' => e = .returned (.tuple #[decRes x, .bool (decOk x)]) ∧ Below w.heap.size w w' := by
    intro h hU
    have e1 : decI x = ins 3 true (decV x) (decA x) 0 0 0 (sextV x 24) := by unfold decI decF decB decO decC decN decF; simp [h, hU]
    have e2 : decOk x = (rightB 3 true (decV x) (decA x) 0 0 0 (sextV x 24) && decide (encW 3 true (decV x) (decA x) 0 0 0 (sextV x 24) = x)) := by unfold decOk decR decW decF decB decO decC decN decF; simp [h, hU]
    cases hE : (encE 3 true (decV x) (decA x) 0 0 0 (sextV x 24) != 0)
    · cases hR : (encR 3 true (decV x) (decA x) 0 0 0 (sextV x 24) != x)
      · have hk : decOk x = true := by rw [e2]; exact bflipT (dec_sel x _ _ _ _ _ _ _ _ hE) hR
        unfold decRes
        rw [hk, if_pos rfl, e1]
        exact dec_3uc x h0 h1 h hU hE hR w hT
      · have hk : decOk x = false := by rw [e2]; exact bflipF (dec_sel x _ _ _ _ _ _ _ _ hE) hR
        unfold decRes
        rw [hk, if_neg Bool.false_ne_true]
        exact dec_3ub x h0 h1 h hU hE hR w hT
    · have hk : decOk x = false := by rw [e2]; rw [encE_ne] at hE; simp only [Bool.not_eq_true'] at hE; rw [hE]; rfl
      unfold decRes
      rw [hk, if_neg Bool.false_ne_true]
      exact dec_3ua x h0 h1 h hU hE w hT
  have key_3n : ∀ (h : x / 1073741824 = 3) (hU : decU x = false), Calls Tryd.prog 28 #[.int .u32 x] w fun e w' => e = .returned (.tuple #[decRes x, .bool (decOk x)]) ∧ Below w.heap.size w w' := by
    intro h hU
    have e1 : decI x = ins 3 false (decV x) (decA x) 0 0 (x % 16) 0 := by unfold decI decF decB decO decC decN decF; simp [h, hU]
    have e2 : decOk x = (rightB 3 false (decV x) (decA x) 0 0 (x % 16) 0 && decide (encW 3 false (decV x) (decA x) 0 0 (x % 16) 0 = x)) := by unfold decOk decR decW decF decB decO decC decN decF; simp [h, hU]
    cases hE : (encE 3 false (decV x) (decA x) 0 0 (x % 16) 0 != 0)
    · cases hR : (encR 3 false (decV x) (decA x) 0 0 (x % 16) 0 != x)
      · have hk : decOk x = true := by rw [e2]; exact bflipT (dec_sel x _ _ _ _ _ _ _ _ hE) hR
        unfold decRes
        rw [hk, if_pos rfl, e1]
        exact dec_3nc x h0 h1 h hU hE hR w hT
      · have hk : decOk x = false := by rw [e2]; exact bflipF (dec_sel x _ _ _ _ _ _ _ _ hE) hR
        unfold decRes
        rw [hk, if_neg Bool.false_ne_true]
        exact dec_3nb x h0 h1 h hU hE hR w hT
    · have hk : decOk x = false := by rw [e2]; rw [encE_ne] at hE; simp only [Bool.not_eq_true'] at hE; rw [hE]; rfl
      unfold decRes
      rw [hk, if_neg Bool.false_ne_true]
      exact dec_3na x h0 h1 h hU hE w hT
  rcases hF with h | h | h | h
  · exact key_0 h
  · exact key_1 h
  · exact key_2 h
  · cases hU : decU x
    · exact key_3n h hU
    · exact key_3u h hU
end Go.Proofs.YtgcknekhimpfkaaDoor
