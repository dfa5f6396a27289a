/- A processor stays one: whatever is done. -/
import Derived.Test.YtnghhkageiceaaaDoorCpuO
import Derived.Test.YtnghhkageiceaaaDoorCpuEq
namespace Go.Proofs.YtnghhkageiceaaaDoor
open Go Go.RowKit Go.Lib Go.Proofs.YtnghhkageiceaaaDoor.Pl
set_option linter.unusedVariables false
set_option linter.unusedSimpArgs false
theorem set_at (cs : Array Value) (i j : Nat) (v : Value) (hi : i < cs.size) : (cs.setIfInBounds i v)[j]? = if i = j then some v else cs[j]? := by
  rw [Array.getElem?_setIfInBounds]
  by_cases h : i = j
  · subst h; simp [hi]
  · simp [h]
theorem CpuOk.setW {cs : Array Value} (h : CpuOk cs) (k : Nat) (hk : k < 17 ∨ k = 21) (x : Int) (h0 : 0 ≤ x) (h1 : x < 4294967296) : CpuOk (cs.setIfInBounds k (.int .u32 x)) := by
  have hs := h.size
  have hlt : k < cs.size := by omega
  refine ⟨by simp [hs], h.one.set _ rfl, fun j hj => ?_, ?_, ?_, ?_, ?_, ?_, ?_⟩
  · rw [set_at cs k j _ hlt]
    by_cases e : k = j
    · rw [if_pos e]; exact ⟨x, rfl, h0, h1⟩
    · rw [if_neg e]; exact h.reg j hj
  · rw [set_at cs k 16 _ hlt]
    by_cases e : k = 16
    · rw [if_pos e]; exact ⟨x, rfl, h0, h1⟩
    · rw [if_neg e]; exact h.h
  · rw [set_at cs k 17 _ hlt, if_neg (by omega)]; exact h.n
  · rw [set_at cs k 18 _ hlt, if_neg (by omega)]; exact h.z
  · rw [set_at cs k 19 _ hlt, if_neg (by omega)]; exact h.c
  · rw [set_at cs k 20 _ hlt, if_neg (by omega)]; exact h.v
  · rw [set_at cs k 21 _ hlt]
    by_cases e : k = 21
    · rw [if_pos e]; exact ⟨x, rfl, h0, h1⟩
    · rw [if_neg e]; exact h.pc
theorem CpuOk.setF {cs : Array Value} (h : CpuOk cs) (k : Nat) (hk : 17 ≤ k ∧ k ≤ 20) (b : Bool) : CpuOk (cs.setIfInBounds k (.bool b)) := by
  have hs := h.size
  have hlt : k < cs.size := by omega
  refine ⟨by simp [hs], h.one.set _ rfl, fun j hj => ?_, ?_, ?_, ?_, ?_, ?_, ?_⟩
  · rw [set_at cs k j _ hlt, if_neg (by omega)]; exact h.reg j hj
  · rw [set_at cs k 16 _ hlt, if_neg (by omega)]; exact h.h
  · rw [set_at cs k 17 _ hlt]
    by_cases e : k = 17
    · rw [if_pos e]; exact ⟨b, rfl⟩
    · rw [if_neg e]; exact h.n
  · rw [set_at cs k 18 _ hlt]
    by_cases e : k = 18
    · rw [if_pos e]; exact ⟨b, rfl⟩
    · rw [if_neg e]; exact h.z
  · rw [set_at cs k 19 _ hlt]
    by_cases e : k = 19
    · rw [if_pos e]; exact ⟨b, rfl⟩
    · rw [if_neg e]; exact h.c
  · rw [set_at cs k 20 _ hlt]
    by_cases e : k = 20
    · rw [if_pos e]; exact ⟨b, rfl⟩
    · rw [if_neg e]; exact h.v
  · rw [set_at cs k 21 _ hlt, if_neg (by omega)]; exact h.pc
theorem nextV_bd (cs : Array Value) : 0 ≤ nextV cs ∧ nextV cs < 4294967296 := by unfold nextV; omega
theorem CpuOk.c21 {cs : Array Value} (h : CpuOk cs) : CpuOk (c21 cs) := h.setW 21 (.inr rfl) _ (nextV_bd cs).1 (nextV_bd cs).2
theorem CpuOk.fin {cs : Array Value} (h : CpuOk cs) {a : Nat} (ha : a ≤ 15) {W : Int} (h0 : 0 ≤ W) (h1 : W < 4294967296) : CpuOk (fin cs a W) :=
  ((h.setW a (.inl (by omega)) W h0 h1).setF 17 (by omega) _).setF 18 (by omega) _
theorem divR_bd (a b : Int) (ha : 0 ≤ a ∧ a < 4294967296) (hb : 0 ≤ b ∧ b < 4294967296) : 0 ≤ divR a b ∧ divR a b < 4294967296 := by
  have h2 := sg_bd b hb.1 hb.2
  unfold divR
  split
  · omega
  · have h1 := Int.emod_nonneg (sg a) (show sg b ≠ 0 by omega)
    have h3 := Int.emod_lt_of_pos (sg a) (show 0 < sg b by omega)
    omega
theorem aluC_ok {cs : Array Value} (h : CpuOk cs) (u : Bool) (op b x : Int) (hb : 0 ≤ b ∧ b < 4294967296) (hx : 0 ≤ x ∧ x < 4294967296) : CpuOk (aluC cs u op b x) := by
  unfold aluC
  split
  · exact (h.c21.setF 19 (by omega) _).setF 20 (by omega) _
  split
  · exact (h.c21.setF 19 (by omega) _).setF 20 (by omega) _
  split
  · exact h.c21.setW 16 (.inl (by omega)) _ (by unfold mulH; omega) (by unfold mulH; omega)
  split
  · exact h.c21.setW 16 (.inl (by omega)) _ (divR_bd b x hb hx).1 (divR_bd b x hb hx).2
  · exact h.c21
theorem aluW_bd {cs : Array Value} (h : CpuOk cs) (f : Int) (u v : Bool) (op b x : Int) (hb : 0 ≤ b ∧ b < 4294967296) (hx : 0 ≤ x ∧ x < 4294967296) : 0 ≤ aluW cs f u v op b x ∧ aluW cs f u v op b x < 4294967296 := by
  unfold aluW
  split
  · split
    · exact hx
    · split
      · omega
      · split
        · exact u32_bits_bd .or _ _
        · exact h.hV.2
  split
  · exact lslV_bd _ _
  split
  · exact asrV_bd _ _
  split
  · exact rorV_bd _ _ (by omega) hb.1 hb.2
  split
  · exact u32_bits_bd _ _ _
  split
  · exact u32_bits_bd _ _ _
  split
  · exact u32_bits_bd _ _ _
  split
  · exact u32_bits_bd _ _ _
  split
  · unfold addS; omega
  split
  · unfold subS; omega
  split
  · unfold mulL; omega
  · unfold divQ; split <;> omega
theorem exAlu_ok {cs : Array Value} (h : CpuOk cs) {f : Int} (hf : f = 0 ∨ f = 1) {u v : Bool} {a b c : Nat} {op n : Int} (ha : a ≤ 15) (hb : b ≤ 15) (hc : c ≤ 15) (hn : 0 ≤ n ∧ n ≤ 65535) : CpuOk (exAlu cs f u v a b op c n).1 := by
  have hX := opX_bd h f v hc hn.1 hn.2
  have hB := h.rg (k := b) (by omega)
  unfold exAlu
  split
  · exact h
  split
  · exact h
  · exact CpuOk.fin (aluC_ok h u op _ _ hB.2 hX) ha (aluW_bd h f u v op _ _ hB.2 hX).1 (aluW_bd h f u v op _ _ hB.2 hX).2
theorem exGo_ok {cs : Array Value} (h : CpuOk cs) (u v : Bool) (a : Nat) {c : Nat} (hc : c ≤ 15) (n : Int) : CpuOk (exGo cs u v a c n) := by
  have hg : 0 ≤ (if u then goTo cs n else rgV cs c) ∧ (if u then goTo cs n else rgV cs c) < 4294967296 := by
    split
    · unfold goTo; omega
    · exact (h.rg (by omega)).2
  unfold exGo
  split
  · split
    · exact (h.c21.setW 21 (.inr rfl) _ hg.1 hg.2).setW 15 (.inl (by omega)) _ (nextV_bd cs).1 (nextV_bd cs).2
    · exact h.c21.setW 21 (.inr rfl) _ hg.1 hg.2
  · exact h.c21
theorem exV_ok {cs : Array Value} (h : CpuOk cs) (f : Int) (u v : Bool) (a b op c n l : Int) (h0 : 0 ≤ l) (h1 : l < 4294967296) : CpuOk (exV cs f u v a b op c n l).1 := by
  unfold exV
  cases hr : rightB f u v a b op c n
  · exact h
  · obtain ⟨ha, hb, hc, ho, hf⟩ := right_inv hr
    rw [if_neg (by simp)]
    split
    · cases u
      · exact CpuOk.fin h.c21 (by omega) (loadW_bd v l h0 h1).1 (loadW_bd v l h0 h1).2
      · exact h.c21
    split
    · exact exGo_ok h u v _ (by omega) n
    · exact exAlu_ok h (by omega) (by omega) (by omega) (by omega) (by omega)
end Go.Proofs.YtnghhkageiceaaaDoor
