/- Exec, of any processor and instruction. -/
import Derived.Test.YtgcknekhimpfkaaGreatDoorQW
import Derived.Test.YtgcknekhimpfkaaGreatDoorQX
import Derived.Test.YtgcknekhimpfkaaGreatDoorQI
namespace Go.Proofs.YtgcknekhimpfkaaGreatDoor
open Go Go.RowKit Go.Lib Go.Proofs.YtgcknekhimpfkaaGreatDoor.Pl
set_option linter.unusedVariables false
set_option linter.unusedSimpArgs false
/-- A branch. -/
def exGo (cs : Array Value) (u v : Bool) (a c : Nat) (n : Int) : Array Value :=
 if holdsV (flV cs 17) (flV cs 18) (flV cs 19) (flV cs 20) a then
  if v then ((c21 cs).setIfInBounds 21 (.int .u32 (if u then goTo cs n else rgV cs c))).setIfInBounds 15 (.int .u32 (nextV cs)) else (c21 cs).setIfInBounds 21 (.int .u32 (if u then goTo cs n else rgV cs c))
 else c21 cs
/-- What is reckoned: the processor ahead of the last step; the word. -/
def aluC (cs : Array Value) (u : Bool) (op b x : Int) : Array Value :=
 if op = 8 then ((c21 cs).setIfInBounds 19 (.bool (addC b x (u && flV cs 19)))).setIfInBounds 20 (.bool (addV b x (u && flV cs 19)))
 else if op = 9 then ((c21 cs).setIfInBounds 19 (.bool (subC b x (u && flV cs 19)))).setIfInBounds 20 (.bool (subV b x (u && flV cs 19)))
 else if op = 10 then (c21 cs).setIfInBounds 16 (.int .u32 (mulH b x u))
 else if op = 11 then (c21 cs).setIfInBounds 16 (.int .u32 (divR b x))
 else c21 cs
def aluW (cs : Array Value) (f : Int) (u v : Bool) (op b x : Int) : Int :=
 if op = 0 then if !u then x else if f = 1 then x * 65536 % 4294967296 else if v then flagsV (flV cs 17) (flV cs 18) (flV cs 19) (flV cs 20) else rgV cs 16
 else if op = 1 then lslV b (x % 32).toNat else if op = 2 then asrV b (x % 32).toNat else if op = 3 then rorV b (x % 32).toNat
 else if op = 4 then bits .and .u32 b x else if op = 5 then bits .andNot .u32 b x else if op = 6 then bits .or .u32 b x else if op = 7 then bits .xor .u32 b x
 else if op = 8 then addS b x (u && flV cs 19) else if op = 9 then subS b x (u && flV cs 19) else if op = 10 then mulL b x u else divQ b x
def exAlu (cs : Array Value) (f : Int) (u v : Bool) (a b : Nat) (op : Int) (c : Nat) (n : Int) : Array Value × Int × Bool :=
 if op = 15 then (cs, n, true) else if op = 11 ∧ divOk (opX cs f v c n) = false then (cs, 6, true)
 else (fin (aluC cs u op (rgV cs b) (opX cs f v c n)) a (aluW cs f u v op (rgV cs b) (opX cs f v c n)), 0, false)
def exV (cs : Array Value) (f : Int) (u v : Bool) (a b op c n l : Int) : Array Value × Int × Bool :=
 if rightB f u v a b op c n = false then (cs, 0, false)
 else if f = 2 then (if u then c21 cs else fin (c21 cs) a.toNat (loadW v l), 0, false)
 else if f = 3 then (exGo cs u v a.toNat c.toNat n, 0, false)
 else exAlu cs f u v a.toNat b.toNat op c.toNat n
def ExecIs (cs : Array Value) (f : Int) (u v : Bool) (a b op c n l : Int) (w : World) : Prop :=
 Calls Tryz.prog 38 #[.agg cs, ins f u v a b op c n, .int .u32 l] w fun e w' => e = .returned (.tuple #[.agg (exV cs f u v a b op c n l).1, .int .i64 (exV cs f u v a b op c n l).2.1, .bool (exV cs f u v a b op c n l).2.2]) ∧ Below w.heap.size w w'
theorem exec_of {cs : Array Value} {f : Int} {u v : Bool} {a b op c n l : Int} {w : World} {X : Array Value} {k : Int} {t : Bool} (hx : exV cs f u v a b op c n l = (X, k, t))
 (h : Calls Tryz.prog 38 #[.agg cs, ins f u v a b op c n, .int .u32 l] w fun e w' => e = .returned (.tuple #[.agg X, .int .i64 k, .bool t]) ∧ Below w.heap.size w w') : ExecIs cs f u v a b op c n l w := by
 unfold ExecIs
 rw [hx]
 exact h
theorem exV_alu {cs : Array Value} {f : Int} {u v : Bool} {a b c : Nat} {op n l : Int} (hr : rightB f u v a b op c n = true) (hf : f = 0 ∨ f = 1) : exV cs f u v a b op c n l = exAlu cs f u v a b op c n := by
 unfold exV
 rw [if_neg (by rw [hr]; simp), if_neg (by omega), if_neg (by omega)]
 simp
theorem exec_alu (cs : Array Value) (hc : CpuOk cs) (f : Int) (hf : f = 0 ∨ f = 1) (u v : Bool) (a b c : Nat) (op n l : Int) (hr : rightB f u v a b op c n = true) (w : World) (hT : Tab w) : ExecIs cs f u v a b op c n l w := by
 have ho := (right_inv hr).2.2.2.1
 have ho' : op = 0 ∨ op = 1 ∨ op = 2 ∨ op = 3 ∨ op = 4 ∨ op = 5 ∨ op = 6 ∨ op = 7 ∨ op = 8 ∨ op = 9 ∨ op = 10 ∨ op = 11 ∨ op = 12 ∨ op = 13 ∨ op = 14 ∨ op = 15 := by omega
 have hk : reckB f u v a b op c = true := by
  obtain ⟨_, _, _, _, h⟩ := right_inv hr
  rcases h with ⟨rfl, _, h⟩ | ⟨rfl, _, _, h⟩ | ⟨rfl, _⟩ | ⟨rfl, _⟩
  ·exact h
  ·exact h
  ·omega
  ·omega
 rcases ho' with rfl | rfl | rfl | rfl | rfl | rfl | rfl | rfl | rfl | rfl | rfl | rfl | rfl | rfl | rfl | rfl
 ·cases u
  ·exact exec_of (by rw [exV_alu hr hf]; rfl) (exec_op0n cs hc f hf v a b c n l hr w hT)
  ·rcases hf with rfl | rfl
   ·cases v
    ·exact exec_of (by rw [exV_alu hr (by omega)]; rfl) (exec_op0h cs hc a b c n l hr w hT)
    ·exact exec_of (by rw [exV_alu hr (by omega)]; rfl) (exec_op0f cs hc a b c n l hr w hT)
   ·exact exec_of (by rw [exV_alu hr (by omega)]; rfl) (exec_op0u1 cs hc v a b c n l hr w hT)
 ·exact exec_of (by rw [exV_alu hr hf]; rfl) (exec_op1 cs hc f hf u v a b c n l hr w hT)
 ·exact exec_of (by rw [exV_alu hr hf]; rfl) (exec_op2 cs hc f hf u v a b c n l hr w hT)
 ·exact exec_of (by rw [exV_alu hr hf]; rfl) (exec_op3 cs hc f hf u v a b c n l hr w hT)
 ·exact exec_of (by rw [exV_alu hr hf]; rfl) (exec_op4 cs hc f hf u v a b c n l hr w hT)
 ·exact exec_of (by rw [exV_alu hr hf]; rfl) (exec_op5 cs hc f hf u v a b c n l hr w hT)
 ·exact exec_of (by rw [exV_alu hr hf]; rfl) (exec_op6 cs hc f hf u v a b c n l hr w hT)
 ·exact exec_of (by rw [exV_alu hr hf]; rfl) (exec_op7 cs hc f hf u v a b c n l hr w hT)
 ·cases u
  ·exact exec_of (by rw [exV_alu hr hf]; rfl) (exec_op8f cs hc f hf v a b c n l hr w hT)
  ·exact exec_of (by rw [exV_alu hr hf]; rfl) (exec_op8t cs hc f hf v a b c n l hr w hT)
 ·cases u
  ·exact exec_of (by rw [exV_alu hr hf]; rfl) (exec_op9f cs hc f hf v a b c n l hr w hT)
  ·exact exec_of (by rw [exV_alu hr hf]; rfl) (exec_op9t cs hc f hf v a b c n l hr w hT)
 ·exact exec_of (by rw [exV_alu hr hf]; rfl) (exec_op10 cs hc f hf u v a b c n l hr w hT)
 ·cases hd : divOk (opX cs f v c n)
  ·exact exec_of (by rw [exV_alu hr hf]; unfold exAlu; rw [if_neg (by omega), if_pos ⟨rfl, hd⟩]) (exec_op11n cs hc f hf u v a b c n l hd hr w hT)
  ·exact exec_of (by rw [exV_alu hr hf]; unfold exAlu; rw [if_neg (by omega), if_neg (by rw [hd]; simp)]; rfl) (exec_op11y cs hc f hf u v a b c n l hd hr w hT)
 ·exact absurd hk (by simp [reckB])
 ·exact absurd hk (by simp [reckB])
 ·exact absurd hk (by simp [reckB])
 ·have h15 : f = 1 ∧ u = false ∧ v = false := by
   simp only [reckB] at hk
   simp at hk
   exact ⟨hk.1.1.1.1, hk.1.1.1.2, hk.1.1.2⟩
  obtain ⟨rfl, rfl, rfl⟩ := h15
  exact exec_of (by rw [exV_alu hr hf]; rfl) (exec_op15 cs hc a b c n l hr w hT)
theorem exec_any (cs : Array Value) (hc : CpuOk cs) (f : Int) (u v : Bool) (a b op c n l : Int) (h0 : 0 ≤ l) (h1 : l < 4294967296) (w : World) (hT : Tab w) : ExecIs cs f u v a b op c n l w := by
 cases hr : rightB f u v a b op c n
 ·exact exec_of (by unfold exV; rw [hr, if_pos rfl]) (exec_no cs hc f u v a b op c n l hr w hT)
 ·obtain ⟨ha, hb, hcc, ho, hf⟩ := right_inv hr
  obtain ⟨a, rfl⟩ := Int.eq_ofNat_of_zero_le ha.1
  obtain ⟨b, rfl⟩ := Int.eq_ofNat_of_zero_le hb.1
  obtain ⟨c, rfl⟩ := Int.eq_ofNat_of_zero_le hcc.1
  rcases hf with ⟨rfl, _⟩ | ⟨rfl, _⟩ | ⟨rfl, hc0, rfl, _⟩ | ⟨rfl, hb0, rfl, hu⟩
  ·exact exec_alu cs hc 0 (.inl rfl) u v a b c op n l hr w hT
  ·exact exec_alu cs hc 1 (.inr rfl) u v a b c op n l hr w hT
  ·obtain rfl : c = 0 := by omega
   cases u
   ·cases v
    ·exact exec_of (by unfold exV; rw [if_neg (by rw [hr]; simp)]; rfl) (exec_2f cs hc a b n l h0 h1 hr w hT)
    ·exact exec_of (by unfold exV; rw [if_neg (by rw [hr]; simp)]; rfl) (exec_2t cs hc a b n l h0 h1 hr w hT)
   ·exact exec_of (by unfold exV; rw [if_neg (by rw [hr]; simp)]; rfl) (exec_2u cs hc v a b n l hr w hT)
  ·obtain rfl : b = 0 := by omega
   have e : ∀ X, exGo cs u v a c n = X → exV cs 3 u v a ((0 : Nat) : Int) 0 c n l = (X, 0, false) := fun X hX => by
    unfold exV; rw [if_neg (by rw [hr]; simp), if_neg (by omega), if_pos rfl]; simp [hX]
   cases hH : holdsV (flV cs 17) (flV cs 18) (flV cs 19) (flV cs 20) a
   ·exact exec_of (e (c21 cs) (by unfold exGo; rw [hH]; rfl)) (exec_3n cs hc u v a c n l hH hr w hT)
   ·cases u <;> cases v
    ·exact exec_of (e _ (by unfold exGo; rw [hH]; rfl)) (exec_3yff cs hc a c n l hH hr w hT)
    ·exact exec_of (e _ (by unfold exGo; rw [hH]; rfl)) (exec_3yft cs hc a c n l hH hr w hT)
    ·exact exec_of (e _ (by unfold exGo; rw [hH]; rfl)) (exec_3ytf cs hc a c n l hH hr w hT)
    ·exact exec_of (e _ (by unfold exGo; rw [hH]; rfl)) (exec_3ytt cs hc a c n l hH hr w hT)
theorem set_at (cs : Array Value) (i j : Nat) (v : Value) (hi : i < cs.size) : (cs.setIfInBounds i v)[j]? = if i = j then some v else cs[j]? := by
 rw [Array.getElem?_setIfInBounds]
 by_cases h : i = j
 ·subst h; simp [hi]
 ·simp [h]
theorem CpuOk.setW {cs : Array Value} (h : CpuOk cs) (k : Nat) (hk : k < 17 ∨ k = 21) (x : Int) (h0 : 0 ≤ x) (h1 : x < 4294967296) : CpuOk (cs.setIfInBounds k (.int .u32 x)) := by
 have hs := h.size
 have hlt : k < cs.size := by omega
 refine ⟨by simp [hs], h.one.set _ rfl, fun j hj => ?_, ?_, ?_, ?_, ?_, ?_, ?_⟩
 ·rw [set_at cs k j _ hlt]
  by_cases e : k = j
  ·rw [if_pos e]; exact ⟨x, rfl, h0, h1⟩
  ·rw [if_neg e]; exact h.reg j hj
 ·rw [set_at cs k 16 _ hlt]
  by_cases e : k = 16
  ·rw [if_pos e]; exact ⟨x, rfl, h0, h1⟩
  ·rw [if_neg e]; exact h.h
 ·rw [set_at cs k 17 _ hlt, if_neg (by omega)]; exact h.n
 ·rw [set_at cs k 18 _ hlt, if_neg (by omega)]; exact h.z
 ·rw [set_at cs k 19 _ hlt, if_neg (by omega)]; exact h.c
 ·rw [set_at cs k 20 _ hlt, if_neg (by omega)]; exact h.v
 ·rw [set_at cs k 21 _ hlt]
  by_cases e : k = 21
  ·rw [if_pos e]; exact ⟨x, rfl, h0, h1⟩
  ·rw [if_neg e]; exact h.pc
theorem CpuOk.setF {cs : Array Value} (h : CpuOk cs) (k : Nat) (hk : 17 ≤ k ∧ k ≤ 20) (b : Bool) : CpuOk (cs.setIfInBounds k (.bool b)) := by
 have hs := h.size
 have hlt : k < cs.size := by omega
 refine ⟨by simp [hs], h.one.set _ rfl, fun j hj => ?_, ?_, ?_, ?_, ?_, ?_, ?_⟩
 ·rw [set_at cs k j _ hlt, if_neg (by omega)]; exact h.reg j hj
 ·rw [set_at cs k 16 _ hlt, if_neg (by omega)]; exact h.h
 ·rw [set_at cs k 17 _ hlt]
  by_cases e : k = 17
  ·rw [if_pos e]; exact ⟨b, rfl⟩
  ·rw [if_neg e]; exact h.n
 ·rw [set_at cs k 18 _ hlt]
  by_cases e : k = 18
  ·rw [if_pos e]; exact ⟨b, rfl⟩
  ·rw [if_neg e]; exact h.z
 ·rw [set_at cs k 19 _ hlt]
  by_cases e : k = 19
  ·rw [if_pos e]; exact ⟨b, rfl⟩
  ·rw [if_neg e]; exact h.c
 ·rw [set_at cs k 20 _ hlt]
  by_cases e : k = 20
  ·rw [if_pos e]; exact ⟨b, rfl⟩
  ·rw [if_neg e]; exact h.v
 ·rw [set_at cs k 21 _ hlt, if_neg (by omega)]; exact h.pc
theorem nextV_bd (cs : Array Value) : 0 ≤ nextV cs ∧ nextV cs < 4294967296 := by unfold nextV; omega
theorem CpuOk.c21 {cs : Array Value} (h : CpuOk cs) : CpuOk (c21 cs) := h.setW 21 (.inr rfl) _ (nextV_bd cs).1 (nextV_bd cs).2
theorem CpuOk.fin {cs : Array Value} (h : CpuOk cs) {a : Nat} (ha : a ≤ 15) {W : Int} (h0 : 0 ≤ W) (h1 : W < 4294967296) : CpuOk (fin cs a W) :=
 ((h.setW a (.inl (by omega)) W h0 h1).setF 17 (by omega) _).setF 18 (by omega) _
theorem divR_bd (a b : Int) (ha : 0 ≤ a ∧ a < 4294967296) (hb : 0 ≤ b ∧ b < 4294967296) : 0 ≤ divR a b ∧ divR a b < 4294967296 := by
 have h2 := sg_bd b hb.1 hb.2
 unfold divR
 split
 ·omega
 ·have h1 := Int.emod_nonneg (sg a) (show sg b ≠ 0 by omega)
  have h3 := Int.emod_lt_of_pos (sg a) (show 0 < sg b by omega)
  omega
theorem aluC_ok {cs : Array Value} (h : CpuOk cs) (u : Bool) (op b x : Int) (hb : 0 ≤ b ∧ b < 4294967296) (hx : 0 ≤ x ∧ x < 4294967296) : CpuOk (aluC cs u op b x) := by
 unfold aluC
 split
 ·exact (h.c21.setF 19 (by omega) _).setF 20 (by omega) _
 split
 ·exact (h.c21.setF 19 (by omega) _).setF 20 (by omega) _
 split
 ·exact h.c21.setW 16 (.inl (by omega)) _ (by unfold mulH; omega) (by unfold mulH; omega)
 split
 ·exact h.c21.setW 16 (.inl (by omega)) _ (divR_bd b x hb hx).1 (divR_bd b x hb hx).2
 ·exact h.c21
theorem aluW_bd {cs : Array Value} (h : CpuOk cs) (f : Int) (u v : Bool) (op b x : Int) (hb : 0 ≤ b ∧ b < 4294967296) (hx : 0 ≤ x ∧ x < 4294967296) : 0 ≤ aluW cs f u v op b x ∧ aluW cs f u v op b x < 4294967296 := by
 unfold aluW
 split
 ·split
  ·exact hx
  ·split
   ·omega
   ·split
    ·exact u32_bits_bd .or _ _
    ·exact h.hV.2
 split
 ·exact lslV_bd _ _
 split
 ·exact asrV_bd _ _
 split
 ·exact rorV_bd _ _ (by omega) hb.1 hb.2
 split
 ·exact u32_bits_bd _ _ _
 split
 ·exact u32_bits_bd _ _ _
 split
 ·exact u32_bits_bd _ _ _
 split
 ·exact u32_bits_bd _ _ _
 split
 ·unfold addS; omega
 split
 ·unfold subS; omega
 split
 ·unfold mulL; omega
 ·unfold divQ; split <;> omega
theorem exAlu_ok {cs : Array Value} (h : CpuOk cs) {f : Int} (hf : f = 0 ∨ f = 1) {u v : Bool} {a b c : Nat} {op n : Int} (ha : a ≤ 15) (hb : b ≤ 15) (hc : c ≤ 15) (hn : 0 ≤ n ∧ n ≤ 65535) : CpuOk (exAlu cs f u v a b op c n).1 := by
 have hX := opX_bd h f v hc hn.1 hn.2
 have hB := h.rg (k := b) (by omega)
 unfold exAlu
 split
 ·exact h
 split
 ·exact h
 ·exact CpuOk.fin (aluC_ok h u op _ _ hB.2 hX) ha (aluW_bd h f u v op _ _ hB.2 hX).1 (aluW_bd h f u v op _ _ hB.2 hX).2
theorem exGo_ok {cs : Array Value} (h : CpuOk cs) (u v : Bool) (a : Nat) {c : Nat} (hc : c ≤ 15) (n : Int) : CpuOk (exGo cs u v a c n) := by
 have hg : 0 ≤ (if u then goTo cs n else rgV cs c) ∧ (if u then goTo cs n else rgV cs c) < 4294967296 := by
  split
  ·unfold goTo; omega
  ·exact (h.rg (by omega)).2
 unfold exGo
 split
 ·split
  ·exact (h.c21.setW 21 (.inr rfl) _ hg.1 hg.2).setW 15 (.inl (by omega)) _ (nextV_bd cs).1 (nextV_bd cs).2
  ·exact h.c21.setW 21 (.inr rfl) _ hg.1 hg.2
 ·exact h.c21
theorem exV_ok {cs : Array Value} (h : CpuOk cs) (f : Int) (u v : Bool) (a b op c n l : Int) (h0 : 0 ≤ l) (h1 : l < 4294967296) : CpuOk (exV cs f u v a b op c n l).1 := by
 unfold exV
 cases hr : rightB f u v a b op c n
 ·exact h
 ·obtain ⟨ha, hb, hc, ho, hf⟩ := right_inv hr
  rw [if_neg (by simp)]
  split
  ·cases u
   ·exact CpuOk.fin h.c21 (by omega) (loadW_bd v l h0 h1).1 (loadW_bd v l h0 h1).2
   ·exact h.c21
  split
  ·exact exGo_ok h u v _ (by omega) n
  ·exact exAlu_ok h (by omega) (by omega) (by omega) (by omega) (by omega)
end Go.Proofs.YtgcknekhimpfkaaGreatDoor
