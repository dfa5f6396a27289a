/- What Exec gives; what its last steps do to memory. -/
import Derived.Test.YtnghhkageiceaaaDoorCpuK
import Derived.Test.YtnghhkageiceaaaDoorCpuHA
namespace Go.Proofs.YtnghhkageiceaaaDoor
open Go Go.RowKit Go.Lib Go.Proofs.YtnghhkageiceaaaDoor.Pl
set_option linter.unusedVariables false
set_option linter.unusedSimpArgs false
def rgV (cs : Array Value) (k : Nat) : Int := match cs[k]? with | some (.int _ x) => x | _ => 0
def flV (cs : Array Value) (k : Nat) : Bool := match cs[k]? with | some (.bool b) => b | _ => false
theorem CpuOk.rg {cs : Array Value} (h : CpuOk cs) {k : Nat} (hk : k < 16) : cs[k]? = some (.int .u32 (rgV cs k)) ∧ 0 ≤ rgV cs k ∧ rgV cs k < 4294967296 := by
  obtain ⟨x, hx, h0, h1⟩ := h.reg k hk
  have : rgV cs k = x := by unfold rgV; rw [hx]
  rw [this]; exact ⟨hx, h0, h1⟩
theorem CpuOk.hV {cs : Array Value} (h : CpuOk cs) : cs[16]? = some (.int .u32 (rgV cs 16)) ∧ 0 ≤ rgV cs 16 ∧ rgV cs 16 < 4294967296 := by
  obtain ⟨x, hx, h0, h1⟩ := h.h
  have : rgV cs 16 = x := by unfold rgV; rw [hx]
  rw [this]; exact ⟨hx, h0, h1⟩
theorem CpuOk.pcV {cs : Array Value} (h : CpuOk cs) : cs[21]? = some (.int .u32 (rgV cs 21)) ∧ 0 ≤ rgV cs 21 ∧ rgV cs 21 < 4294967296 := by
  obtain ⟨x, hx, h0, h1⟩ := h.pc
  have : rgV cs 21 = x := by unfold rgV; rw [hx]
  rw [this]; exact ⟨hx, h0, h1⟩
theorem CpuOk.nV {cs : Array Value} (h : CpuOk cs) : cs[17]? = some (.bool (flV cs 17)) := by
  obtain ⟨x, hx⟩ := h.n
  have : flV cs 17 = x := by unfold flV; rw [hx]
  rw [this]; exact hx
theorem CpuOk.zV {cs : Array Value} (h : CpuOk cs) : cs[18]? = some (.bool (flV cs 18)) := by
  obtain ⟨x, hx⟩ := h.z
  have : flV cs 18 = x := by unfold flV; rw [hx]
  rw [this]; exact hx
theorem CpuOk.cV {cs : Array Value} (h : CpuOk cs) : cs[19]? = some (.bool (flV cs 19)) := by
  obtain ⟨x, hx⟩ := h.c
  have : flV cs 19 = x := by unfold flV; rw [hx]
  rw [this]; exact hx
theorem CpuOk.vV {cs : Array Value} (h : CpuOk cs) : cs[20]? = some (.bool (flV cs 20)) := by
  obtain ⟨x, hx⟩ := h.v
  have : flV cs 20 = x := by unfold flV; rw [hx]
  rw [this]; exact hx
def nextV (cs : Array Value) : Int := (rgV cs 21 + 4) % 4294967296
def c21 (cs : Array Value) : Array Value := cs.setIfInBounds 21 (.int .u32 (nextV cs))
/-- A register gets a word; N and Z are set by it. -/
def fin (cs : Array Value) (a : Nat) (W : Int) : Array Value := ((cs.setIfInBounds a (.int .u32 W)).setIfInBounds 17 (.bool (decide (2147483648 ≤ W)))).setIfInBounds 18 (.bool (decide (W = 0)))
theorem at_some {cs : Array Value} {n k : Nat} (hs : cs.size = n) (hk : k < n) : ∃ x, cs[k]? = some x := ⟨cs[k]'(by omega), by simp [hs, hk]⟩
theorem c21_size {cs : Array Value} (h : cs.size = 22) : (c21 cs).size = 22 := by simp [c21, h]
theorem c21_one {cs : Array Value} (h : OneRow cs) : OneRow (c21 cs) := h.set _ rfl
def chain (W : World) (b a : Nat) (X : Int) (Y Z : Bool) : World := ((W.setCell ⟨b, a, none⟩ (.int .u32 X)).setCell ⟨b, 17, none⟩ (.bool Y)).setCell ⟨b, 18, none⟩ (.bool Z)
def finR (cs : Array Value) (a : Nat) (X : Int) (Y Z : Bool) : Array Value := ((cs.setIfInBounds a (.int .u32 X)).setIfInBounds 17 (.bool Y)).setIfInBounds 18 (.bool Z)
theorem finR_fin (cs : Array Value) (a : Nat) (W : Int) (h0 : 0 ≤ W) (h1 : W < 4294967296) : finR cs a W (W / 2147483648 != 0) (W == 0) = fin cs a W := by
  unfold finR fin
  rw [beq_dec, bne_dec, show decide (2147483648 ≤ W) = !decide (W / 2147483648 = 0) from by rw [← decide_not, decide_eq_decide]; omega]
theorem chain_blk {W : World} {b a : Nat} {cs : Array Value} {t : TypeId} (h : Blk W b cs t) (X : Int) (Y Z : Bool) : Blk (chain W b a X Y Z) b (finR cs a X Y Z) t := ((h.set _ _).set _ _).set _ _
theorem chain_far {W : World} {b a g : Nat} {cs : Array Value} {t : TypeId} (h : Blk W g cs t) (hg : g ≠ b) (X : Int) (Y Z : Bool) : Blk (chain W b a X Y Z) g cs t := ((h.far hg _).far hg _).far hg _
theorem finR_size {cs : Array Value} {a : Nat} {X : Int} {Y Z : Bool} (h : cs.size = 22) : (finR cs a X Y Z).size = 22 := by simp [finR, h]
theorem finR_one {cs : Array Value} {a : Nat} {X : Int} {Y Z : Bool} (h : OneRow cs) : OneRow (finR cs a X Y Z) := ((h.set _ rfl).set _ rfl).set _ rfl
theorem tailf {W : World} {b0 b2 : Nat} {ci old : Array Value} (h0 : Blk W b0 ci 25) (h2 : Blk W b2 old 25) (hn : b2 ≠ b0) (hs : ci.size = 22) (ho : old.size = 22) (h1 : OneRow ci) (a : Nat) (ha : a ≤ 15) :
    (∃ x, W.cell? ⟨b0, a, none⟩ = some x) ∧ (∃ x, W.cell? ⟨b0, 17, none⟩ = some x) ∧ (∃ x, W.cell? ⟨b0, 18, none⟩ = some x) ∧ (∀ o, W.frozen? ⟨b0, o, none⟩ = false) ∧
      (∀ X Y Z, (loadWhole 25 (.pointer (some ⟨b0, 0, none⟩))).run Tryd.prog (((W.setCell ⟨b0, a, none⟩ (.int .u32 X)).setCell ⟨b0, 17, none⟩ (.bool Y)).setCell ⟨b0, 18, none⟩ (.bool Z)) = .ok (.agg (finR ci a X Y Z)) (chain W b0 a X Y Z)) ∧
      (∀ X Y Z, (storeWhole 25 (.pointer (some ⟨b2, 0, none⟩)) (.agg (finR ci a X Y Z))).run Tryd.prog (chain W b0 a X Y Z) = .ok () ((chain W b0 a X Y Z).setRow b2 (finR ci a X Y Z))) ∧
      (∀ X Y Z, (loadVar 25 ⟨b2, 0, none⟩).run Tryd.prog ((chain W b0 a X Y Z).setRow b2 (finR ci a X Y Z)) = .ok (.agg (finR ci a X Y Z)) ((chain W b0 a X Y Z).setRow b2 (finR ci a X Y Z))) := by
  have e : ∀ k, k < 22 → ∃ x, W.cell? ⟨b0, k, none⟩ = some x := fun k hk => by
    obtain ⟨x, hx⟩ := at_some hs hk
    exact ⟨x, (h0.cell k).trans hx⟩
  refine ⟨e a (by omega), e 17 (by omega), e 18 (by omega), fun o => h0.frozen o, fun X Y Z => load_cpu (chain_blk h0 X Y Z) (finR_size hs), fun X Y Z => store_cpu (chain_far h2 hn X Y Z) ho (finR_size hs) (finR_one h1), fun X Y Z => loadVar_cpu ((chain_far h2 hn X Y Z).setRow _) (finR_size hs)⟩
theorem bel_chain {B : Nat} {w W : World} (h : Below B w W) (a : Nat) (X : Int) (Y Z : Bool) : Below B w (chain W B a X Y Z) := ((h.setCell (Nat.le_refl _) _).setCell (Nat.le_refl _) _).setCell (Nat.le_refl _) _
theorem exec_head {w w1 : World} {cs I old : Array Value} {t : TypeId} (h0 : Blk w1 w.heap.size cs t) (h1 : Blk w1 (w.heap.size + 1) I 33) (h2 : Blk w1 (w.heap.size + 1 + 1) old t) (hs : w.heap.size + 3 ≤ w1.heap.size) (hB : Below w.heap.size w w1) (x : Value) :
    let W := (w1.alloc (.cells cs t)).setCell ⟨w.heap.size, 21, none⟩ x
    Blk W w.heap.size (cs.setIfInBounds 21 x) t ∧ Blk W (w.heap.size + 1) I 33 ∧ Blk W (w.heap.size + 1 + 1) old t ∧ Blk W w1.heap.size cs t ∧ Below w.heap.size w W := by
  intro W
  refine ⟨(h0.old _).set _ _, (h1.old _).far (by simp) _, (h2.old _).far (by simp; omega) _, (Blk.new w1 cs t).far (by simp; omega) _, ?_⟩
  exact (hB.alloc (by omega) _).setCell (Nat.le_refl _) _
end Go.Proofs.YtnghhkageiceaaaDoor
