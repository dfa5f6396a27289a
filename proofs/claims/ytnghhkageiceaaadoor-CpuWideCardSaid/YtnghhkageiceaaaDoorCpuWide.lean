/- The walk of CpuWide. -/
import Derived.Test.YtnghhkageiceaaaDoorCpuTwo
import Derived.Deep.DeepCutAuto
import Derived.Test.YtnghhkageiceaaaDoorGen
namespace Go.Proofs.YtnghhkageiceaaaDoor
open Go Go.RowKit Go.Lib Go.Proofs.YtnghhkageiceaaaDoor.Pl
set_option linter.unusedVariables false
set_option linter.unusedSimpArgs false
attribute [local go_sem ↓] exec_load_cpu exec_store_cpu

def zC : Array Value := #[.int .u32 0, .int .u32 0, .int .u32 0, .int .u32 0, .int .u32 0, .int .u32 0, .int .u32 0, .int .u32 0, .int .u32 0, .int .u32 0, .int .u32 0, .int .u32 0, .int .u32 0, .int .u32 0, .int .u32 0, .int .u32 0, .int .u32 0, .bool false, .bool false, .bool false, .bool false, .int .u32 0]
theorem zC_ok : CpuOk zC := cpuOk_lit (fun _ => 0) (fun _ => by omega) 0 0 (by omega) (by omega) false false false false
/-- The operands laid into a processor. -/
def ops2 (cs : Array Value) (x y : Int) : Array Value := (cs.setIfInBounds 1 (.int .u32 x)).setIfInBounds 2 (.int .u32 y)
theorem ops2_ok {cs : Array Value} (h : CpuOk cs) {x y : Int} (hx : 0 ≤ x ∧ x < 4294967296) (hy : 0 ≤ y ∧ y < 4294967296) : CpuOk (ops2 cs x y) := (h.setW 1 (.inl (by omega)) x hx.1 hx.2).setW 2 (.inl (by omega)) y hy.1 hy.2
theorem rgV_eq {cs : Array Value} {k : Nat} {x : Int} (h : cs[k]? = some (.int .u32 x)) : rgV cs k = x := by unfold rgV; rw [h]
theorem flV_eq {cs : Array Value} {k : Nat} {x : Bool} (h : cs[k]? = some (.bool x)) : flV cs k = x := by unfold flV; rw [h]
theorem ops2_at {cs : Array Value} (h : CpuOk cs) (x y : Int) : rgV (ops2 cs x y) 1 = x ∧ rgV (ops2 cs x y) 2 = y ∧ flV (ops2 cs x y) 19 = flV cs 19 := by
  have hs := h.size
  refine ⟨rgV_eq ?_, rgV_eq ?_, flV_eq ?_⟩
  · unfold ops2; rw [set_at _ 2 1 _ (by simp [hs]), if_neg (by omega), set_at _ 1 1 _ (by omega), if_pos rfl]
  · unfold ops2; rw [set_at _ 2 2 _ (by simp [hs]), if_pos rfl]
  · unfold ops2; rw [set_at _ 2 19 _ (by simp [hs]), if_neg (by omega), set_at _ 1 19 _ (by omega), if_neg (by omega)]; exact h.cV
theorem right_two (op : Int) (h : op = 8 ∨ op = 9) (u : Bool) : rightB 0 u false 0 1 op 2 0 = true := by rcases h with rfl | rfl <;> cases u <;> rfl
theorem two_is (cs : Array Value) (op : Int) (h : op = 8 ∨ op = 9) (u : Bool) : exV cs 0 u false 0 1 op 2 0 0 = exAlu cs 0 u false 0 1 op 2 0 := by
  unfold exV
  rw [if_neg (by rw [right_two op h u]; simp), if_neg (by omega), if_neg (by omega)]
  rfl
theorem exAlu_8 (cs : Array Value) (u : Bool) : exAlu cs 0 u false 0 1 8 2 0 = (fin (aluC cs u 8 (rgV cs 1) (rgV cs 2)) 0 (addS (rgV cs 1) (rgV cs 2) (u && flV cs 19)), 0, false) := rfl
theorem exAlu_9 (cs : Array Value) (u : Bool) : exAlu cs 0 u false 0 1 9 2 0 = (fin (aluC cs u 9 (rgV cs 1) (rgV cs 2)) 0 (subS (rgV cs 1) (rgV cs 2) (u && flV cs 19)), 0, false) := rfl
theorem two8 {cs : Array Value} (h : CpuOk cs) (u : Bool) : twoT cs 8 u = false ∧ (twoR cs 8 u)[0]? = some (.int .u32 (addS (rgV cs 1) (rgV cs 2) (u && flV cs 19))) ∧ flV (twoR cs 8 u) 19 = addC (rgV cs 1) (rgV cs 2) (u && flV cs 19) := by
  have hs := h.size
  unfold twoT twoR
  rw [two_is cs 8 (.inl rfl) u]
  have e : exAlu cs 0 u false 0 1 8 2 0 = (fin (aluC cs u 8 (rgV cs 1) (rgV cs 2)) 0 (addS (rgV cs 1) (rgV cs 2) (u && flV cs 19)), 0, false) := exAlu_8 cs u
  rw [e]
  refine ⟨rfl, ?_, flV_eq ?_⟩
  · unfold fin aluC c21
    rw [if_pos rfl, set_at _ 18 0 _ (by simp [hs]), if_neg (by omega), set_at _ 17 0 _ (by simp [hs]), if_neg (by omega), set_at _ 0 0 _ (by simp [hs]), if_pos rfl]
  · unfold fin aluC c21
    rw [if_pos rfl, set_at _ 18 19 _ (by simp [hs]), if_neg (by omega), set_at _ 17 19 _ (by simp [hs]), if_neg (by omega), set_at _ 0 19 _ (by simp [hs]), if_neg (by omega), set_at _ 20 19 _ (by simp [hs]), if_neg (by omega), set_at _ 19 19 _ (by simp [hs]), if_pos rfl]
theorem two9 {cs : Array Value} (h : CpuOk cs) (u : Bool) : twoT cs 9 u = false ∧ (twoR cs 9 u)[0]? = some (.int .u32 (subS (rgV cs 1) (rgV cs 2) (u && flV cs 19))) ∧ flV (twoR cs 9 u) 19 = subC (rgV cs 1) (rgV cs 2) (u && flV cs 19) := by
  have hs := h.size
  unfold twoT twoR
  rw [two_is cs 9 (.inr rfl) u]
  have e : exAlu cs 0 u false 0 1 9 2 0 = (fin (aluC cs u 9 (rgV cs 1) (rgV cs 2)) 0 (subS (rgV cs 1) (rgV cs 2) (u && flV cs 19)), 0, false) := exAlu_9 cs u
  rw [e]
  refine ⟨rfl, ?_, flV_eq ?_⟩
  · unfold fin aluC c21
    rw [if_neg (by omega), if_pos rfl, set_at _ 18 0 _ (by simp [hs]), if_neg (by omega), set_at _ 17 0 _ (by simp [hs]), if_neg (by omega), set_at _ 0 0 _ (by simp [hs]), if_pos rfl]
  · unfold fin aluC c21
    rw [if_neg (by omega), if_pos rfl, set_at _ 18 19 _ (by simp [hs]), if_neg (by omega), set_at _ 17 19 _ (by simp [hs]), if_neg (by omega), set_at _ 0 19 _ (by simp [hs]), if_neg (by omega), set_at _ 20 19 _ (by simp [hs]), if_neg (by omega), set_at _ 19 19 _ (by simp [hs]), if_pos rfl]
/-- One half: the sum, the difference. -/
theorem half_add {cs : Array Value} (h : CpuOk cs) (u : Bool) {x y : Int} (hx : 0 ≤ x ∧ x < 4294967296) (hy : 0 ≤ y ∧ y < 4294967296) (w : World) (hT : Tab w) :
    Calls Tryd.prog 12 #[.agg (ops2 cs x y), .int .i64 8, .bool u] w fun e w' => e = .returned (.tuple #[.agg (twoR (ops2 cs x y) 8 u), .bool false]) ∧ Below w.heap.size w w' := by
  have := two_any (ops2 cs x y) (ops2_ok h hx hy) 8 u w hT
  rw [(two8 (ops2_ok h hx hy) u).1] at this
  exact this
theorem half_sub {cs : Array Value} (h : CpuOk cs) (u : Bool) {x y : Int} (hx : 0 ≤ x ∧ x < 4294967296) (hy : 0 ≤ y ∧ y < 4294967296) (w : World) (hT : Tab w) :
    Calls Tryd.prog 12 #[.agg (ops2 cs x y), .int .i64 9, .bool u] w fun e w' => e = .returned (.tuple #[.agg (twoR (ops2 cs x y) 9 u), .bool false]) ∧ Below w.heap.size w w' := by
  have := two_any (ops2 cs x y) (ops2_ok h hx hy) 9 u w hT
  rw [(two9 (ops2_ok h hx hy) u).1] at this
  exact this
theorem half_at {cs : Array Value} (h : CpuOk cs) (u : Bool) {x y : Int} (hx : 0 ≤ x ∧ x < 4294967296) (hy : 0 ≤ y ∧ y < 4294967296) :
    CpuOk (twoR (ops2 cs x y) 8 u) ∧ (twoR (ops2 cs x y) 8 u)[0]? = some (.int .u32 (addS x y (u && flV cs 19))) ∧ flV (twoR (ops2 cs x y) 8 u) 19 = addC x y (u && flV cs 19) ∧
    CpuOk (twoR (ops2 cs x y) 9 u) ∧ (twoR (ops2 cs x y) 9 u)[0]? = some (.int .u32 (subS x y (u && flV cs 19))) ∧ flV (twoR (ops2 cs x y) 9 u) 19 = subC x y (u && flV cs 19) := by
  have ho := ops2_ok h hx hy
  obtain ⟨_, a1, a2⟩ := two8 ho u
  obtain ⟨_, b1, b2⟩ := two9 ho u
  obtain ⟨e1, e2, e3⟩ := ops2_at h x y
  rw [e1, e2, e3] at a1 a2 b1 b2
  exact ⟨twoR_ok ho 8 u, a1, a2, twoR_ok ho 9 u, b1, b2⟩
theorem or_64 (x y : Int) (hx0 : 0 ≤ x) (hx1 : x < 4294967296) (hy0 : 0 ≤ y) (hy1 : y < 4294967296) : bits .or .u64 (x * 4294967296) y = x * 4294967296 + y := by
  rw [u64_or _ _ (by omega) (by omega) hy0 (by omega)]
  obtain ⟨x, rfl⟩ := Int.eq_ofNat_of_zero_le hx0
  obtain ⟨y, rfl⟩ := Int.eq_ofNat_of_zero_le hy0
  rw [show ((x : Int) * 4294967296).toNat = x * 4294967296 from by omega, Int.toNat_natCast, nat_join 32 (x * 4294967296) y (by omega) (by omega)]
  omega
/-- Sum and difference of 64 bits. -/
theorem wide_sum (a b : Int) (ha0 : 0 ≤ a) (ha1 : a < 18446744073709551616) (hb0 : 0 ≤ b) (hb1 : b < 18446744073709551616) :
    bits .or .u64 (addS (a / 4294967296) (b / 4294967296) (addC (a % 4294967296) (b % 4294967296) false) * 4294967296) (addS (a % 4294967296) (b % 4294967296) false) = (a + b) % 18446744073709551616 ∧
    addC (a / 4294967296) (b / 4294967296) (addC (a % 4294967296) (b % 4294967296) false) = decide ((a + b) % 18446744073709551616 < a) := by
  have h1 := addS_bd (a / 4294967296) (b / 4294967296) (addC (a % 4294967296) (b % 4294967296) false)
  have h2 := addS_bd (a % 4294967296) (b % 4294967296) false
  rw [or_64 _ _ h1.1 h1.2 h2.1 h2.2]
  cases hc : addC (a % 4294967296) (b % 4294967296) false
  · have hc' : ¬ 4294967296 ≤ a % 4294967296 + b % 4294967296 + cr false := by simpa [addC] using hc
    unfold addS addC
    simp only [cr, Bool.false_eq_true, if_false] at hc' ⊢
    exact ⟨by omega, by rw [decide_eq_decide]; omega⟩
  · have hc' : 4294967296 ≤ a % 4294967296 + b % 4294967296 + cr false := by simpa [addC] using hc
    unfold addS addC
    simp only [cr, Bool.false_eq_true, if_false, if_true] at hc' ⊢
    exact ⟨by omega, by rw [decide_eq_decide]; omega⟩
theorem wide_dif (a b : Int) (ha0 : 0 ≤ a) (ha1 : a < 18446744073709551616) (hb0 : 0 ≤ b) (hb1 : b < 18446744073709551616) :
    bits .or .u64 (subS (a / 4294967296) (b / 4294967296) (subC (a % 4294967296) (b % 4294967296) false) * 4294967296) (subS (a % 4294967296) (b % 4294967296) false) = (a - b) % 18446744073709551616 ∧
    subC (a / 4294967296) (b / 4294967296) (subC (a % 4294967296) (b % 4294967296) false) = decide (a < b) := by
  have h1 := subS_bd (a / 4294967296) (b / 4294967296) (subC (a % 4294967296) (b % 4294967296) false)
  have h2 := subS_bd (a % 4294967296) (b % 4294967296) false
  rw [or_64 _ _ h1.1 h1.2 h2.1 h2.2]
  cases hc : subC (a % 4294967296) (b % 4294967296) false
  · have hc' : ¬ a % 4294967296 - b % 4294967296 - cr false < 0 := by simpa [subC] using hc
    unfold subS subC
    simp only [cr, Bool.false_eq_true, if_false] at hc' ⊢
    exact ⟨by omega, by rw [decide_eq_decide]; omega⟩
  · have hc' : a % 4294967296 - b % 4294967296 - cr false < 0 := by simpa [subC] using hc
    unfold subS subC
    simp only [cr, Bool.false_eq_true, if_false, if_true] at hc' ⊢
    exact ⟨by omega, by rw [decide_eq_decide]; omega⟩
/-- The four variables, and all below. -/
def Wd (w wr : World) (C D : Array Value) (s0 s1 d0 d1 : Int) : Prop :=
  Below w.heap.size w wr ∧ Blk wr w.heap.size #[.int .u32 s0, .int .u32 s1] 49 ∧ Blk wr (w.heap.size + 1) #[.int .u32 d0, .int .u32 d1] 49 ∧ Blk wr (w.heap.size + 1 + 1) C 25 ∧ Blk wr (w.heap.size + 1 + 1 + 1) D 25 ∧ w.heap.size + 4 ≤ wr.heap.size
def WdRel (a b : Int) (w wr : World) (i : Value) : Prop :=
  i = .int .i64 0 ∧ Wd w wr zC zC 0 0 0 0 ∨
  (∃ C D, i = .int .i64 1 ∧ CpuOk C ∧ CpuOk D ∧ flV C 19 = addC (a % 4294967296) (b % 4294967296) false ∧ flV D 19 = subC (a % 4294967296) (b % 4294967296) false ∧ Wd w wr C D (addS (a % 4294967296) (b % 4294967296) false) 0 (subS (a % 4294967296) (b % 4294967296) false) 0) ∨
  (∃ C D, i = .int .i64 2 ∧ CpuOk C ∧ CpuOk D ∧ flV C 19 = addC (a / 4294967296) (b / 4294967296) (addC (a % 4294967296) (b % 4294967296) false) ∧ flV D 19 = subC (a / 4294967296) (b / 4294967296) (subC (a % 4294967296) (b % 4294967296) false) ∧
    Wd w wr C D (addS (a % 4294967296) (b % 4294967296) false) (addS (a / 4294967296) (b / 4294967296) (addC (a % 4294967296) (b % 4294967296) false)) (subS (a % 4294967296) (b % 4294967296) false) (subS (a / 4294967296) (b / 4294967296) (subC (a % 4294967296) (b % 4294967296) false)))
theorem sz_set' (w : World) (a : Addr) (v : Value) : (w.setCell a v).heap.size = w.heap.size := by simp [World.setCell]
theorem Wd.setC {w wr : World} {C D : Array Value} {s0 s1 d0 d1 : Int} (h : Wd w wr C D s0 s1 d0 d1) (j : Nat) (v : Value) : Wd w (wr.setCell ⟨w.heap.size + 1 + 1, j, none⟩ v) (C.setIfInBounds j v) D s0 s1 d0 d1 := by
  obtain ⟨h1, h2, h3, h4, h5, h6⟩ := h
  exact ⟨h1.setCell (by simp; omega) v, h2.far (by simp; omega) v, h3.far (by simp) v, h4.set j v, h5.far (by simp) v, by rw [sz_set']; exact h6⟩
theorem Wd.setD {w wr : World} {C D : Array Value} {s0 s1 d0 d1 : Int} (h : Wd w wr C D s0 s1 d0 d1) (j : Nat) (v : Value) : Wd w (wr.setCell ⟨w.heap.size + 1 + 1 + 1, j, none⟩ v) C (D.setIfInBounds j v) s0 s1 d0 d1 := by
  obtain ⟨h1, h2, h3, h4, h5, h6⟩ := h
  exact ⟨h1.setCell (by simp; omega) v, h2.far (by simp; omega) v, h3.far (by simp; try omega) v, h4.far (by simp) v, h5.set j v, by rw [sz_set']; exact h6⟩
theorem Wd.step {w wr w1 : World} {C D : Array Value} {s0 s1 d0 d1 : Int} (h : Wd w wr C D s0 s1 d0 d1) (b : Below wr.heap.size wr w1) : Wd w w1 C D s0 s1 d0 d1 := by
  obtain ⟨h1, h2, h3, h4, h5, h6⟩ := h
  exact ⟨h1.trans (b.mono h1.size), h2.step b, h3.step b, h4.step b, h5.step b, Nat.le_trans h6 b.size⟩
theorem Wd.alloc {w wr : World} {C D : Array Value} {s0 s1 d0 d1 : Int} (h : Wd w wr C D s0 s1 d0 d1) (o : Obj) : Wd w (wr.alloc o) C D s0 s1 d0 d1 := h.step ((Below.refl _ _).alloc (Nat.le_refl _) o)
theorem Wd.rowC {w wr : World} {C D : Array Value} {s0 s1 d0 d1 : Int} (h : Wd w wr C D s0 s1 d0 d1) (X : Array Value) : Wd w (wr.setRow (w.heap.size + 1 + 1) X) X D s0 s1 d0 d1 := by
  obtain ⟨h1, h2, h3, h4, h5, h6⟩ := h
  exact ⟨belRow h1 (by omega) X, h2.farRow (by omega) X, h3.farRow (by omega) X, h4.setRow X, h5.farRow (by omega) X, by simpa using h6⟩
theorem Wd.rowD {w wr : World} {C D : Array Value} {s0 s1 d0 d1 : Int} (h : Wd w wr C D s0 s1 d0 d1) (X : Array Value) : Wd w (wr.setRow (w.heap.size + 1 + 1 + 1) X) C X s0 s1 d0 d1 := by
  obtain ⟨h1, h2, h3, h4, h5, h6⟩ := h
  exact ⟨belRow h1 (by omega) X, h2.farRow (by omega) X, h3.farRow (by omega) X, h4.farRow (by omega) X, h5.setRow X, by simpa using h6⟩
theorem Wd.set0 {w wr : World} {C D : Array Value} {s0 s1 d0 d1 : Int} (h : Wd w wr C D s0 s1 d0 d1) (x : Int) : Wd w (wr.setCell ⟨w.heap.size, 0, none⟩ (.int .u32 x)) C D x s1 d0 d1 := by
  obtain ⟨h1, h2, h3, h4, h5, h6⟩ := h
  exact ⟨h1.setCell (by simp) _, h2.set 0 _, h3.far (by simp) _, h4.far (by simp; omega) _, h5.far (by simp; omega) _, by rw [sz_set']; exact h6⟩
theorem Wd.set1 {w wr : World} {C D : Array Value} {s0 s1 d0 d1 : Int} (h : Wd w wr C D s0 s1 d0 d1) (x : Int) : Wd w (wr.setCell ⟨w.heap.size, 1, none⟩ (.int .u32 x)) C D s0 x d0 d1 := by
  obtain ⟨h1, h2, h3, h4, h5, h6⟩ := h
  exact ⟨h1.setCell (by simp) _, h2.set 1 _, h3.far (by simp) _, h4.far (by simp; omega) _, h5.far (by simp; omega) _, by rw [sz_set']; exact h6⟩
theorem Wd.dif0 {w wr : World} {C D : Array Value} {s0 s1 d0 d1 : Int} (h : Wd w wr C D s0 s1 d0 d1) (x : Int) : Wd w (wr.setCell ⟨w.heap.size + 1, 0, none⟩ (.int .u32 x)) C D s0 s1 x d1 := by
  obtain ⟨h1, h2, h3, h4, h5, h6⟩ := h
  exact ⟨h1.setCell (by simp) _, h2.far (by simp) _, h3.set 0 _, h4.far (by simp) _, h5.far (by simp; omega) _, by rw [sz_set']; exact h6⟩
theorem Wd.dif1 {w wr : World} {C D : Array Value} {s0 s1 d0 d1 : Int} (h : Wd w wr C D s0 s1 d0 d1) (x : Int) : Wd w (wr.setCell ⟨w.heap.size + 1, 1, none⟩ (.int .u32 x)) C D s0 s1 d0 x := by
  obtain ⟨h1, h2, h3, h4, h5, h6⟩ := h
  exact ⟨h1.setCell (by simp) _, h2.far (by simp) _, h3.set 1 _, h4.far (by simp) _, h5.far (by simp; omega) _, by rw [sz_set']; exact h6⟩
set_option maxRecDepth 100000 in
set_option maxHeartbeats 4000000 in
theorem wide_any (a b : Int) (ha0 : 0 ≤ a) (ha1 : a < 18446744073709551616) (hb0 : 0 ≤ b) (hb1 : b < 18446744073709551616) (w : World) (hT : Tab w) :
    Calls Tryd.prog 10 #[.int .u64 a, .int .u64 b] w fun e w' => e = .returned (.bool true) ∧ Below w.heap.size w w' := by
  have HT : Hid (∀ W, Below w.heap.size w W → Tab W) := fun W hB => hT.below hB hT.lt
  clear hT
  have hW0 : Wd w ((((w.alloc (.cells #[.int .u32 0, .int .u32 0] 49)).alloc (.cells #[.int .u32 0, .int .u32 0] 49)).alloc (.cells #[.int .u32 0, .int .u32 0, .int .u32 0, .int .u32 0, .int .u32 0, .int .u32 0, .int .u32 0, .int .u32 0, .int .u32 0, .int .u32 0, .int .u32 0, .int .u32 0, .int .u32 0, .int .u32 0, .int .u32 0, .int .u32 0, .int .u32 0, .bool false, .bool false, .bool false, .bool false, .int .u32 0] 25)).alloc (.cells #[.int .u32 0, .int .u32 0, .int .u32 0, .int .u32 0, .int .u32 0, .int .u32 0, .int .u32 0, .int .u32 0, .int .u32 0, .int .u32 0, .int .u32 0, .int .u32 0, .int .u32 0, .int .u32 0, .int .u32 0, .int .u32 0, .int .u32 0, .bool false, .bool false, .bool false, .bool false, .int .u32 0] 25)) zC zC 0 0 0 0 := by
    have h0 := Blk.new w #[.int .u32 0, .int .u32 0] 49
    have h1 := Blk.new (w.alloc (.cells #[.int .u32 0, .int .u32 0] 49)) #[.int .u32 0, .int .u32 0] 49
    have h2 := Blk.new ((w.alloc (.cells #[.int .u32 0, .int .u32 0] 49)).alloc (.cells #[.int .u32 0, .int .u32 0] 49)) zC 25
    have h3 := Blk.new (((w.alloc (.cells #[.int .u32 0, .int .u32 0] 49)).alloc (.cells #[.int .u32 0, .int .u32 0] 49)).alloc (.cells zC 25)) zC 25
    simp only [World.size_alloc] at h1 h2 h3
    exact ⟨((((Below.refl _ _).alloc (Nat.le_refl _) _).alloc (by simp) _).alloc (by simp; omega) _).alloc (by simp; omega) _, ((h0.old _).old _).old _, (h1.old _).old _, h2.old _, h3, by simp⟩
  have HW0 := Lib.hid hW0
  clear hW0
  have hs3 := store_new (w := (w.alloc (.cells #[.int .u32 0, .int .u32 0] 49)).alloc (.cells #[.int .u32 0, .int .u32 0] 49)) (Z := #[.int .u32 0, .int .u32 0, .int .u32 0, .int .u32 0, .int .u32 0, .int .u32 0, .int .u32 0, .int .u32 0, .int .u32 0, .int .u32 0, .int .u32 0, .int .u32 0, .int .u32 0, .int .u32 0, .int .u32 0, .int .u32 0, .int .u32 0, .bool false, .bool false, .bool false, .bool false, .int .u32 0]) (cs := #[.int .u32 0, .int .u32 0, .int .u32 0, .int .u32 0, .int .u32 0, .int .u32 0, .int .u32 0, .int .u32 0, .int .u32 0, .int .u32 0, .int .u32 0, .int .u32 0, .int .u32 0, .int .u32 0, .int .u32 0, .int .u32 0, .int .u32 0, .bool false, .bool false, .bool false, .bool false, .int .u32 0]) (t := 25) rfl rfl zC_ok.one
  have hs4 := store_new (w := ((w.alloc (.cells #[.int .u32 0, .int .u32 0] 49)).alloc (.cells #[.int .u32 0, .int .u32 0] 49)).alloc (.cells #[.int .u32 0, .int .u32 0, .int .u32 0, .int .u32 0, .int .u32 0, .int .u32 0, .int .u32 0, .int .u32 0, .int .u32 0, .int .u32 0, .int .u32 0, .int .u32 0, .int .u32 0, .int .u32 0, .int .u32 0, .int .u32 0, .int .u32 0, .bool false, .bool false, .bool false, .bool false, .int .u32 0] 25)) (Z := #[.int .u32 0, .int .u32 0, .int .u32 0, .int .u32 0, .int .u32 0, .int .u32 0, .int .u32 0, .int .u32 0, .int .u32 0, .int .u32 0, .int .u32 0, .int .u32 0, .int .u32 0, .int .u32 0, .int .u32 0, .int .u32 0, .int .u32 0, .bool false, .bool false, .bool false, .bool false, .int .u32 0]) (cs := #[.int .u32 0, .int .u32 0, .int .u32 0, .int .u32 0, .int .u32 0, .int .u32 0, .int .u32 0, .int .u32 0, .int .u32 0, .int .u32 0, .int .u32 0, .int .u32 0, .int .u32 0, .int .u32 0, .int .u32 0, .int .u32 0, .int .u32 0, .bool false, .bool false, .bool false, .bool false, .int .u32 0]) (t := 25) rfl rfl zC_ok.one
  simp only [World.size_alloc] at hs3 hs4
  go_enter Tryd.func10, Tryd.ntmps10
  go_wp2_with fail
  clear hs3 hs4
  go_loopw [9] (fun i wr => Hid (WdRel a b w wr i)) (fun i _ => 2 - (intOf i).toNat)
  case atStart => exact .inl ⟨rfl, HW0.out⟩
  case round =>
    rcases hrel.out with ⟨rfl, hW⟩ | ⟨C, D, rfl, hC, hD, hc, hd, hW⟩ | ⟨C, D, rfl, hC, hD, hc, hd, hW⟩
    · have HW := Lib.hid hW
      clear hrel hW HW0
      obtain ⟨x1, c1⟩ := at_some (k := 1) zC_ok.size (by omega)
      obtain ⟨x2, c2⟩ := at_some (k := 2) zC_ok.size (by omega)
      obtain ⟨y1, e1⟩ := at_some (k := 1) zC_ok.size (by omega)
      obtain ⟨y2, e2⟩ := at_some (k := 2) zC_ok.size (by omega)
      have a1 := (HW.out.2.2.2.1.cell 1).trans c1
      have a2 := (HW.out.2.2.2.1.cell 2).trans c2
      have b1 := (HW.out.2.2.2.2.1.cell 1).trans e1
      have b2 := (HW.out.2.2.2.2.1.cell 2).trans e2
      have fC := HW.out.2.2.2.1.frozen
      have fD := HW.out.2.2.2.2.1.frozen
      clear c1 c2 e1 e2
      go_upto_region 12 with fail
      clear a1 a2 b1 b2 fC fD
      have H1 := Lib.hid ((((HW.out.setC 1 (.int .u32 (a % 4294967296))).setC 2 (.int .u32 (b % 4294967296))).setD 1 (.int .u32 (a % 4294967296))).setD 2 (.int .u32 (b % 4294967296)))
      clear HW
      generalize (((wr.setCell ⟨w.heap.size + 1 + 1, 1, none⟩ (.int .u32 (a % 4294967296))).setCell ⟨w.heap.size + 1 + 1, 2, none⟩ (.int .u32 (b % 4294967296))).setCell ⟨w.heap.size + 1 + 1 + 1, 1, none⟩ (.int .u32 (a % 4294967296))).setCell ⟨w.heap.size + 1 + 1 + 1, 2, none⟩ (.int .u32 (b % 4294967296)) = W1 at H1 ⊢
      have HP : Hid ((0 ≤ (a % 4294967296) ∧ (a % 4294967296) < 4294967296) ∧ (0 ≤ (b % 4294967296) ∧ (b % 4294967296) < 4294967296)) := by unfold Hid; omega
      obtain ⟨o1, v1, f1, _, _, _⟩ := half_at zC_ok false HP.out.1 HP.out.2
      obtain ⟨_, _, _, o2, v2, f2⟩ := half_at zC_ok false HP.out.1 HP.out.2
      have O1 := Lib.hid o1
      have V1 := Lib.hid v1
      have F1 := Lib.hid f1
      have O2 := Lib.hid o2
      have V2 := Lib.hid v2
      have F2 := Lib.hid f2
      clear o1 v1 f1 o2 v2 f2
      have hl := load_cpu (cs := ops2 zC (a % 4294967296) (b % 4294967296)) H1.out.2.2.2.1 (ops2_ok zC_ok HP.out.1 HP.out.2).size
      go_upto_region 13 with (go_at_call 12; (refine (half_add zC_ok false HP.out.1 HP.out.2 _ (HT.out _ H1.out.1)).mono ?_; rintro e w1 ⟨rfl, hb1⟩; have L1 := Lib.hid ((H1.out.step hb1).alloc (.cells (twoR (ops2 zC (a % 4294967296) (b % 4294967296)) 8 false) 25)); have GX0 : Hid (w.heap.size + 4 ≤ w1.heap.size) := Nat.le_trans H1.out.2.2.2.2.2 hb1.size; have LN := Lib.hid (Blk.new w1 (twoR (ops2 zC (a % 4294967296) (b % 4294967296)) 8 false) 25); have hst := store_new (w := w1) (Z := #[.int .u32 0, .int .u32 0, .int .u32 0, .int .u32 0, .int .u32 0, .int .u32 0, .int .u32 0, .int .u32 0, .int .u32 0, .int .u32 0, .int .u32 0, .int .u32 0, .int .u32 0, .int .u32 0, .int .u32 0, .int .u32 0, .int .u32 0, .bool false, .bool false, .bool false, .bool false, .int .u32 0]) (t := 25) rfl O1.out.size O1.out.one; clear hb1))
      clear hl hst H1
      have GXX : Hid (w.heap.size + 4 ≤ w1.heap.size) := GX0.out
      obtain ⟨g10, hg⟩ : ∃ g, w1.heap.size = g := ⟨_, rfl⟩
      rw [hg] at LN GXX ⊢
      clear hg
      generalize w1.alloc (.cells (twoR (ops2 zC (a % 4294967296) (b % 4294967296)) 8 false) 25) = W2 at L1 LN ⊢
      have hl := load_cpu (cs := ops2 zC (a % 4294967296) (b % 4294967296)) L1.out.2.2.2.2.1 (ops2_ok zC_ok HP.out.1 HP.out.2).size
      go_upto_region 14 with (go_at_call 12; (refine (half_sub zC_ok false HP.out.1 HP.out.2 _ (HT.out _ L1.out.1)).mono ?_; rintro e w3 ⟨rfl, hb1⟩; have M1 := Lib.hid ((L1.out.step hb1).alloc (.cells (twoR (ops2 zC (a % 4294967296) (b % 4294967296)) 9 false) 25)); have MX := Lib.hid (Blk.old (LN.out.step hb1) (.cells (twoR (ops2 zC (a % 4294967296) (b % 4294967296)) 9 false) 25)); have MN := Lib.hid (Blk.new w3 (twoR (ops2 zC (a % 4294967296) (b % 4294967296)) 9 false) 25); have hst := store_new (w := w3) (Z := #[.int .u32 0, .int .u32 0, .int .u32 0, .int .u32 0, .int .u32 0, .int .u32 0, .int .u32 0, .int .u32 0, .int .u32 0, .int .u32 0, .int .u32 0, .int .u32 0, .int .u32 0, .int .u32 0, .int .u32 0, .int .u32 0, .int .u32 0, .bool false, .bool false, .bool false, .bool false, .int .u32 0]) (t := 25) rfl O2.out.size O2.out.one; have GX : Hid (w.heap.size + 4 ≤ g10) := GXX.out; have MG : Hid (w.heap.size + 4 ≤ w3.heap.size) := Nat.le_trans L1.out.2.2.2.2.2 hb1.size; clear hb1))
      clear hl hst L1 LN
      obtain ⟨g12, hg⟩ : ∃ g, w3.heap.size = g := ⟨_, rfl⟩
      rw [hg] at MN MG ⊢
      clear hg
      generalize w3.alloc (.cells (twoR (ops2 zC (a % 4294967296) (b % 4294967296)) 9 false) 25) = W3 at M1 MX MN ⊢
      generalize hX : twoR (ops2 zC (a % 4294967296) (b % 4294967296)) 8 false = X at O1 V1 F1 MX ⊢
      generalize hY : twoR (ops2 zC (a % 4294967296) (b % 4294967296)) 9 false = Y at O2 V2 F2 MN ⊢
      clear hX hY
      have hl := load_cpu MX.out O1.out.size
      have hst := store_cpu M1.out.2.2.2.1 (ops2_ok zC_ok HP.out.1 HP.out.2).size O1.out.size O1.out.one
      go_upto_region 17 with fail
      have N1 := Lib.hid (M1.out.rowC X)
      have NX := Lib.hid (MX.out.farRow (k := w.heap.size + 1 + 1) (by have := GX.out; omega) X)
      have NY := Lib.hid (MN.out.farRow (k := w.heap.size + 1 + 1) (by have := MG.out; omega) X)
      clear hl hst M1 MX MN
      generalize W3.setRow (w.heap.size + 1 + 1) X = W4 at N1 NX NY ⊢
      have hl := load_cpu NY.out O2.out.size
      have hst := store_cpu N1.out.2.2.2.2.1 (ops2_ok zC_ok HP.out.1 HP.out.2).size O2.out.size O2.out.one
      go_upto_region 18 with fail
      have P1 := Lib.hid (N1.out.rowD Y)
      have PX := Lib.hid (NX.out.farRow (k := w.heap.size + 1 + 1 + 1) (by have := GX.out; omega) Y)
      have PY := Lib.hid (NY.out.farRow (k := w.heap.size + 1 + 1 + 1) (by have := MG.out; omega) Y)
      clear hl hst N1 NX NY
      generalize W4.setRow (w.heap.size + 1 + 1 + 1) Y = W5 at P1 PX PY ⊢
      have vx := (PX.out.cell 0).trans V1.out
      have vy := (PY.out.cell 0).trans V2.out
      have sc0 := P1.out.2.1.cell 0
      have dc0 := P1.out.2.2.1.cell 0
      simp only [List.getElem?_toArray, List.getElem?_cons_zero, List.getElem?_cons_succ] at sc0 dc0
      have sf := P1.out.2.1.frozen
      have df := P1.out.2.2.1.frozen
      have hgx : ¬ w.heap.size = g12 := by have := MG.out; omega
      have hgx2 : ¬ g12 = w.heap.size := by have := MG.out; omega
      have HR := Lib.hid ((P1.out.set0 (addS (a % 4294967296) (b % 4294967296) (false && flV zC 19))).dif0 (subS (a % 4294967296) (b % 4294967296) (false && flV zC 19)))
      go_wp2_with fail
      go_roundw
      case rel => exact .inr (.inl ⟨X, Y, rfl, O1.out, O2.out, F1.out, F2.out, HR.out⟩)
      case measure => simp [intOf]
    · have HW := Lib.hid hW
      have HC := Lib.hid hC
      have HD := Lib.hid hD
      have HCF := Lib.hid hc
      have HDF := Lib.hid hd
      clear hrel hW HW0 hC hD hc hd
      obtain ⟨x1, c1⟩ := at_some (k := 1) HC.out.size (by omega)
      obtain ⟨x2, c2⟩ := at_some (k := 2) HC.out.size (by omega)
      obtain ⟨y1, e1⟩ := at_some (k := 1) HD.out.size (by omega)
      obtain ⟨y2, e2⟩ := at_some (k := 2) HD.out.size (by omega)
      have a1 := (HW.out.2.2.2.1.cell 1).trans c1
      have a2 := (HW.out.2.2.2.1.cell 2).trans c2
      have b1 := (HW.out.2.2.2.2.1.cell 1).trans e1
      have b2 := (HW.out.2.2.2.2.1.cell 2).trans e2
      have fC := HW.out.2.2.2.1.frozen
      have fD := HW.out.2.2.2.2.1.frozen
      clear c1 c2 e1 e2
      go_upto_region 12 with fail
      clear a1 a2 b1 b2 fC fD
      have H1 := Lib.hid ((((HW.out.setC 1 (.int .u32 (a / 4294967296))).setC 2 (.int .u32 (b / 4294967296))).setD 1 (.int .u32 (a / 4294967296))).setD 2 (.int .u32 (b / 4294967296)))
      clear HW
      generalize (((wr.setCell ⟨w.heap.size + 1 + 1, 1, none⟩ (.int .u32 (a / 4294967296))).setCell ⟨w.heap.size + 1 + 1, 2, none⟩ (.int .u32 (b / 4294967296))).setCell ⟨w.heap.size + 1 + 1 + 1, 1, none⟩ (.int .u32 (a / 4294967296))).setCell ⟨w.heap.size + 1 + 1 + 1, 2, none⟩ (.int .u32 (b / 4294967296)) = W1 at H1 ⊢
      have HP : Hid ((0 ≤ (a / 4294967296) ∧ (a / 4294967296) < 4294967296) ∧ (0 ≤ (b / 4294967296) ∧ (b / 4294967296) < 4294967296)) := by unfold Hid; omega
      obtain ⟨o1, v1, f1, _, _, _⟩ := half_at HC.out true HP.out.1 HP.out.2
      obtain ⟨_, _, _, o2, v2, f2⟩ := half_at HD.out true HP.out.1 HP.out.2
      have O1 := Lib.hid o1
      have V1 := Lib.hid v1
      have F1 := Lib.hid f1
      have O2 := Lib.hid o2
      have V2 := Lib.hid v2
      have F2 := Lib.hid f2
      clear o1 v1 f1 o2 v2 f2
      have hl := load_cpu (cs := ops2 C (a / 4294967296) (b / 4294967296)) H1.out.2.2.2.1 (ops2_ok HC.out HP.out.1 HP.out.2).size
      go_upto_region 13 with (go_at_call 12; (refine (half_add HC.out true HP.out.1 HP.out.2 _ (HT.out _ H1.out.1)).mono ?_; rintro e w1 ⟨rfl, hb1⟩; have L1 := Lib.hid ((H1.out.step hb1).alloc (.cells (twoR (ops2 C (a / 4294967296) (b / 4294967296)) 8 true) 25)); have GX0 : Hid (w.heap.size + 4 ≤ w1.heap.size) := Nat.le_trans H1.out.2.2.2.2.2 hb1.size; have LN := Lib.hid (Blk.new w1 (twoR (ops2 C (a / 4294967296) (b / 4294967296)) 8 true) 25); have hst := store_new (w := w1) (Z := #[.int .u32 0, .int .u32 0, .int .u32 0, .int .u32 0, .int .u32 0, .int .u32 0, .int .u32 0, .int .u32 0, .int .u32 0, .int .u32 0, .int .u32 0, .int .u32 0, .int .u32 0, .int .u32 0, .int .u32 0, .int .u32 0, .int .u32 0, .bool false, .bool false, .bool false, .bool false, .int .u32 0]) (t := 25) rfl O1.out.size O1.out.one; clear hb1))
      clear hl hst H1
      have GXX : Hid (w.heap.size + 4 ≤ w1.heap.size) := GX0.out
      obtain ⟨g10, hg⟩ : ∃ g, w1.heap.size = g := ⟨_, rfl⟩
      rw [hg] at LN GXX ⊢
      clear hg
      generalize w1.alloc (.cells (twoR (ops2 C (a / 4294967296) (b / 4294967296)) 8 true) 25) = W2 at L1 LN ⊢
      have hl := load_cpu (cs := ops2 D (a / 4294967296) (b / 4294967296)) L1.out.2.2.2.2.1 (ops2_ok HD.out HP.out.1 HP.out.2).size
      go_upto_region 14 with (go_at_call 12; (refine (half_sub HD.out true HP.out.1 HP.out.2 _ (HT.out _ L1.out.1)).mono ?_; rintro e w3 ⟨rfl, hb1⟩; have M1 := Lib.hid ((L1.out.step hb1).alloc (.cells (twoR (ops2 D (a / 4294967296) (b / 4294967296)) 9 true) 25)); have MX := Lib.hid (Blk.old (LN.out.step hb1) (.cells (twoR (ops2 D (a / 4294967296) (b / 4294967296)) 9 true) 25)); have MN := Lib.hid (Blk.new w3 (twoR (ops2 D (a / 4294967296) (b / 4294967296)) 9 true) 25); have hst := store_new (w := w3) (Z := #[.int .u32 0, .int .u32 0, .int .u32 0, .int .u32 0, .int .u32 0, .int .u32 0, .int .u32 0, .int .u32 0, .int .u32 0, .int .u32 0, .int .u32 0, .int .u32 0, .int .u32 0, .int .u32 0, .int .u32 0, .int .u32 0, .int .u32 0, .bool false, .bool false, .bool false, .bool false, .int .u32 0]) (t := 25) rfl O2.out.size O2.out.one; have GX : Hid (w.heap.size + 4 ≤ g10) := GXX.out; have MG : Hid (w.heap.size + 4 ≤ w3.heap.size) := Nat.le_trans L1.out.2.2.2.2.2 hb1.size; clear hb1))
      clear hl hst L1 LN
      obtain ⟨g12, hg⟩ : ∃ g, w3.heap.size = g := ⟨_, rfl⟩
      rw [hg] at MN MG ⊢
      clear hg
      generalize w3.alloc (.cells (twoR (ops2 D (a / 4294967296) (b / 4294967296)) 9 true) 25) = W3 at M1 MX MN ⊢
      generalize hX : twoR (ops2 C (a / 4294967296) (b / 4294967296)) 8 true = X at O1 V1 F1 MX ⊢
      generalize hY : twoR (ops2 D (a / 4294967296) (b / 4294967296)) 9 true = Y at O2 V2 F2 MN ⊢
      clear hX hY
      have hl := load_cpu MX.out O1.out.size
      have hst := store_cpu M1.out.2.2.2.1 (ops2_ok HC.out HP.out.1 HP.out.2).size O1.out.size O1.out.one
      go_upto_region 17 with fail
      have N1 := Lib.hid (M1.out.rowC X)
      have NX := Lib.hid (MX.out.farRow (k := w.heap.size + 1 + 1) (by have := GX.out; omega) X)
      have NY := Lib.hid (MN.out.farRow (k := w.heap.size + 1 + 1) (by have := MG.out; omega) X)
      clear hl hst M1 MX MN
      generalize W3.setRow (w.heap.size + 1 + 1) X = W4 at N1 NX NY ⊢
      have hl := load_cpu NY.out O2.out.size
      have hst := store_cpu N1.out.2.2.2.2.1 (ops2_ok HD.out HP.out.1 HP.out.2).size O2.out.size O2.out.one
      go_upto_region 18 with fail
      have P1 := Lib.hid (N1.out.rowD Y)
      have PX := Lib.hid (NX.out.farRow (k := w.heap.size + 1 + 1 + 1) (by have := GX.out; omega) Y)
      have PY := Lib.hid (NY.out.farRow (k := w.heap.size + 1 + 1 + 1) (by have := MG.out; omega) Y)
      clear hl hst N1 NX NY
      generalize W4.setRow (w.heap.size + 1 + 1 + 1) Y = W5 at P1 PX PY ⊢
      have vx := (PX.out.cell 0).trans V1.out
      have vy := (PY.out.cell 0).trans V2.out
      have sc0 := P1.out.2.1.cell 1
      have dc0 := P1.out.2.2.1.cell 1
      simp only [List.getElem?_toArray, List.getElem?_cons_zero, List.getElem?_cons_succ] at sc0 dc0
      have sf := P1.out.2.1.frozen
      have df := P1.out.2.2.1.frozen
      have hgx : ¬ w.heap.size = g12 := by have := MG.out; omega
      have hgx2 : ¬ g12 = w.heap.size := by have := MG.out; omega
      have HR := Lib.hid ((P1.out.set1 (addS (a / 4294967296) (b / 4294967296) (true && flV C 19))).dif1 (subS (a / 4294967296) (b / 4294967296) (true && flV D 19)))
      go_wp2_with fail
      go_roundw
      case rel => exact .inr (.inr ⟨X, Y, rfl, O1.out, O2.out, by rw [F1.out, HCF.out]; rfl, by rw [F2.out, HDF.out]; rfl, by have := HR.out; rw [HCF.out, HDF.out] at this ⊢; simpa only [Bool.true_and] using this⟩)
      case measure => simp [intOf]
    · have HW := Lib.hid hW
      have HC := Lib.hid hC
      have HD := Lib.hid hD
      obtain ⟨ws, wc⟩ := wide_sum a b ha0 ha1 hb0 hb1
      obtain ⟨ds, dc⟩ := wide_dif a b ha0 ha1 hb0 hb1
      have q1 := addS_bd (a / 4294967296) (b / 4294967296) (addC (a % 4294967296) (b % 4294967296) false)
      have q2 := addS_bd (a % 4294967296) (b % 4294967296) false
      have q3 := subS_bd (a / 4294967296) (b / 4294967296) (subC (a % 4294967296) (b % 4294967296) false)
      have q4 := subS_bd (a % 4294967296) (b % 4294967296) false
      rw [wc] at hc
      rw [dc] at hd
      generalize addS (a / 4294967296) (b / 4294967296) (addC (a % 4294967296) (b % 4294967296) false) = s1 at HW ws q1
      generalize addS (a % 4294967296) (b % 4294967296) false = s0 at HW ws q2
      generalize subS (a / 4294967296) (b / 4294967296) (subC (a % 4294967296) (b % 4294967296) false) = d1 at HW ds q3
      generalize subS (a % 4294967296) (b % 4294967296) false = d0 at HW ds q4
      obtain ⟨q1a, q1b⟩ := q1
      obtain ⟨q2a, q2b⟩ := q2
      obtain ⟨q3a, q3b⟩ := q3
      obtain ⟨q4a, q4b⟩ := q4
      clear hrel hW HW0 hC hD wc dc
      have HS := Lib.hid ws
      have HDD := Lib.hid ds
      have HCF := Lib.hid hc
      have HDF := Lib.hid hd
      clear ws ds hc hd
      go_upto_region 20 with fail
      have qs1 : s1 * 4294967296 % 18446744073709551616 = s1 * 4294967296 := by omega
      have qd1 : d1 * 4294967296 % 18446744073709551616 = d1 * 4294967296 := by omega
      go_wp2_with (go_at_call 15; refine (shown_any _ (HT.out _ HW.out.1)).mono ?_; rintro e w2 ⟨rfl, hb2⟩; obtain ⟨g1, g2, g3, g4, g5, g6⟩ := HW.out.step hb2; have sc0 := g2.cell 0; have sc1 := g2.cell 1; have dc0 := g3.cell 0; have dc1 := g3.cell 1; have cc := (g4.cell 19).trans HC.out.cV; have dc := (g5.cell 19).trans HD.out.cV; have HG := Lib.hid g1; rw [HCF.out] at cc; rw [HDF.out] at dc; clear g1 g2 g3 g4 g5 g6 hb2; have hs := HS.out; have hd := HDD.out; simp only [List.getElem?_toArray, List.getElem?_cons_zero, List.getElem?_cons_succ] at sc0 sc1 dc0 dc1)
      go_ret
      exact ⟨rfl, HG.out⟩
def cpuWideAts : List Gen.AT := [.one (.int .u64), .one (.int .u64)]
theorem cpuWide_args (W : World) (vs : List Value) (h : Gen.ArgsGood W cpuWideAts vs) (hT : Tab W) :
    Calls Tryd.prog 10 vs.toArray W fun e W' => e = .returned (.bool true) ∧ Below W.heap.size W W' := by
  match vs, h with
  | [v0, v1], h =>
    obtain ⟨ha, hb, _⟩ := h
    obtain ⟨a, rfl, wa⟩ := Gen.Good.int_inv ha
    obtain ⟨b, rfl, wb⟩ := Gen.Good.int_inv hb
    have la := bounds_u64 wa
    have lb := bounds_u64 wb
    exact wide_any a b (by omega) (by omega) (by omega) (by omega) W hT
end Go.Proofs.YtnghhkageiceaaaDoor
