/- A block that is known whole: read, written cell by cell, written whole. No program in sight. -/
import Derived.Test.YtgemnmceflcpcaaRow
import Derived.WalkSmall
import Derived.OpenShut
import Derived.Handy
namespace Go.Proofs.Ytgemnmceflcpcaa
open Go Go.RowKit

/-- Block g holds just these cells, none of them frozen. -/
def Blk (w : World) (g : Nat) (cs : Array Value) (t : TypeId) : Prop := w.heap[g]? = some (.cells cs t (0, 0))
theorem Blk.lt {w : World} {g : Nat} {cs : Array Value} {t : TypeId} (h : Blk w g cs t) : g < w.heap.size := (Array.getElem?_eq_some_iff.1 h).1
theorem Blk.cell {w : World} {g : Nat} {cs : Array Value} {t : TypeId} (h : Blk w g cs t) (j : Nat) : w.cell? ⟨g, j, none⟩ = cs[j]? := cell_of_row w g j cs t _ h
theorem Blk.frozen {w : World} {g : Nat} {cs : Array Value} {t : TypeId} (h : Blk w g cs t) (j : Nat) : w.frozen? ⟨g, j, none⟩ = false := frozen_of_row w g j cs t h
theorem Blk.row {w : World} {g : Nat} {cs : Array Value} {t : TypeId} (h : Blk w g cs t) : rowOf w g = cs := by unfold rowOf; rw [h]
theorem Blk.below {B : Nat} {w w' : World} {g : Nat} {cs : Array Value} {t : TypeId} (h : Blk w g cs t) (b : Below B w w') (hg : g < B) : Blk w' g cs t := (b.block g hg).trans h
theorem Blk.step {w w' : World} {g : Nat} {cs : Array Value} {t : TypeId} (h : Blk w g cs t) (b : Below w.heap.size w w') : Blk w' g cs t := h.below b h.lt
theorem Blk.new (w : World) (cs : Array Value) (t : TypeId) : Blk (w.alloc (.cells cs t)) w.heap.size cs t := heap_alloc_new w _
theorem Blk.old {w : World} {g : Nat} {cs : Array Value} {t : TypeId} (h : Blk w g cs t) (o : Obj) : Blk (w.alloc o) g cs t := (Below.heap_alloc w o g h.lt).trans h
theorem Blk.drew {w : World} {g : Nat} {cs : Array Value} {t : TypeId} (h : Blk w g cs t) : Blk w.drew g cs t := h
theorem Blk.drewN {w : World} {g : Nat} {cs : Array Value} {t : TypeId} (h : Blk w g cs t) (n : Nat) : Blk (w.drewN n) g cs t := h
theorem Blk.far {w : World} {g : Nat} {cs : Array Value} {t : TypeId} (h : Blk w g cs t) {p : Addr} (hp : g ≠ p.block) (v : Value) : Blk (w.setCell p v) g cs t := (heap_setCell_other w p g v hp).trans h
theorem Blk.set {w : World} {g : Nat} {cs : Array Value} {t : TypeId} (h : Blk w g cs t) (i : Nat) (v : Value) : Blk (w.setCell ⟨g, i, none⟩ v) g (cs.setIfInBounds i v) t := heap_setCell_same w g i cs t v h
theorem Blk.setRow {w : World} {g : Nat} {cs : Array Value} {t : TypeId} (h : Blk w g cs t) (X : Array Value) : Blk (w.setRow g X) g X t := setRow_heap w g cs X t _ h
theorem Blk.farRow {w : World} {g k : Nat} {cs : Array Value} {t : TypeId} (h : Blk w g cs t) (hk : g ≠ k) (X : Array Value) : Blk (w.setRow k X) g cs t := (setRow_other w k g X hk).trans h
theorem belRow {B : Nat} {a w : World} (h : Below B a w) {g : Nat} (hg : B ≤ g) (X : Array Value) : Below B a (w.setRow g X) :=
  h.trans ⟨rfl, rfl, rfl, by simp, fun k hk => setRow_other w g k X (by omega)⟩
/-- Every value of one cell. -/
def OneRow (X : Array Value) : Prop := ∀ v ∈ X, v.oneCell' = true
theorem OneRow.set {X : Array Value} (h : OneRow X) (i : Nat) {v : Value} (hv : v.oneCell' = true) : OneRow (X.setIfInBounds i v) := fun x hx => by
  rcases Array.mem_or_eq_of_mem_setIfInBounds hx with hx | hx
  · exact h x hx
  · rw [hx]; exact hv
theorem run_loadRow {P : Program} {w : World} {g : Nat} {t : TypeId} {cs : Array Value} (h : Blk w g cs t) (ty : TypeId) (d : TypeDesc) (hu : P.underlying ty = some d) (hd : d.isRow = true) (hi : (P.info? ty).map (·.size) = some cs.size) :
    (Instr.loadAt ty (.pointer (some ⟨g, 0, none⟩))).run P w = .ok (.agg cs) w := by
  have := load_rowOf (P := P) w g ty d cs.size hu hd hi (by rw [h.row])
  rwa [h.row] at this
theorem run_loadVarRow {P : Program} {w : World} {g : Nat} {t : TypeId} {cs : Array Value} (h : Blk w g cs t) (ty : TypeId) (d : TypeDesc) (hu : P.underlying ty = some d) (hd : d.isRow = true) (hi : (P.info? ty).map (·.size) = some cs.size) :
    (loadVar ty ⟨g, 0, none⟩).run P w = .ok (.agg cs) w := by
  have := run_loadRow h ty d hu hd hi
  simpa only [Instr.loadAt, Instr.sureAddr, Sem.run_bind, Sem.run_pure, Result.andThen_ok] using this
theorem run_storeRow {P : Program} {w : World} {g : Nat} {t : TypeId} {old cs : Array Value} (h : Blk w g old t) (ty : TypeId) (hi : (P.info? ty).map (·.size) = some cs.size) (ho : old.size = cs.size) (h1 : OneRow cs) :
    (Instr.storeAt ty (.pointer (some ⟨g, 0, none⟩)) (.agg cs)).run P w = .ok () (w.setRow g cs) := by
  simp only [Instr.storeAt, Instr.sureAddr, Sem.run_bind, Sem.run_pure, Result.andThen_ok]
  exact run_storeVar_row w g t ty old cs h hi ho (by rw [Array.all_eq_true_iff_forall_mem]; exact h1)
theorem three {w w1 : World} {A B C : Array Value} {ta tb tc : TypeId} (hb : Below (((w.alloc (.cells A ta)).alloc (.cells B tb)).alloc (.cells C tc)).heap.size (((w.alloc (.cells A ta)).alloc (.cells B tb)).alloc (.cells C tc)) w1) :
    Blk w1 w.heap.size A ta ∧ Blk w1 (w.heap.size + 1) B tb ∧ Blk w1 (w.heap.size + 1 + 1) C tc ∧ w.heap.size + 3 ≤ w1.heap.size ∧ Below w.heap.size w w1 := by
  have h1 := Blk.new w A ta
  have h2 := Blk.new (w.alloc (.cells A ta)) B tb
  have h3 := Blk.new ((w.alloc (.cells A ta)).alloc (.cells B tb)) C tc
  simp only [World.size_alloc] at h2 h3
  have hs := hb.size
  simp only [World.size_alloc] at hs
  refine ⟨((h1.old _).old _).step hb, (h2.old _).step hb, h3.step hb, hs, ?_⟩
  exact Below.trans ((((Below.refl _ _).alloc (Nat.le_refl _) _).alloc (by simp) _).alloc (by simp; omega) _) (hb.mono (by simp; omega))
theorem alloc_setRow (w : World) (Z cs : Array Value) (t : TypeId) : (w.alloc (.cells Z t)).setRow w.heap.size cs = w.alloc (.cells cs t) := by
  unfold World.setRow World.alloc
  congr 1
  apply Array.ext
  · simp
  · intro k h1 h2
    simp only [Array.getElem_modify, Array.getElem_push]
    by_cases hk : k < w.heap.size
    · rw [if_neg (by omega)]; simp [hk]
    · have : k = w.heap.size := by simp at h2; omega
      subst this
      simp
/-- By names of their own, so that the walk does not open them cell by cell. -/
def storeWhole (ty : TypeId) (p v : Value) : Sem Unit := Instr.storeAt ty p v
end Go.Proofs.Ytgemnmceflcpcaa
