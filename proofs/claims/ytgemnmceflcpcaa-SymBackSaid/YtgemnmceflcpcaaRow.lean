/- A block that is known whole, by name: what a variable of a struct's type reads as. No program in sight. -/
import Derived.WalkKit
import Derived.Deep.MidRow
import Derived.Deep.Draws
namespace Go.Proofs.Ytgemnmceflcpcaa
open Go Go.RowKit

/-- The cells of block g. -/
def rowOf (w : World) (g : Nat) : Array Value := match w.heap[g]? with | some (.cells cs _ _) => cs | _ => #[]
theorem rowOf_block {w w' : World} {g : Nat} (h : w'.heap[g]? = w.heap[g]?) : rowOf w' g = rowOf w g := by unfold rowOf; rw [h]
theorem rowOf_below {B : Nat} {w w' : World} (hb : Below B w w') {g : Nat} (hg : g < B) : rowOf w' g = rowOf w g := rowOf_block (hb.block g hg)
theorem rowOf_new (w : World) (cs : Array Value) (t : TypeId) (fr : Nat × Nat) : rowOf (w.alloc (.cells cs t fr)) w.heap.size = cs := by unfold rowOf; rw [heap_alloc_new]
theorem rowOf_old (w : World) (o : Obj) {g : Nat} (hg : g < w.heap.size) : rowOf (w.alloc o) g = rowOf w g := rowOf_block (Below.heap_alloc w o g hg)
theorem rowOf_drew (w : World) (g : Nat) : rowOf w.drew g = rowOf w g := rfl
theorem rowOf_drewN (w : World) (n g : Nat) : rowOf (w.drewN n) g = rowOf w g := rfl
theorem rowOf_far (w : World) {p : Addr} (v : Value) {g : Nat} (hg : g ≠ p.block) : rowOf (w.setCell p v) g = rowOf w g := rowOf_block (Below.heap_setCell w p v g hg)
theorem rowOf_set (w : World) (g i : Nat) (v : Value) : rowOf (w.setCell ⟨g, i, none⟩ v) g = (rowOf w g).setIfInBounds i v := by
  unfold rowOf
  cases h : w.heap[g]? with
  | none => simp [World.setCell, Array.getElem?_modify, h]
  | some o => cases o <;> simp [World.setCell, Array.getElem?_modify, h]
theorem cell_rowOf (w : World) (g i : Nat) : w.cell? ⟨g, i, none⟩ = (rowOf w g)[i]? := by
  unfold rowOf World.cell?
  cases h : w.heap[g]? with
  | none => simp
  | some o => cases o <;> simp
theorem range_rowOf (w : World) (g : Nat) : w.rangeAt g 0 (rowOf w g).toList := fun j v hj => by
  rw [Nat.zero_add, cell_rowOf]; simpa using hj
theorem load_rowOf {P : Program} (w : World) (g : Nat) (ty : TypeId) (d : TypeDesc) (n : Nat) (hu : P.underlying ty = some d) (hd : d.isRow = true) (hi : (P.info? ty).map (·.size) = some n) (h : (rowOf w g).size = n) :
    (Instr.loadAt ty (.pointer (some ⟨g, 0, none⟩))).run P w = .ok (.agg (rowOf w g)) w := by
  have := run_loadAt_mid (P := P) w g 0 ty (rowOf w g).toList d (range_rowOf w g) hu hd (by rw [hi, ← h]; simp)
  simpa using this
/-- A struct's variable, read whole: by a name of its own, so that the walk does not open it cell by cell. -/
def loadWhole (ty : TypeId) (v : Value) : Sem Value := Instr.loadAt ty v
theorem run_loadWhole {P : Program} (w : World) (g : Nat) (ty : TypeId) (d : TypeDesc) (n : Nat) (hu : P.underlying ty = some d) (hd : d.isRow = true) (hi : (P.info? ty).map (·.size) = some n) (h : (rowOf w g).size = n) :
    (loadWhole ty (.pointer (some ⟨g, 0, none⟩))).run P w = .ok (.agg (rowOf w g)) w := load_rowOf w g ty d n hu hd hi h
end Go.Proofs.Ytgemnmceflcpcaa
