/- Bytes in memory. (Taken out of DiskE, DiskF: no function of a statement's package.) -/
import Derived.Test.YtmamocdkmmkkjaaDiskD
import Derived.Laws.OwnMore
import Derived.Laws.BytesArg
namespace Go.Proofs.Ytmamocdkmmkkjaa
open Go Go.RowKit Go.Lib
set_option linter.unusedVariables false
def ofL (l : List UInt8) : ByteArray := ⟨l.toArray⟩
theorem strCells_ofL (l : List UInt8) : strCells (ofL l) = l.map fun b => Value.int .u8 b.toNat := by simp [strCells, ofL]
theorem ofL_size (l : List UInt8) : (ofL l).size = l.length := by show l.toArray.size = _; simp
/-- A block that is a text's bytes. -/
def BytesAt (w : World) (g : Nat) (l : List UInt8) : Prop := w.heap[g]? = some (.cells (strCells (ofL l)).toArray 5 (0, 0))
theorem BytesAt.range {w : World} {g : Nat} {l : List UInt8} (h : BytesAt w g l) : w.rangeAt g 0 (strCells (ofL l)) := fun j v hj => by
  rw [Nat.zero_add, cell_of_row w g j _ _ _ h]; simpa using hj
theorem BytesAt.lt {w : World} {g : Nat} {l : List UInt8} (h : BytesAt w g l) : g < w.heap.size := (Array.getElem?_eq_some_iff.1 h).1
theorem BytesAt.cell {w : World} {g : Nat} {l : List UInt8} (h : BytesAt w g l) {j : Nat} (hj : j < l.length) : w.cell? ⟨g, j, none⟩ = some (.int .u8 (l[j]'hj).toNat) := by
  rw [cell_of_row w g j _ _ _ h, strCells_ofL]; simp [hj]
theorem BytesAt.frozen {w : World} {g : Nat} {l : List UInt8} (h : BytesAt w g l) (j : Nat) : w.frozen? ⟨g, j, none⟩ = false := by
  unfold BytesAt at h; simp [World.frozen?, h]
theorem BytesAt.set {w : World} {g : Nat} {l : List UInt8} (h : BytesAt w g l) (j : Nat) (x : UInt8) : BytesAt (w.setCell ⟨g, j, none⟩ (.int .u8 x.toNat)) g (l.set j x) := by
  unfold BytesAt at h ⊢
  simp only [World.setCell, Array.getElem?_modify, if_true, h, Option.map_some]
  congr 2
  rw [strCells_ofL, strCells_ofL]
  simp [List.map_set]
theorem BytesAt.touch {w w' : World} {r : List Nat} {g : Nat} {l : List UInt8} (h : BytesAt w g l) (T : Touch w w' r) (hg : g ∉ r) : BytesAt w' g l := by
  unfold BytesAt at h ⊢; rw [T.block g (Array.getElem?_eq_some_iff.1 h).1 hg]; exact h
theorem BytesAt.below {w w' : World} {g : Nat} {l : List UInt8} (h : BytesAt w g l) {B : Nat} (hb : Below B w w') (hg : g < B) : BytesAt w' g l := by
  unfold BytesAt at h ⊢; rw [hb.block g hg]; exact h
theorem made_bytes (w : World) (g n : Nat) (h : w.heap[g]? = some (.cells (madeCells #[Value.int .u8 0] n) 5 (0, 0))) : BytesAt w g (List.replicate n 0) := by
  unfold BytesAt
  rw [h, strCells_ofL]
  congr 2
  apply Array.toList_inj.1
  rw [toList_madeCells_one]
  simp
/-- How many bytes a step has. -/
def stepLong (long : Int) : Nat := if 0 ≤ long ∧ long < 2000 then long.toNat else 1024
def stepBytes (fill mark : UInt8) (long : Int) : List UInt8 := (List.replicate (stepLong long) fill).set 0 mark
theorem info_u8 : (Try.prog.info? 5).map (fun i => (i.zero, i.size, i.bytes)) = some (some (.int .u8 0), 1, 1) := by kernel_rfl
theorem fill_step (n j : Nat) (f : UInt8) (h : j < n) : (List.replicate j f ++ List.replicate (n - j) (0 : UInt8)).set j f = List.replicate (j + 1) f ++ List.replicate (n - (j + 1)) 0 := by
  rw [List.set_append_right _ _ (by simp), List.length_replicate, Nat.sub_self, show n - j = (n - (j + 1)) + 1 from by omega, List.replicate_succ, List.set_cons_zero, List.replicate_succ', List.append_assoc]
  rfl
theorem strOfNums_self (s : ByteArray) : strOfNums (s.data.toList.map fun b => (b.toNat : Int)) = s := by
  unfold strOfNums
  cases s with
  | mk d =>
    congr 1
    apply Array.toList_inj.1
    simp only [List.map_map]
    rw [show ((fun x : Int => UInt8.ofNat x.toNat) ∘ fun b : UInt8 => (b.toNat : Int)) = id from by funext b; simp]
    simp
/-- Bytes that lie in a range, as a string. -/
theorem conv_range (w : World) (b o n cap : Nat) (s : ByteArray) (hs : s.size = n) (h : w.rangeAt b o (strCells s)) :
    (convert 44 9 (.slice (some ⟨b, o, none⟩) n cap)).run Try.prog w = .ok (.string s) w := by
  have := run_convert_bytes_arg (P := Try.prog) w 44 5 Try.underlying44 Try.underlying5 b o n cap (s.data.toList.map fun b => (b.toNat : Int)) (by simpa using hs) (fun i hi => by
    refine h i _ ?_
    have hi2 : i < s.data.size := by have : s.data.size = s.size := rfl; omega
    simp [strCells, List.getD, Array.getElem?_eq_getElem hi2]) 9 Try.underlying9
  rw [strOfNums_self] at this
  exact this
theorem conv_bytes {w : World} {g n cap : Nat} {l : List UInt8} (hn : l.length = n) (h : BytesAt w g l) :
    (convert 44 9 (.slice (some ⟨g, 0, none⟩) n cap)).run Try.prog w = .ok (.string (ofL l)) w := conv_range w g 0 n cap (ofL l) (by rw [ofL_size, hn]) h.range
/-- A sector that was read lies in a block of its own. -/
theorem read_range (w : World) (s : ByteArray) (t : TypeId) : (w.alloc (.cells (strCells s).toArray t (0, 0))).rangeAt w.heap.size 0 (strCells s) := fun j v hj => by
  rw [Nat.zero_add, cell_of_row _ w.heap.size j _ _ _ (heap_alloc_new w _)]; simpa using hj
section
variable {w : World} {base d s : Nat} {v : Value} {N : Nat} {sec : Nat → ByteArray} {ws : List (Nat × ByteArray)}
theorem write_bytes (D : DiskAt w base d s v N sec ws) (n : Nat) (hn : n < N) (few : ws.length < 4096) (g : Nat) (l : List UInt8) (hl : l.length = 1024) (hb : BytesAt w g l) (hg : g ∉ drow d s v) :
    Calls Try.prog 57 #[.pointer (some ⟨d, 0, none⟩), .int .i64 (n : Int), .slice (some ⟨g, 0, none⟩) 1024 1024] w fun e w' => e = .returned (.int .i64 0) ∧ ∃ v', DiskAt w' base d s v' N (upd sec n (ofL l)) (ws ++ [(n, sec n)]) ∧ Touch w w' (drow d s v) ∧ (∀ g, v'.ownBlock = some g → v.ownBlock = some g ∨ w.heap.size ≤ g) :=
  write_yes D n hn few g 0 1024 (ofL l) (by rw [ofL_size, hl]) (Nat.le_refl _) hb.range hg
end
end Go.Proofs.Ytmamocdkmmkkjaa
