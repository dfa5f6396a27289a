/- New, there, Read. -/
import Derived.Test.YtmamocdkmmkkjaaDiskA
namespace Go.Proofs.Ytmamocdkmmkkjaa
open Go Go.RowKit Go.Lib
set_option linter.unusedVariables false
def noughts (k : Nat) : ByteArray := ⟨Array.replicate k 0⟩
theorem noughts_size (k : Nat) : (noughts k).size = k := by unfold noughts; exact Array.size_replicate
theorem noughts_cells (k : Nat) : strCells (noughts k) = List.replicate k (.int .u8 0) := by
  unfold strCells noughts
  simp
def nought : ByteArray := noughts 1024
theorem nought_size : nought.size = 1024 := noughts_size 1024
theorem nought_cells : strCells nought = List.replicate 1024 (.int .u8 0) := noughts_cells 1024
theorem info_sector : (Try.prog.info? 83).map (fun i => (i.zero, i.size, i.bytes)) = some (some (.agg (Array.replicate 1024 (.int .u8 0))), 1024, 1024) := by kernel_rfl
theorem made_range (S n i : Nat) (hi : i < n) (w : World) (g : Nat) (t : TypeId) (h : w.heap[g]? = some (.cells (madeCells (Value.agg (Array.replicate S (.int .u8 0))).cells (n * S)) t (0, 0))) : w.rangeAt g (i * S) (strCells (noughts S)) := fun j v hj => by
  rw [noughts_cells] at hj
  have hjl : j < S := by have := (List.getElem?_eq_some_iff.1 hj).1; simpa using this
  rw [List.getElem?_replicate, if_pos hjl] at hj
  rw [cell_of_row w g _ _ t (0, 0) h]
  have h2 : i * S + j < n * S := by have : (i + 1) * S ≤ n * S := Nat.mul_le_mul_right _ hi; rw [Nat.add_mul] at this; omega
  rw [← hj]
  simp only [madeCells, Value.cells, Array.size_replicate, Array.getElem?_map, Array.getElem?_range, h2, if_true, Option.map_some]
  have h3 : (i * S + j) % S = j := by rw [Nat.add_comm, Nat.add_mul_mod_self_right]; exact Nat.mod_eq_of_lt hjl
  rw [h3]
  congr 1
  rw [getElem!_pos _ _ (by simpa using hjl)]
  simp
theorem made_there (S n : Nat) (w : World) (g : Nat) (t : TypeId) (C : Array Value) (h : w.heap[g]? = some (.cells C t (0, 0))) (hC : C.size = n * S) (i : Nat) (hi : i < n) : w.there g (i * S) S := fun j hj => by
  have h2 : i * S + j < n * S := by have : (i + 1) * S ≤ n * S := Nat.mul_le_mul_right _ hi; rw [Nat.add_mul] at this; omega
  refine ⟨?_, ?_⟩
  · rw [cell_of_row w g _ _ t (0, 0) h, Array.getElem?_eq_getElem (by omega)]; rfl
  · simp [World.frozen?, h]
theorem made_block {w1 : World} {base : Nat} {e : TypeId} {size g n : Nat} {C : Array Value} (h : w1.ownsRow base e size (.slice (some ⟨g, 0, none⟩) n n) n C.toList) (hC : C.size = n * size) : w1.heap[g]? = some (.cells C e (0, 0)) := by
  rcases h.2 with hv | ⟨g', cap, cur, hv, h1, h2, h3, h4, h5, h6⟩
  · cases hv.1
  · simp only [Value.slice.injEq, Option.some.injEq, Addr.mk.injEq, and_true, true_and] at hv
    obtain ⟨rfl, rfl⟩ := hv
    rw [h2]
    congr 2
    have : cur.toList = C.toList := by rw [← h6, List.take_of_length_le (by simp; omega)]
    exact Array.toList_inj.1 this
theorem new_no (n : Int) (w : World) (hn : ¬ (8 ≤ n ∧ n ≤ 1024)) :
    Calls Try.prog 8 #[.int .i64 n] w fun e w' => e = .returned (.tuple #[.pointer none, .int .i64 30]) ∧ w = w' := by
  go_enter Try.func8, Try.ntmps8
  go_wp2_with fail
  all_goals
    go_ret2
    exact ⟨rfl, rfl⟩
set_option maxRecDepth 20000 in
theorem new_yes (n : Int) (w : World) (h8 : 8 ≤ n) (h9 : n ≤ 1024) :
    Calls Try.prog 8 #[.int .i64 n] w fun e w' => ∃ d s, e = .returned (.tuple #[.pointer (some ⟨d, 0, none⟩), .int .i64 0]) ∧ DiskAt w' w.heap.size d s (.slice none 0 0) n.toNat (fun _ => nought) [] ∧ Below w.heap.size w w' := by
  obtain ⟨i0, hi, hz0, hz1, hz2⟩ := info_parts info_sector
  go_enter Try.func8, Try.ntmps8
  go_wp2_with (first | (at_make; refine wpList_make_full _ rfl _ _ 69 rfl w.heap.size 83 i0 _ 1024 Try.underlying69 hi hz0 hz1 .i64 .i64 n n n.toNat rfl rfl ?m1 ?m2 ?m3 ?m4 (Nat.le_refl _) ?_))
  case m1 => omega
  case m2 => omega
  case m3 => rw [hz2]; omega
  case m4 => unfold maxLen; omega
  intro w1 hown hgrow
  have hblk := made_block (C := madeCells (Value.agg (Array.replicate 1024 (.int .u8 0))).cells (n.toNat * 1024)) hown (size_madeCells _ _)
  have hlt1 : w.heap.size < w1.heap.size := (Array.getElem?_eq_some_iff.1 hblk).1
  have hb1 : Below w.heap.size w w1 := (Below.refl w.heap.size w).grown hgrow (Nat.le_refl _) (fun _ h => by cases h)
  clear hown hgrow
  go_wp2_with fail
  go_ret2
  refine ⟨w1.heap.size, w.heap.size, rfl, ?_, hb1.alloc hb1.size _⟩
  exact {
    c0 := ⟨n.toNat, by rw [World.cell?, heap_alloc_new]; rfl⟩
    c1 := by rw [World.cell?, heap_alloc_new]; rfl
    f1 := by unfold World.frozen?; rw [heap_alloc_new]; rfl
    secs := fun i hi => World.rangeAt_alloc (made_range 1024 _ i hi w1 _ _ hblk) _
    there := fun i hi => World.there_alloc (made_there 1024 _ w1 _ _ _ hblk (size_madeCells _ _) i hi) _
    slen := fun i hi => nought_size
    wlen := fun p hp => by cases hp
    win := fun p hp => by cases hp
    writes := ⟨rfl, .inl ⟨rfl, rfl⟩⟩
    few := Nat.zero_le _
    le := by omega
    ge := by omega
    ds := by omega
    vd := by simp [Value.ownBlock]
    vs := by simp [Value.ownBlock]
    bd := hb1.size
    bs := Nat.le_refl _ }
section
variable {w : World} {base d s : Nat} {v : Value} {N : Nat} {sec : Nat → ByteArray} {ws : List (Nat × ByteArray)}
theorem there_any (D : DiskAt w base d s v N sec ws) (n : Int) (h0 : -9223372036854775808 ≤ n ∧ n ≤ 9223372036854775807) :
    Calls Try.prog 30 #[.pointer (some ⟨d, 0, none⟩), .int .i64 n] w fun e w' => e = .returned (.int .i64 (if 0 ≤ n ∧ n < N then 0 else 31)) ∧ w = w' := by
  obtain ⟨capS, c0⟩ := D.c0
  have ge := D.ge
  go_enter Try.func30, Try.ntmps30
  go_wp2_with fail
  all_goals
    go_ret
    exact ⟨rfl, rfl⟩
theorem sector_zero : ∃ Z : Value, Z.cells.size = 1024 ∧ ∀ w, (zeroValue 83).run Try.prog w = .ok Z w :=
  ⟨.agg (Array.replicate 1024 (.int .u8 0)), Array.size_replicate, (zero_of_info (P := Try.prog) (t := 83) (v := .agg (Array.replicate 1024 (.int .u8 0))) (n := 1024) (by kernel_rfl)).1⟩
theorem sector_size : (Try.prog.info? 83).map (·.size) = some 1024 := by kernel_rfl
/-- A sector, read, stored, made whole: by names of their own, so that the walk does not open them cell by cell. -/
def loadBig (ty : TypeId) (v : Value) : Sem Value := Instr.loadAt ty v
def storeBig (ty : TypeId) (v x : Value) : Sem Unit := Instr.storeAt ty v x
def allocBig (ty : TypeId) : Sem Value := Instr.alloc ty true (.tuple #[])
theorem exec_load_sector (ρ : Operand → Value) (dst : Option Tmp) (x : Operand) (ty' : TypeId) (pos : String) (after : Array Edge) (guard : Option (Nat × Bool)) :
    execOp ρ ⟨dst, .load 83 x, ty', pos, after, guard⟩ = (do pure (.value (← loadBig 83 (ρ x)))) := rfl
theorem exec_store_sector (ρ : Operand → Value) (dst : Option Tmp) (x y : Operand) (ty' : TypeId) (pos : String) (after : Array Edge) (guard : Option (Nat × Bool)) :
    execOp ρ ⟨dst, .store 83 x y, ty', pos, after, guard⟩ = (do storeBig 83 (ρ x) (ρ y); pure .skip) := rfl
theorem exec_alloc_sector (ρ : Operand → Value) (dst : Option Tmp) (ty' : TypeId) (pos : String) (after : Array Edge) (guard : Option (Nat × Bool)) :
    execOp ρ ⟨dst, .alloc 83, ty', pos, after, guard⟩ = (do pure (.value (← allocBig 83))) := rfl
theorem load_sector (w : World) (b o : Nat) (cs : List Value) (hl : cs.length = 1024) (h : w.rangeAt b o cs) : (loadBig 83 (.pointer (some ⟨b, o, none⟩))).run Try.prog w = .ok (.agg cs.toArray) w :=
  run_loadAt_mid (P := Try.prog) w b o 83 cs _ h Try.underlying83 rfl (by rw [hl]; exact sector_size)
theorem store_sector (w : World) (b o : Nat) (cs : List Value) (hl : cs.length = 1024) (h1 : ∀ u ∈ cs, u.oneCell' = true) (h : w.there b o 1024) : (storeBig 83 (.pointer (some ⟨b, o, none⟩)) (.agg cs.toArray)).run Try.prog w = .ok () (w.setCells b o cs) :=
  run_storeAt_mid (P := Try.prog) w b o 83 cs.toArray (by rw [List.size_toArray, hl]; exact h) (by rw [List.size_toArray, hl]; exact sector_size) (all_oneCell_toArray h1)
theorem alloc_sector : ∃ Z : Array Value, Z.size = 1024 ∧ ∀ w, (allocBig 83).run Try.prog w = .ok (.pointer (some ⟨w.heap.size, 0, none⟩)) (w.alloc (.cells Z 83)) := by
  obtain ⟨Z, h1, h2⟩ := sector_zero
  refine ⟨Z.cells, h1, fun w => ?_⟩
  simp [allocBig, Instr.alloc, h2, newVar, newRow]
theorem store_new_sector (w : World) (Z : Array Value) (hZ : Z.size = 1024) (cs : List Value) (hl : cs.length = 1024) (h1 : ∀ u ∈ cs, u.oneCell' = true) : (storeBig 83 (.pointer (some ⟨w.heap.size, 0, none⟩)) (.agg cs.toArray)).run Try.prog (w.alloc (.cells Z 83)) = .ok () (w.alloc (.cells cs.toArray 83)) :=
  run_storeAt_new (P := Try.prog) w 83 Z cs.toArray (by rw [List.size_toArray, hl]; exact sector_size) (by rw [hZ, List.size_toArray, hl]) (all_oneCell_toArray h1)
attribute [local go_sem ↓] exec_load_sector exec_store_sector exec_alloc_sector
theorem read_yes (D : DiskAt w base d s v N sec ws) (n : Nat) (hn : n < N) :
    Calls Try.prog 16 #[.pointer (some ⟨d, 0, none⟩), .int .i64 (n : Int)] w fun e w' => e = .returned (.tuple #[.slice (some ⟨w.heap.size, 0, none⟩) 1024 1024, .int .i64 0]) ∧ w' = w.alloc (.cells (strCells (sec n)).toArray 83 (0, 0)) := by
  obtain ⟨capS, c0⟩ := D.c0
  have ge := D.ge
  obtain ⟨Z, hZ, hz⟩ := alloc_sector
  have hl : (strCells (sec n)).length = 1024 := by rw [strCells_length, D.slen n hn]
  have hld := load_sector w s (n * 1024) (strCells (sec n)) hl (D.secs n hn)
  have hst := store_new_sector w Z hZ (strCells (sec n)) hl (strCells_oneCell _)
  generalize strCells (sec n) = cs at *
  have h2 : (n : Int) < (N : Int) := by omega
  have h3 : (0 : Int) ≤ (n : Int) := by omega
  go_enter Try.func16, Try.ntmps16
  go_wp2_with (first | (go_at_call 30; refine (there_any D n (by omega)).mono ?_; rintro e w' ⟨rfl, rfl⟩))
  go_ret2
  exact ⟨rfl, rfl⟩
theorem read_no (D : DiskAt w base d s v N sec ws) (n : Int) (h0 : -9223372036854775808 ≤ n ∧ n ≤ 9223372036854775807) (hn : ¬ (0 ≤ n ∧ n < N)) :
    Calls Try.prog 16 #[.pointer (some ⟨d, 0, none⟩), .int .i64 n] w fun e w' => e = .returned (.tuple #[.slice none 0 0, .int .i64 31]) ∧ w = w' := by
  go_enter Try.func16, Try.ntmps16
  go_wp2_with (first | (go_at_call 30; refine (there_any D n h0).mono ?_; rintro e w' ⟨rfl, rfl⟩))
  go_ret2
  exact ⟨rfl, rfl⟩
end
end Go.Proofs.Ytmamocdkmmkkjaa
