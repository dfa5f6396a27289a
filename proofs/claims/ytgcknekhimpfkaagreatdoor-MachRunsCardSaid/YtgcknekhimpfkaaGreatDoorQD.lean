/- A disk as it lies in memory: its sectors in one block, its writes in a row of the call's own. -/
import Derived.Test.YtgcknekhimpfkaaGreatDoorProg
import Derived.WalkKit
import Derived.ProofKit
import Derived.OwnWalk
import Derived.Deep.MidRow
import Derived.Deep.AppendLies
import Derived.Deep.WholeRow
import Derived.Lib.AppendStr
import Derived.Laws.Cover3
import Derived.Lib.Hide
import Derived.Below
import Derived.Great.BuildSlice
import Derived.Great.FillDense
import Derived.Deep.RegionLaw
import Derived.Deep.DrawnRows
import Derived.BigRegion
namespace Go.Proofs.YtgcknekhimpfkaaGreatDoor
open Go Go.RowKit Go.Lib
set_option linter.unusedVariables false
/-- Of what was there, the blocks of 'row' alone may have changed. -/
structure Touch (w w' : World) (row : List Nat) : Prop where
 os : w'.os = w.os
 tape : w'.tape = w.tape
 output : w'.output = w.output
 size : w.heap.size ≤ w'.heap.size
 block : ∀ k, k < w.heap.size → k ∉ row → w'.heap[k]? = w.heap[k]?
theorem Touch.refl (w : World) (row : List Nat) : Touch w w row := ⟨rfl, rfl, rfl, Nat.le_refl _, fun _ _ _ => rfl⟩
theorem Touch.trans {w w' w'' : World} {r r' : List Nat} (h : Touch w w' r) (k : Touch w' w'' r') (hr : ∀ g ∈ r', g < w.heap.size → g ∈ r) : Touch w w'' r :=
 ⟨k.os.trans h.os, k.tape.trans h.tape, k.output.trans h.output, Nat.le_trans h.size k.size, fun g hg hn => (k.block g (Nat.lt_of_lt_of_le hg h.size) (fun hm => hn (hr g hm hg))).trans (h.block g hg hn)⟩
theorem Touch.mono {w w' : World} {r r' : List Nat} (h : Touch w w' r) (hr : ∀ g ∈ r, g ∈ r') : Touch w w' r' := ⟨h.os, h.tape, h.output, h.size, fun k hk hn => h.block k hk (fun hm => hn (hr k hm))⟩
theorem Touch.below {w w' : World} {r : List Nat} {B : Nat} (h : Touch w w' r) (hB : B ≤ w.heap.size) (hr : ∀ g ∈ r, B ≤ g) : Below B w w' :=
 ⟨h.os, h.tape, h.output, h.size, fun k hk => h.block k (by omega) (fun hm => by have := hr k hm; omega)⟩
theorem Touch.of_below {w w' : World} (h : Below w.heap.size w w') (r : List Nat) : Touch w w' r := ⟨h.os, h.tape, h.output, h.size, fun k hk _ => h.block k hk⟩
theorem Touch.of_grown {w w' : World} {o : Option Nat} (h : w.grownBy w' o) : Touch w w' o.toList :=
 ⟨h.os, h.tape, h.output, h.size, fun k hk hn => h.block k hk (fun e => hn (by rw [← e]; simp))⟩
theorem Touch.set (w : World) (p : Addr) (v : Value) : Touch w (w.setCell p v) [p.block] :=
 ⟨rfl, rfl, rfl, by rw [World.size_setCell]; exact Nat.le_refl _, fun k hk hn => Below.heap_setCell w p v k (by simpa using hn)⟩
theorem Touch.setCells (b : Nat) : ∀ (vs : List Value) (o : Nat) (w : World), Touch w (w.setCells b o vs) [b]
 | [], _, w => Touch.refl w _
 | v :: r, o, w => by rw [World.setCells]; exact (Touch.set w ⟨b, o, none⟩ v).trans (Touch.setCells b r (o + 1) _) (fun g hg _ => hg)
theorem Touch.cell {w w' : World} {r : List Nat} (h : Touch w w' r) {a : Addr} {v : Value} (hc : w.cell? a = some v) (hn : a.block ∉ r) : w'.cell? a = some v := by
 rw [World.cell?_of_block (h.block a.block (World.block_lt_of_cell? w a hc) hn)]; exact hc
theorem Touch.frozen {w w' : World} {r : List Nat} (h : Touch w w' r) {a : Addr} {v : Value} (hc : w.cell? a = some v) (hn : a.block ∉ r) : w'.frozen? a = w.frozen? a :=
 World.frozen?_of_block (h.block a.block (World.block_lt_of_cell? w a hc) hn)
theorem Touch.range {w w' : World} {r : List Nat} (h : Touch w w' r) {b o : Nat} {cs : List Value} (hc : w.rangeAt b o cs) (hn : b ∉ r) : w'.rangeAt b o cs := fun j v hv => h.cell (hc j v hv) hn
theorem Touch.there {w w' : World} {r : List Nat} (h : Touch w w' r) {b o n : Nat} (hc : w.there b o n) (hn : b ∉ r) : w'.there b o n := fun j hj => by
 obtain ⟨h1, h2⟩ := hc j hj
 obtain ⟨u, hu⟩ := Option.isSome_iff_exists.1 h1
 exact ⟨by rw [h.cell hu hn]; rfl, by rw [h.frozen hu hn]; exact h2⟩
theorem Touch.owns {w w' : World} {r : List Nat} (h : Touch w w' r) {base : Nat} {e : TypeId} {size : Nat} {v : Value} {n : Nat} {xs : List Value} (ho : w.ownsRow base e size v n xs) (hn : ∀ g, v.ownBlock = some g → g ∉ r) : w'.ownsRow base e size v n xs := by
 refine ⟨ho.1, ?_⟩
 rcases ho.2 with hv | ⟨g, cap, cur, rfl, h1, h2, h3⟩
 ·exact .inl hv
 ·refine .inr ⟨g, cap, cur, rfl, h1, ?_, h3⟩
  rw [h.block g (by have := (Array.getElem?_eq_some_iff.1 h2).1; exact this) (hn g rfl)]; exact h2
/-- The writes, cell by cell. -/
def wcells : List (Nat × ByteArray) → List Value
 | [] => []
 | (n, c) :: r => .int .i64 n :: strCells c ++ wcells r
theorem wcells_append (a b : List (Nat × ByteArray)) : wcells (a ++ b) = wcells a ++ wcells b := by
 induction a with
 | nil => rfl
 | cons x a ih => obtain ⟨n, c⟩ := x; simp [wcells, ih]
structure DiskAt (w : World) (base d s : Nat) (v : Value) (N : Nat) (sec : Nat → ByteArray) (ws : List (Nat × ByteArray)) : Prop where
 c0 : ∃ cap, w.cell? ⟨d, 0, none⟩ = some (.slice (some ⟨s, 0, none⟩) N cap)
 c1 : w.cell? ⟨d, 1, none⟩ = some v
 f1 : w.frozen? ⟨d, 1, none⟩ = false
 secs : ∀ i, i < N → w.rangeAt s (i * 1024) (strCells (sec i))
 there : ∀ i, i < N → w.there s (i * 1024) 1024
 slen : ∀ i, i < N → (sec i).size = 1024
 wlen : ∀ p ∈ ws, p.2.size = 1024
 win : ∀ p ∈ ws, p.1 < N
 writes : w.ownsRow base 112 1025 v ws.length (wcells ws)
 few : ws.length ≤ 4096
 le : 8 ≤ N
 ge : N ≤ 1024
 ds : d ≠ s
 vd : v.ownBlock ≠ some d
 vs : v.ownBlock ≠ some s
 bd : base ≤ d
 bs : base ≤ s
theorem DiskAt.dlt {w : World} {base d s : Nat} {v : Value} {N : Nat} {sec : Nat → ByteArray} {ws : List (Nat × ByteArray)} (h : DiskAt w base d s v N sec ws) : d < w.heap.size := h.c0.elim fun _ h0 => World.block_lt_of_cell? w ⟨d, 0, none⟩ h0
theorem DiskAt.slt {w : World} {base d s : Nat} {v : Value} {N : Nat} {sec : Nat → ByteArray} {ws : List (Nat × ByteArray)} (h : DiskAt w base d s v N sec ws) : s < w.heap.size := by
 obtain ⟨u, hu⟩ := Option.isSome_iff_exists.1 (h.there 0 (by have := h.le; omega) 0 (by decide)).1
 exact World.block_lt_of_cell? w _ hu
theorem DiskAt.vlt {w : World} {base d s : Nat} {v : Value} {N : Nat} {sec : Nat → ByteArray} {ws : List (Nat × ByteArray)} (h : DiskAt w base d s v N sec ws) (g : Nat) (hg : v.ownBlock = some g) : g < w.heap.size ∧ base ≤ g := by
 rcases h.writes.2 with hv | ⟨g', cap, cur, rfl, h1, h2, h3⟩
 ·rw [hv.1] at hg; cases hg
 ·obtain rfl : g' = g := by simpa [Value.ownBlock] using hg
  exact ⟨(Array.getElem?_eq_some_iff.1 h2).1, h1⟩
/-- Elsewhere something changed: the disk stands. -/
theorem DiskAt.touch {w w' : World} {r : List Nat} {base d s : Nat} {v : Value} {N : Nat} {sec : Nat → ByteArray} {ws : List (Nat × ByteArray)} (h : DiskAt w base d s v N sec ws) (t : Touch w w' r) (hd : d ∉ r) (hs : s ∉ r) (hv : ∀ g, v.ownBlock = some g → g ∉ r) : DiskAt w' base d s v N sec ws :=
 { h with
   c0 := h.c0.elim fun c h0 => ⟨c, t.cell h0 hd⟩
   c1 := t.cell h.c1 hd
   f1 := by rw [t.frozen h.c1 hd]; exact h.f1
   secs := fun i hi => t.range (h.secs i hi) hs
   there := fun i hi => t.there (h.there i hi) hs
   writes := t.owns h.writes hv }
theorem DiskAt.below {w w' : World} {base d s : Nat} {v : Value} {N : Nat} {sec : Nat → ByteArray} {ws : List (Nat × ByteArray)} (h : DiskAt w base d s v N sec ws) (t : Below w.heap.size w w') : DiskAt w' base d s v N sec ws :=
 h.touch (Touch.of_below t []) (by simp) (by simp) (by simp)
/-- The disk's own blocks. -/
def drow (d s : Nat) (v : Value) : List Nat := d :: s :: v.ownBlock.toList
def noughts (k : Nat) : ByteArray := ⟨Array.replicate k 0⟩
theorem noughts_size (k : Nat) : (noughts k).size = k := by unfold noughts; exact Array.size_replicate
theorem noughts_cells (k : Nat) : strCells (noughts k) = List.replicate k (.int .u8 0) := by
 unfold strCells noughts
 simp
def nought : ByteArray := noughts 1024
theorem nought_size : nought.size = 1024 := noughts_size 1024
theorem info_sector : (Tryz.prog.info? 110).map (fun i => (i.zero, i.size, i.bytes)) = some (some (.agg (Array.replicate 1024 (.int .u8 0))), 1024, 1024) := by kernel_rfl
theorem made_range (S n i : Nat) (hi : i < n) (w : World) (g : Nat) (t : TypeId) (h : w.heap[g]? = some (.cells (madeCells (Value.agg (Array.replicate S (.int .u8 0))).cells (n * S)) t (0, 0))) : w.rangeAt g (i * S) (strCells (noughts S)) := fun j v hj => by
 rw [noughts_cells] at hj
 have hjl : j < S := by have := (List.getElem?_eq_some_iff.1 hj).1; simpa using this
 rw [List.getElem?_replicate, if_pos hjl] at hj
 rw [cell_of_row w g _ _ t (0, 0) h]
 have h2 : i * S + j < n * S := by have : (i + 1) * S ≤ n * S := Nat.mul_le_mul_right _ hi; rw [Nat.add_mul] at this; omega
 rw [← hj]
 simp only [madeCells, Value.cells, Array.size_replicate, Array.getElem?_map, Array.getElem?_range, h2, if_true, Option.map_some]
 have h3 : (i * S + j) % S = j := by rw [Nat.add_comm, Nat.add_mul_mod_self_right]; exact Nat.mod_eq_of_lt hjl
 rw [h3]
 congr 1
 rw [getElem!_pos _ _ (by simpa using hjl)]
 simp
theorem made_there (S n : Nat) (w : World) (g : Nat) (t : TypeId) (C : Array Value) (h : w.heap[g]? = some (.cells C t (0, 0))) (hC : C.size = n * S) (i : Nat) (hi : i < n) : w.there g (i * S) S := fun j hj => by
 have h2 : i * S + j < n * S := by have : (i + 1) * S ≤ n * S := Nat.mul_le_mul_right _ hi; rw [Nat.add_mul] at this; omega
 refine ⟨?_, ?_⟩
 ·rw [cell_of_row w g _ _ t (0, 0) h, Array.getElem?_eq_getElem (by omega)]; rfl
 ·simp [World.frozen?, h]
theorem made_block {w1 : World} {base : Nat} {e : TypeId} {size g n : Nat} {C : Array Value} (h : w1.ownsRow base e size (.slice (some ⟨g, 0, none⟩) n n) n C.toList) (hC : C.size = n * size) : w1.heap[g]? = some (.cells C e (0, 0)) := by
 rcases h.2 with hv | ⟨g', cap, cur, hv, h1, h2, h3, h4, h5, h6⟩
 ·cases hv.1
 ·simp only [Value.slice.injEq, Option.some.injEq, Addr.mk.injEq, and_true, true_and] at hv
  obtain ⟨rfl, rfl⟩ := hv
  rw [h2]
  congr 2
  have : cur.toList = C.toList := by rw [← h6, List.take_of_length_le (by simp; omega)]
  exact Array.toList_inj.1 this
set_option maxRecDepth 20000 in
theorem new_yes (n : Int) (w : World) (h8 : 8 ≤ n) (h9 : n ≤ 1024) :
 Calls Tryz.prog 9 #[.int .i64 n] w fun e w' => ∃ d s, e = .returned (.tuple #[.pointer (some ⟨d, 0, none⟩), .int .i64 0]) ∧ DiskAt w' w.heap.size d s (.slice none 0 0) n.toNat (fun _ => nought) [] ∧ Below w.heap.size w w' := by
 obtain ⟨i0, hi, hz0, hz1, hz2⟩ := info_parts info_sector
 go_enter Tryz.func9, Tryz.ntmps9
 go_wp2_with (first | (at_make; refine wpList_make_full _ rfl _ _ 81 rfl w.heap.size 110 i0 _ 1024 Tryz.underlying81 hi hz0 hz1 .i64 .i64 n n n.toNat rfl rfl ?m1 ?m2 ?m3 ?m4 (Nat.le_refl _) ?_))
 case m1 => omega
 case m2 => omega
 case m3 => rw [hz2]; omega
 case m4 => unfold maxLen; omega
 intro w1 hown hgrow
 have hblk := made_block (C := madeCells (Value.agg (Array.replicate 1024 (.int .u8 0))).cells (n.toNat * 1024)) hown (size_madeCells _ _)
 have hlt1 : w.heap.size < w1.heap.size := (Array.getElem?_eq_some_iff.1 hblk).1
 have hb1 : Below w.heap.size w w1 := (Below.refl w.heap.size w).grown hgrow (Nat.le_refl _) (fun _ h => by cases h)
 clear hown hgrow
 go_wp2_with fail
 go_ret2
 refine ⟨w1.heap.size, w.heap.size, rfl, ?_, hb1.alloc hb1.size _⟩
 exact {
  c0 := ⟨n.toNat, by rw [World.cell?, heap_alloc_new]; rfl⟩
  c1 := by rw [World.cell?, heap_alloc_new]; rfl
  f1 := by unfold World.frozen?; rw [heap_alloc_new]; rfl
  secs := fun i hi => World.rangeAt_alloc (made_range 1024 _ i hi w1 _ _ hblk) _
  there := fun i hi => World.there_alloc (made_there 1024 _ w1 _ _ _ hblk (size_madeCells _ _) i hi) _
  slen := fun i hi => nought_size
  wlen := fun p hp => by cases hp
  win := fun p hp => by cases hp
  writes := ⟨rfl, .inl ⟨rfl, rfl⟩⟩
  few := Nat.zero_le _
  le := by omega
  ge := by omega
  ds := by omega
  vd := by simp [Value.ownBlock]
  vs := by simp [Value.ownBlock]
  bd := hb1.size
  bs := Nat.le_refl _ }
section
variable {w : World} {base d s : Nat} {v : Value} {N : Nat} {sec : Nat → ByteArray} {ws : List (Nat × ByteArray)}
theorem there_any (D : DiskAt w base d s v N sec ws) (n : Int) (h0 : -9223372036854775808 ≤ n ∧ n ≤ 9223372036854775807) :
 Calls Tryz.prog 110 #[.pointer (some ⟨d, 0, none⟩), .int .i64 n] w fun e w' => e = .returned (.int .i64 (if 0 ≤ n ∧ n < N then 0 else 31)) ∧ w = w' := by
 obtain ⟨capS, c0⟩ := D.c0
 have ge := D.ge
 go_enter Tryz.func110, Tryz.ntmps110
 go_wp2_with fail
 all_goals
  go_ret
  exact ⟨rfl, rfl⟩
theorem sector_zero : ∃ Z : Value, Z.cells.size = 1024 ∧ ∀ w, (zeroValue 110).run Tryz.prog w = .ok Z w :=
 ⟨.agg (Array.replicate 1024 (.int .u8 0)), Array.size_replicate, (zero_of_info (P := Tryz.prog) (t := 110) (v := .agg (Array.replicate 1024 (.int .u8 0))) (n := 1024) (by kernel_rfl)).1⟩
theorem sector_size : (Tryz.prog.info? 110).map (·.size) = some 1024 := by kernel_rfl
/-- A sector, read, stored, made whole: by names of their own, so that the walk does not open them cell by cell. -/
def loadBig (ty : TypeId) (v : Value) : Sem Value := Instr.loadAt ty v
def storeBig (ty : TypeId) (v x : Value) : Sem Unit := Instr.storeAt ty v x
def allocBig (ty : TypeId) : Sem Value := Instr.alloc ty true (.tuple #[])
theorem exec_load_sector (ρ : Operand → Value) (dst : Option Tmp) (x : Operand) (ty' : TypeId) (pos : String) (after : Array Edge) (guard : Option (Nat × Bool)) :
 execOp ρ ⟨dst, .load 110 x, ty', pos, after, guard⟩ = (do pure (.value (← loadBig 110 (ρ x)))) := rfl
theorem exec_store_sector (ρ : Operand → Value) (dst : Option Tmp) (x y : Operand) (ty' : TypeId) (pos : String) (after : Array Edge) (guard : Option (Nat × Bool)) :
 execOp ρ ⟨dst, .store 110 x y, ty', pos, after, guard⟩ = (do storeBig 110 (ρ x) (ρ y); pure .skip) := rfl
theorem exec_alloc_sector (ρ : Operand → Value) (dst : Option Tmp) (ty' : TypeId) (pos : String) (after : Array Edge) (guard : Option (Nat × Bool)) :
 execOp ρ ⟨dst, .alloc 110, ty', pos, after, guard⟩ = (do pure (.value (← allocBig 110))) := rfl
theorem load_sector (w : World) (b o : Nat) (cs : List Value) (hl : cs.length = 1024) (h : w.rangeAt b o cs) : (loadBig 110 (.pointer (some ⟨b, o, none⟩))).run Tryz.prog w = .ok (.agg cs.toArray) w :=
 run_loadAt_mid (P := Tryz.prog) w b o 110 cs _ h Tryz.underlying110 rfl (by rw [hl]; exact sector_size)
theorem store_sector (w : World) (b o : Nat) (cs : List Value) (hl : cs.length = 1024) (h1 : ∀ u ∈ cs, u.oneCell' = true) (h : w.there b o 1024) : (storeBig 110 (.pointer (some ⟨b, o, none⟩)) (.agg cs.toArray)).run Tryz.prog w = .ok () (w.setCells b o cs) :=
 run_storeAt_mid (P := Tryz.prog) w b o 110 cs.toArray (by rw [List.size_toArray, hl]; exact h) (by rw [List.size_toArray, hl]; exact sector_size) (all_oneCell_toArray h1)
theorem alloc_sector : ∃ Z : Array Value, Z.size = 1024 ∧ ∀ w, (allocBig 110).run Tryz.prog w = .ok (.pointer (some ⟨w.heap.size, 0, none⟩)) (w.alloc (.cells Z 110)) := by
 obtain ⟨Z, h1, h2⟩ := sector_zero
 refine ⟨Z.cells, h1, fun w => ?_⟩
 simp [allocBig, Instr.alloc, h2, newVar, newRow]
theorem store_new_sector (w : World) (Z : Array Value) (hZ : Z.size = 1024) (cs : List Value) (hl : cs.length = 1024) (h1 : ∀ u ∈ cs, u.oneCell' = true) : (storeBig 110 (.pointer (some ⟨w.heap.size, 0, none⟩)) (.agg cs.toArray)).run Tryz.prog (w.alloc (.cells Z 110)) = .ok () (w.alloc (.cells cs.toArray 110)) :=
 run_storeAt_new (P := Tryz.prog) w 110 Z cs.toArray (by rw [List.size_toArray, hl]; exact sector_size) (by rw [hZ, List.size_toArray, hl]) (all_oneCell_toArray h1)
attribute [local go_sem ↓] exec_load_sector exec_store_sector exec_alloc_sector
theorem read_yes (D : DiskAt w base d s v N sec ws) (n : Nat) (hn : n < N) :
 Calls Tryz.prog 97 #[.pointer (some ⟨d, 0, none⟩), .int .i64 (n : Int)] w fun e w' => e = .returned (.tuple #[.slice (some ⟨w.heap.size, 0, none⟩) 1024 1024, .int .i64 0]) ∧ w' = w.alloc (.cells (strCells (sec n)).toArray 110 (0, 0)) := by
 obtain ⟨capS, c0⟩ := D.c0
 have ge := D.ge
 obtain ⟨Z, hZ, hz⟩ := alloc_sector
 have hl : (strCells (sec n)).length = 1024 := by rw [strCells_length, D.slen n hn]
 have hld := load_sector w s (n * 1024) (strCells (sec n)) hl (D.secs n hn)
 have hst := store_new_sector w Z hZ (strCells (sec n)) hl (strCells_oneCell _)
 generalize strCells (sec n) = cs at *
 have h2 : (n : Int) < (N : Int) := by omega
 have h3 : (0 : Int) ≤ (n : Int) := by omega
 go_enter Tryz.func97, Tryz.ntmps97
 go_wp2_with (first | (go_at_call 110; refine (there_any D n (by omega)).mono ?_; rintro e w' ⟨rfl, rfl⟩))
 go_ret2
 exact ⟨rfl, rfl⟩
end
end Go.Proofs.YtgcknekhimpfkaaGreatDoor
namespace Go.Proofs.YtgcknekhimpfkaaGreatDoor
open Go Go.RowKit Go.Lib
set_option linter.unusedVariables false
theorem foldl_place (off : Nat) (v cells : Array Value) (h : off + v.size ≤ cells.size) :
 (v.zipIdx.foldl (fun cs (x : Value × Nat) => cs.setIfInBounds (off + x.2) x.1) cells).size = cells.size ∧
 ∀ k, (v.zipIdx.foldl (fun cs (x : Value × Nat) => cs.setIfInBounds (off + x.2) x.1) cells)[k]? = if off ≤ k ∧ k < off + v.size then v[k - off]? else cells[k]? := by
 have := Great.foldl_set off v.toList 0 cells
 rw [← Array.foldl_toList, Array.toList_zipIdx]
 refine ⟨this.1, fun k => ?_⟩
 rw [this.2 k]
 simp only [Nat.add_zero, Array.length_toList, Array.getElem?_toList]
 by_cases hk : off ≤ k ∧ k < off + v.size
 ·rw [if_pos hk, if_pos ⟨hk.1, hk.2, by omega⟩]
 ·rw [if_neg hk, if_neg (fun h2 => hk ⟨h2.1, h2.2.1⟩)]
theorem fill_two (place : Nat → Option (Nat × Nat)) (cells : Array Value) (a b : Value) (h0 : place 0 = some (0, a.cells.size)) (h1 : place 1 = some (a.cells.size, b.cells.size)) (hs : cells.size = a.cells.size + b.cells.size) :
 Instr.fill place cells [(0, a), (1, b)] = some (a.cells ++ b.cells) := by
 have p1 := foldl_place 0 a.cells cells (by omega)
 have p2 := foldl_place a.cells.size b.cells _ (Nat.le_of_eq (by rw [p1.1]; exact hs.symm))
 simp only [Instr.fill, h0, h1]
 rw [if_neg (by simp only [ne_eq, not_true_eq_false, decide_false, Bool.false_or, decide_eq_true_eq]; omega), if_neg (by simp only [ne_eq, not_true_eq_false, decide_false, Bool.false_or, decide_eq_true_eq, p1.1]; omega)]
 congr 1
 apply Array.ext_getElem?
 intro k
 rw [p2.2 k, p1.2 k, Array.getElem?_append]
 by_cases ha : k < a.cells.size
 ·rw [if_neg (by omega), if_pos ⟨Nat.zero_le _, by omega⟩, if_pos ha]; rfl
 ·rw [if_neg ha]
  by_cases hb : k < a.cells.size + b.cells.size
  ·rw [if_pos ⟨by omega, hb⟩]
  ·rw [if_neg (by omega), if_neg (by omega), Array.getElem?_eq_none (by omega), Array.getElem?_eq_none (by omega)]
theorem info_write : ∃ (i : TypeInfo) (z : Value), Tryz.prog.info? 112 = some i ∧ i.zero = some z ∧ i.size = 1025 ∧ i.bytes = 1032 ∧ z.cells.size = 1025 := by
 have h : (Tryz.prog.info? 112).map (fun i => (i.zero.map (·.cells.size), i.size, i.bytes)) = some (some 1025, 1025, 1032) := by kernel_rfl
 obtain ⟨i, hi, hzz⟩ := Option.map_eq_some_iff.1 h
 simp only [Prod.mk.injEq] at hzz
 obtain ⟨z, hz, hs⟩ := Option.map_eq_some_iff.1 hzz.1
 exact ⟨i, z, hi, hz, hzz.2.1, hzz.2.2, hs⟩
theorem places_write : (match Tryz.prog.underlying 112 with | some (.struct fields) => fields.toList.mapM (fun f => (Tryz.prog.info? f.type).map fun i => (f.offset, i.size)) | _ => none) = some [(0, 1), (1, 1024)] := by kernel_rfl
def buildBig (t : TypeId) (parts : Array (Nat × Value)) : Sem Value := Instr.build t parts
def sliceBig (t : TypeId) (n : Nat) (parts : Array (Nat × Value)) : Sem Value := Instr.buildSlice t n parts
theorem exec_build_write (ρ : Operand → Value) (dst : Option Tmp) (parts : Array (Nat × Operand)) (ty' : TypeId) (pos : String) (after : Array Edge) (guard : Option (Nat × Bool)) :
 execOp ρ ⟨dst, .build 112 parts, ty', pos, after, guard⟩ = (do pure (.value (← buildBig 112 (parts.map fun (i, x) => (i, ρ x))))) := rfl
theorem exec_slice_write (ρ : Operand → Value) (dst : Option Tmp) (n : Nat) (parts : Array (Nat × Operand)) (ty' : TypeId) (pos : String) (after : Array Edge) (guard : Option (Nat × Bool)) :
 execOp ρ ⟨dst, .buildSlice 82 n parts, ty', pos, after, guard⟩ = (do pure (.value (← sliceBig 82 n (parts.map fun (i, x) => (i, ρ x))))) := rfl
theorem build_write (w : World) (n : Int) (cs : List Value) (hl : cs.length = 1024) : (buildBig 112 #[(0, .int .i64 n), (1, .agg cs.toArray)]).run Tryz.prog w = .ok (.agg (.int .i64 n :: cs).toArray) w := by
 obtain ⟨i, z, hi, hz, h1, h2, h3⟩ := info_write
 refine run_build w _ _ _ ?_
 have hp := places_write
 unfold Program.built
 cases hu : Tryz.prog.underlying 112 with
 | none => rw [hu] at hp; cases hp
 | some d =>
  cases d with
  | struct fields =>
   rw [hu] at hp
   simp only [hi, hz]
   simp only at hp
   rw [hp]
   simp only
   rw [fill_two _ _ _ _ rfl (by simp [Value.cells, hl]) (by rw [h3]; simp [Value.cells, hl])]
   simp [Value.cells]
  | _ => rw [hu] at hp; cases hp
/-- The same, reckoned out (where a great seat gives the zero value by name). -/
theorem fold_write (n : Int) (cs : List Value) (hl : cs.length = 1024) (Z : Array Value) (hZ : Z.size = 1025) : List.foldl (fun (cs : Array Value) (x : Value × Nat) => cs.setIfInBounds (1 + x.2) x.1) (Z.setIfInBounds 0 (.int .i64 n)) cs.zipIdx = (Value.int .i64 n :: cs).toArray := by
 have h := foldl_place 1 cs.toArray (Z.setIfInBounds 0 (.int .i64 n)) (by simp [hl, hZ])
 rw [← Array.foldl_toList, Array.toList_zipIdx] at h
 simp only [Array.size_setIfInBounds, hZ] at h
 apply Array.ext_getElem?
 intro k
 rw [h.2 k]
 simp only [List.size_toArray, hl]
 cases k with
 | zero => rw [if_neg (by omega)]; simp [hZ]
 | succ k =>
  by_cases hk : k < 1024
  ·rw [if_pos (by omega)]; simp
  ·rw [if_neg (by omega), Array.getElem?_eq_none (by simp [hZ]; omega), Array.getElem?_eq_none (by simp [hl]; omega)]
theorem slice_write (w : World) (xs : List Value) (hl : xs.length = 1025) : (sliceBig 82 1 #[(0, .agg xs.toArray)]).run Tryz.prog w = .ok (.slice (some ⟨w.heap.size, 0, none⟩) 1 1) (w.alloc (.cells xs.toArray 112)) := by
 obtain ⟨i, z, hi, hz, h1, h2, h3⟩ := info_write
 refine run_buildSlice w _ _ 1 _ _ i z Tryz.underlying82 hi hz (by rw [h1]; decide) (by rw [h1]; decide) ?_
 have := Great.fill_whole (s := 1025) (by decide) [.agg xs.toArray] ((Array.range (1 * i.size)).map (z.cells[· % z.cells.size]!)) (by simp [Value.cells, hl]) (by simp [h1])
 simpa [h1, Value.cells] using this
def upd (sec : Nat → ByteArray) (n : Nat) (b : ByteArray) : Nat → ByteArray := fun i => if i = n then b else sec i
section
variable {w w1 : World} {base d s : Nat} {v v' : Value} {N : Nat} {sec : Nat → ByteArray} {ws : List (Nat × ByteArray)}
/-- Behind the write's own row. -/
theorem mid_disk (D : DiskAt w base d s v N sec ws) (T1 : Touch w w1 v.ownBlock.toList) (n : Nat) (hn : n < N) (few : ws.length < 4096) (g : Nat) (hg : v'.ownBlock = some g) (hown : w1.ownsRow base 112 1025 v' (ws.length + 1) (wcells ws ++ .int .i64 n :: strCells (sec n)))
 (hat : v.ownBlock = some g ∨ w.heap.size ≤ g) : DiskAt (w1.setCell ⟨d, 1, none⟩ v') base d s v' N sec (ws ++ [(n, sec n)]) ∧ Touch w (w1.setCell ⟨d, 1, none⟩ v') (drow d s v) := by
 have hd := D.dlt
 have hs := D.slt
 have hdv : d ∉ v.ownBlock.toList := fun hm => D.vd (by simpa using hm)
 have hsv : s ∉ v.ownBlock.toList := fun hm => D.vs (by simpa using hm)
 have T2 := Touch.set w1 ⟨d, 1, none⟩ v'
 have hgd : g ≠ d := fun e => by subst e; rcases hat with h | h; exact D.vd h; omega
 have hgs : g ≠ s := fun e => by subst e; rcases hat with h | h; exact D.vs h; omega
 have hds := D.ds
 refine ⟨{ D with
  c0 := D.c0.elim fun c h0 => ⟨c, by rw [World.cell?_setCell_other _ _ _ _ (by simp)]; exact T1.cell h0 hdv⟩
  c1 := World.cell?_setCell_same _ _ _ (T1.cell D.c1 hdv)
  f1 := by rw [World.frozen?_setCell, T1.frozen D.c1 hdv]; exact D.f1
  secs := fun i hi => T2.range (T1.range (D.secs i hi) hsv) (by simpa using hds.symm)
  there := fun i hi => T2.there (T1.there (D.there i hi) hsv) (by simpa using hds.symm)
  wlen := fun p hp => by
   rcases List.mem_append.1 hp with hp | hp
   ·exact D.wlen p hp
   ·obtain rfl : p = (n, sec n) := by simpa using hp
    exact D.slen n hn
  win := fun p hp => by
   rcases List.mem_append.1 hp with hp | hp
   ·exact D.win p hp
   ·obtain rfl : p = (n, sec n) := by simpa using hp
    exact hn
  writes := by
   rw [wcells_append, List.length_append]
   have := T2.owns hown (fun g' hg' => by rw [hg] at hg'; cases hg'; simpa using hgd)
   simpa [wcells] using this
  few := by rw [List.length_append]; simp; omega
  vd := by rw [hg]; simpa using hgd
  vs := by rw [hg]; simpa using hgs }, ?_⟩
 refine (T1.mono (fun g hg => ?_)).trans T2 (fun g hg _ => ?_)
 ·simp [drow]; right; right; simpa using hg
 ·simp [drow]; left; simpa using hg
/-- Behind the sector's bytes. -/
theorem store_disk (D : DiskAt w base d s v N sec ws) (n : Nat) (hn : n < N) (b : ByteArray) (hb : b.size = 1024) : DiskAt (w.setCells s (n * 1024) (strCells b)) base d s v N (upd sec n b) ws := by
 have T := Touch.setCells s (strCells b) (n * 1024) w
 have hds := D.ds
 have hl : (strCells b).length = 1024 := by rw [strCells_length, hb]
 exact { D with
  c0 := D.c0.elim fun c h0 => ⟨c, T.cell h0 (by simpa using hds)⟩
  c1 := T.cell D.c1 (by simpa using hds)
  f1 := by rw [T.frozen D.c1 (by simpa using hds)]; exact D.f1
  secs := fun i hi => by
   unfold upd
   by_cases e : i = n
   ·subst e
    rw [if_pos rfl]
    exact World.rangeAt_setCells_same _ _ _ _ (by rw [hl]; exact D.there i hi)
   ·rw [if_neg e]
    have hli : (strCells (sec i)).length = 1024 := by rw [strCells_length, D.slen i hi]
    refine World.rangeAt_setCells_apart (D.secs i hi) _ _ _ (.inr ?_)
    rw [hli, hl]
    rcases Nat.lt_or_ge i n with h | h
    ·left; have : (i + 1) * 1024 ≤ n * 1024 := Nat.mul_le_mul_right _ h; omega
    ·right; have : (n + 1) * 1024 ≤ i * 1024 := Nat.mul_le_mul_right _ (by omega); omega
  there := fun i hi => World.there_setCells (D.there i hi) _ _ _
  slen := fun i hi => by
   unfold upd
   split
   ·exact hb
   ·exact D.slen i hi
  writes := T.owns D.writes (fun g hg => by simp; intro e; subst e; exact D.vs hg) }
end
end Go.Proofs.YtgcknekhimpfkaaGreatDoor
