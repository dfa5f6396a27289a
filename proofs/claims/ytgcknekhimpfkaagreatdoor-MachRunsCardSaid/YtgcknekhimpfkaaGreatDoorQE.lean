/- Bytes in memory. (Taken out of DiskE, DiskF: no function of a statement's package.) -/
import Derived.Test.YtgcknekhimpfkaaGreatDoorDiskD
import Derived.Laws.OwnMore
import Derived.Laws.BytesArg
import Derived.Deep.Cut
import Derived.WalkSpells
namespace Go.Proofs.YtgcknekhimpfkaaGreatDoor
open Go Go.RowKit Go.Lib
set_option linter.unusedVariables false
def ofL (l : List UInt8) : ByteArray := ⟨l.toArray⟩
theorem strCells_ofL (l : List UInt8) : strCells (ofL l) = l.map fun b => Value.int .u8 b.toNat := by simp [strCells, ofL]
theorem ofL_size (l : List UInt8) : (ofL l).size = l.length := by show l.toArray.size = _; simp
/-- A block that is a text's bytes. -/
def BytesAt (w : World) (g : Nat) (l : List UInt8) : Prop := w.heap[g]? = some (.cells (strCells (ofL l)).toArray 5 (0, 0))
theorem BytesAt.range {w : World} {g : Nat} {l : List UInt8} (h : BytesAt w g l) : w.rangeAt g 0 (strCells (ofL l)) := fun j v hj => by
 rw [Nat.zero_add, cell_of_row w g j _ _ _ h]; simpa using hj
theorem BytesAt.lt {w : World} {g : Nat} {l : List UInt8} (h : BytesAt w g l) : g < w.heap.size := (Array.getElem?_eq_some_iff.1 h).1
theorem BytesAt.cell {w : World} {g : Nat} {l : List UInt8} (h : BytesAt w g l) {j : Nat} (hj : j < l.length) : w.cell? ⟨g, j, none⟩ = some (.int .u8 (l[j]'hj).toNat) := by
 rw [cell_of_row w g j _ _ _ h, strCells_ofL]; simp [hj]
theorem BytesAt.frozen {w : World} {g : Nat} {l : List UInt8} (h : BytesAt w g l) (j : Nat) : w.frozen? ⟨g, j, none⟩ = false := by
 unfold BytesAt at h; simp [World.frozen?, h]
theorem BytesAt.set {w : World} {g : Nat} {l : List UInt8} (h : BytesAt w g l) (j : Nat) (x : UInt8) : BytesAt (w.setCell ⟨g, j, none⟩ (.int .u8 x.toNat)) g (l.set j x) := by
 unfold BytesAt at h ⊢
 simp only [World.setCell, Array.getElem?_modify, if_true, h, Option.map_some]
 congr 2
 rw [strCells_ofL, strCells_ofL]
 simp [List.map_set]
theorem BytesAt.touch {w w' : World} {r : List Nat} {g : Nat} {l : List UInt8} (h : BytesAt w g l) (T : Touch w w' r) (hg : g ∉ r) : BytesAt w' g l := by
 unfold BytesAt at h ⊢; rw [T.block g (Array.getElem?_eq_some_iff.1 h).1 hg]; exact h
theorem BytesAt.below {w w' : World} {g : Nat} {l : List UInt8} (h : BytesAt w g l) {B : Nat} (hb : Below B w w') (hg : g < B) : BytesAt w' g l := by
 unfold BytesAt at h ⊢; rw [hb.block g hg]; exact h
theorem made_bytes (w : World) (g n : Nat) (h : w.heap[g]? = some (.cells (madeCells #[Value.int .u8 0] n) 5 (0, 0))) : BytesAt w g (List.replicate n 0) := by
 unfold BytesAt
 rw [h, strCells_ofL]
 congr 2
 apply Array.toList_inj.1
 rw [toList_madeCells_one]
 simp
theorem info_u8 : (Tryz.prog.info? 5).map (fun i => (i.zero, i.size, i.bytes)) = some (some (.int .u8 0), 1, 1) := by kernel_rfl
theorem strOfNums_self (s : ByteArray) : strOfNums (s.data.toList.map fun b => (b.toNat : Int)) = s := by
 unfold strOfNums
 cases s with
 | mk d =>
  congr 1
  apply Array.toList_inj.1
  simp only [List.map_map]
  rw [show ((fun x : Int => UInt8.ofNat x.toNat) ∘ fun b : UInt8 => (b.toNat : Int)) = id from by funext b; simp]
  simp
/-- Bytes that lie in a range, as a string. -/
theorem conv_range (w : World) (b o n cap : Nat) (s : ByteArray) (hs : s.size = n) (h : w.rangeAt b o (strCells s)) :
 (convert 69 9 (.slice (some ⟨b, o, none⟩) n cap)).run Tryz.prog w = .ok (.string s) w := by
 have := run_convert_bytes_arg (P := Tryz.prog) w 69 5 Tryz.underlying69 Tryz.underlying5 b o n cap (s.data.toList.map fun b => (b.toNat : Int)) (by simpa using hs) (fun i hi => by
  refine h i _ ?_
  have hi2 : i < s.data.size := by have : s.data.size = s.size := rfl; omega
  simp [strCells, List.getD, Array.getElem?_eq_getElem hi2]) 9 Tryz.underlying9
 rw [strOfNums_self] at this
 exact this
theorem conv_bytes {w : World} {g n cap : Nat} {l : List UInt8} (hn : l.length = n) (h : BytesAt w g l) :
 (convert 69 9 (.slice (some ⟨g, 0, none⟩) n cap)).run Tryz.prog w = .ok (.string (ofL l)) w := conv_range w g 0 n cap (ofL l) (by rw [ofL_size, hn]) h.range
section
variable {w : World} {base d s : Nat} {v : Value} {N : Nat} {sec : Nat → ByteArray} {ws : List (Nat × ByteArray)}
end
theorem wcells_get (l : List (Nat × ByteArray)) (h : ∀ p ∈ l, p.2.size = 1024) (k j : Nat) (p : Nat × ByteArray) (hp : l[k]? = some p) (u : Value) (hu : (Value.int .i64 p.1 :: strCells p.2)[j]? = some u) : (wcells l)[k * 1025 + j]? = some u := by
 induction l generalizing k with
 | nil => simp at hp
 | cons q l ih =>
  obtain ⟨n, c⟩ := q
  have h1 : c.size = 1024 := h (n, c) (by simp)
  have hl : (Value.int .i64 n :: strCells c).length = 1025 := by rw [List.length_cons, strCells_length, h1]
  rw [wcells]
  cases k with
  | zero =>
   simp only [List.getElem?_cons_zero, Option.some.injEq] at hp
   subst hp
   have hj : j < 1025 := by rw [← hl]; exact (List.getElem?_eq_some_iff.1 hu).1
   rw [Nat.zero_mul, Nat.zero_add, List.getElem?_append_left (by rw [hl]; exact hj)]
   exact hu
  | succ k =>
   rw [List.getElem?_append_right (by rw [hl]; omega), hl, show (k + 1) * 1025 + j - 1025 = k * 1025 + j from by omega]
   exact ih (fun q hq => h q (List.mem_cons_of_mem _ hq)) k (by simpa using hp)
section
variable {w : World} {base d s : Nat} {v : Value} {N : Nat} {sec : Nat → ByteArray} {ws : List (Nat × ByteArray)}
theorem DiskAt.vform (D : DiskAt w base d s v N sec ws) : ∃ q c, v = .slice q ws.length c ∧ ∀ k p, ws[k]? = some p → ∃ g, q = some ⟨g, 0, none⟩ ∧ w.rangeAt g (k * 1025) (.int .i64 p.1 :: strCells p.2) := by
 rcases D.writes with ⟨h0, ⟨rfl, h1⟩ | ⟨g, cap, cur, rfl, h1, h2, h3, h4, h5, h6⟩⟩
 ·refine ⟨none, 0, by rw [h1], fun k p hp => ?_⟩
  have : ws = [] := List.length_eq_zero_iff.1 h1
  rw [this] at hp; simp at hp
 ·refine ⟨_, cap, rfl, fun k p hp => ⟨g, rfl, fun j u hu => ?_⟩⟩
  rw [cell_of_row w g _ cur 112 (0, 0) h2]
  have := wcells_get ws D.wlen k j p hp u hu
  rw [← h6] at this
  rw [List.getElem?_take] at this
  split at this
  ·simpa using this
  ·cases this
end
theorem write_size : (Tryz.prog.info? 112).map (·.size) = some 1025 := by kernel_rfl
theorem exec_load_write (ρ : Operand → Value) (dst : Option Tmp) (x : Operand) (ty' : TypeId) (pos : String) (after : Array Edge) (guard : Option (Nat × Bool)) :
 execOp ρ ⟨dst, .load 112 x, ty', pos, after, guard⟩ = (do pure (.value (← loadBig 112 (ρ x)))) := rfl
theorem exec_store_write (ρ : Operand → Value) (dst : Option Tmp) (x y : Operand) (ty' : TypeId) (pos : String) (after : Array Edge) (guard : Option (Nat × Bool)) :
 execOp ρ ⟨dst, .store 112 x y, ty', pos, after, guard⟩ = (do storeBig 112 (ρ x) (ρ y); pure .skip) := rfl
theorem exec_alloc_write (ρ : Operand → Value) (dst : Option Tmp) (ty' : TypeId) (pos : String) (after : Array Edge) (guard : Option (Nat × Bool)) :
 execOp ρ ⟨dst, .alloc 112, ty', pos, after, guard⟩ = (do pure (.value (← allocBig 112))) := rfl
theorem load_write (w : World) (b o : Nat) (cs : List Value) (hl : cs.length = 1025) (h : w.rangeAt b o cs) : (loadBig 112 (.pointer (some ⟨b, o, none⟩))).run Tryz.prog w = .ok (.agg cs.toArray) w :=
 run_loadAt_mid (P := Tryz.prog) w b o 112 cs _ h Tryz.underlying112 rfl (by rw [hl]; exact write_size)
theorem alloc_write : ∃ Z : Array Value, Z.size = 1025 ∧ ∀ w, (allocBig 112).run Tryz.prog w = .ok (.pointer (some ⟨w.heap.size, 0, none⟩)) (w.alloc (.cells Z 112)) := by
 obtain ⟨i, z, hi, hz, h1, h2, h3⟩ := info_write
 refine ⟨z.cells, h3, fun w => ?_⟩
 have hz' : ∀ w, (zeroValue 112).run Tryz.prog w = .ok z w := (zero_of_info (P := Tryz.prog) (t := 112) (v := z) (n := 1025) (by rw [hi]; simp only [Option.map_some, hz, h1])).1
 simp [allocBig, Instr.alloc, hz', newVar, newRow]
theorem store_new_write (w : World) (Z : Array Value) (hZ : Z.size = 1025) (cs : List Value) (hl : cs.length = 1025) (h1 : ∀ u ∈ cs, u.oneCell' = true) : (storeBig 112 (.pointer (some ⟨w.heap.size, 0, none⟩)) (.agg cs.toArray)).run Tryz.prog (w.alloc (.cells Z 112)) = .ok () (w.alloc (.cells cs.toArray 112)) :=
 run_storeAt_new (P := Tryz.prog) w 112 Z cs.toArray (by rw [List.size_toArray, hl]; exact write_size) (by rw [hZ, List.size_toArray, hl]) (all_oneCell_toArray h1)
theorem wone (n : Int) (s : ByteArray) : ∀ u ∈ Value.int .i64 n :: strCells s, u.oneCell' = true := fun u hu => by
 rcases List.mem_cons.1 hu with rfl | hu
 ·rfl
 ·exact strCells_oneCell _ u hu
theorem info_i64 : (Tryz.prog.info? 3).map (fun i => (i.zero, i.size, i.bytes)) = some (some (.int .i64 0), 1, 8) := by kernel_rfl
attribute [local go_sem ↓] exec_load_write exec_store_write exec_alloc_write
theorem new_cell (w : World) (n : Int) (cs : List Value) (t : TypeId) : (w.alloc (.cells (.int .i64 n :: cs).toArray t (0, 0))).cell? ⟨w.heap.size, 0, none⟩ = some (.int .i64 n) := by
 rw [cell_of_row _ w.heap.size 0 _ _ _ (heap_alloc_new w _)]; simp
theorem cell_one_new' (w : World) (v : Value) (t : TypeId) (g : Nat) (hg : g = w.heap.size) : ∀ j u, [v][j]? = some u → (w.alloc (.cells #[v] t (0, 0))).cell? ((⟨g, 0, none⟩ : Addr).add j) = some u := fun j u hj => by
 subst hg
 match j with
 | 0 =>
  simp at hj; subst hj
  show (w.alloc (.cells #[v] t (0, 0))).cell? ⟨w.heap.size, 0, none⟩ = some v
  rw [cell_of_row _ w.heap.size 0 _ _ _ (heap_alloc_new w _)]; simp
 | j + 1 => simp at hj
theorem writes_any {w : World} {base d s : Nat} {v : Value} {N : Nat} {sec : Nat → ByteArray} {ws : List (Nat × ByteArray)} (D : DiskAt w base d s v N sec ws) :
 Calls Tryz.prog 30 #[.pointer (some ⟨d, 0, none⟩)] w fun e w' => ∃ v', e = .returned v' ∧ w'.ownsRow w.heap.size 3 1 v' ws.length (ws.map fun p => .int .i64 p.1) ∧ Below w.heap.size w w' := by
 obtain ⟨i0, hi, hz0, hz1, hz2⟩ := info_parts info_i64
 obtain ⟨Z, hZ, hz⟩ := alloc_write
 obtain ⟨q, c, rfl, hv⟩ := D.vform
 obtain ⟨capS, c0⟩ := D.c0
 have c1 := D.c1
 have few := D.few
 have hlen := D.wlen
 go_enter Tryz.func30, Tryz.ntmps30
 go_wp2_with fail
 go_loopw [3, 13] (fun v i wr => ∃ k : Nat, k ≤ ws.length ∧ i = .int .i64 k ∧ wr.ownsRow w.heap.size 3 1 v k ((ws.take k).map fun p => .int .i64 p.1) ∧ Below w.heap.size w wr) (fun _ i _ => ws.length - (intOf i).toNat)
 case atStart => exact ⟨0, by omega, rfl, ⟨rfl, .inl ⟨rfl, rfl⟩⟩, Below.refl _ _⟩
 case round =>
  obtain ⟨k, hk, rfl, hown, hb⟩ := hrel
  by_cases hlt : k < ws.length
  ·obtain ⟨p, hp⟩ : ∃ p, ws[k]? = some p := ⟨ws[k], List.getElem?_eq_getElem hlt⟩
   obtain ⟨g, rfl, hr⟩ := hv k p hp
   have hl : (Value.int .i64 p.1 :: strCells p.2).length = 1025 := by rw [List.length_cons, strCells_length, hlen p (List.mem_of_getElem? hp)]
   have hld := load_write wr g (k * 1025) _ hl ((Touch.of_below hb []).range hr (by simp))
   have hst := store_new_write wr Z hZ _ hl (wone p.1 p.2)
   have hnc := new_cell wr p.1 (strCells p.2) 112
   have ho1 := hown.alloc (.cells (Value.int .i64 p.1 :: strCells p.2).toArray 112)
   have hb1 := hb.alloc hb.size (.cells (Value.int .i64 p.1 :: strCells p.2).toArray 112)
   generalize strCells p.2 = cs at *
   have HO := hid ho1
   have HB := hid hb1
   clear hv hown hb hr ho1 hb1
   go_wp2_with (at_builtin; go_must (refine wpList_append_own _ rfl _ _ 79 rfl w.heap.size 3 i0 (.int .i64 0) 1 8 Tryz.underlying79 hi hz0 hz1 hz2 rfl (by decide) _ _ _ rfl (HO.out.alloc _) ⟨wr.heap.size + 1, 0, none⟩ 1 1 [.int .i64 p.1] rfl rfl ?c1 ?c2 ?c3 ?c4 ?c5 ?_))
   case c1 => exact cell_one_new' _ _ _ _ (by simp)
   case c2 => intro u hu; simp at hu; subst hu; rfl
   case c3 => unfold maxLen; omega
   case c4 => omega
   case c5 => simp; have := HB.out.size; simp at this; omega
   intro v' w1 hown' hgrow _
   have hb1 := (HB.out.alloc HB.out.size (.cells #[.int .i64 p.1] 3)).grown hgrow (by simp; have := HB.out.size; simp at this; omega) (fun g hg => by
    rcases HO.out.2 with ⟨rfl, _⟩ | ⟨g', cap, cur, rfl, hbase, _⟩
    ·cases hg
    ·simp [Value.ownBlock] at hg; omega)
   have ho2 : w1.ownsRow w.heap.size 3 1 v' (k + 1) ((ws.take (k + 1)).map fun p => .int .i64 p.1) := by
    rw [List.take_add_one, hp]
    simpa using hown'
   clear hown' hgrow HO HB
   have HO2 := hid ho2
   have HB2 := hid hb1
   clear ho2 hb1
   go_wp2_with fail
   go_roundw
   case rel => exact ⟨k + 1, by omega, by go_num, HO2.out, HB2.out⟩
   case measure => simp [intOf]; omega
  ·obtain rfl : k = ws.length := by omega
   go_wp2_with fail
   go_ret
   exact ⟨_, rfl, by simpa using hown, hb⟩
end Go.Proofs.YtgcknekhimpfkaaGreatDoor
