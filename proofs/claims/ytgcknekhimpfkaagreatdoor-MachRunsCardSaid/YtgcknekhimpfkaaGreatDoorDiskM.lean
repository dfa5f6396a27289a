/- Sectors, Image. -/
import Derived.Test.YtgcknekhimpfkaaGreatDoorQE
namespace Go.Proofs.YtgcknekhimpfkaaGreatDoor
open Go Go.RowKit Go.Lib
set_option linter.unusedVariables false
set_option linter.unusedSimpArgs false
attribute [local go_sem ↓] exec_load_sector exec_store_sector exec_alloc_sector
/-- All bytes of the first so many sectors. -/
def imgL (sec : Nat → ByteArray) (k : Nat) : List UInt8 := (List.range k).flatMap fun i => (sec i).data.toList
theorem imgL_succ (sec : Nat → ByteArray) (k : Nat) : imgL sec (k + 1) = imgL sec k ++ (sec k).data.toList := by
 unfold imgL; rw [List.range_succ, List.flatMap_append]; simp
theorem imgL_length (sec : Nat → ByteArray) (N : Nat) (h : ∀ i, i < N → (sec i).size = 1024) : ∀ k, k ≤ N → (imgL sec k).length = k * 1024
 | 0, _ => rfl
 | k + 1, hk => by
  have : (sec k).data.toList.length = 1024 := by rw [Array.length_toList]; exact h k (by omega)
  rw [imgL_succ, List.length_append, imgL_length sec N h k (by omega), this]; omega
theorem strCells_data (s : ByteArray) : strCells s = s.data.toList.map fun b => Value.int .u8 b.toNat := by
 simp [strCells]
/-- Bytes in a row of the call's own. -/
def BytesRow (w : World) (base : Nat) (v : Value) (l : List UInt8) : Prop := w.ownsRow base 5 1 v l.length (strCells (ofL l))
theorem BytesRow.below {w w' : World} {base B : Nat} {v : Value} {l : List UInt8} (h : BytesRow w base v l) (hb : Below w.heap.size w w') : BytesRow w' base v l := (Touch.of_below hb []).owns h (by simp)
theorem conv_nil (w : World) : (convert 69 9 (.slice none 0 0)).run Tryz.prog w = .ok (.string (ofL [])) w := by kernel_rfl
theorem BytesRow.conv {w : World} {base : Nat} {v : Value} {l : List UInt8} (h : BytesRow w base v l) : (convert 69 9 v).run Tryz.prog w = .ok (.string (ofL l)) w := by
 rcases h.2 with ⟨rfl, h0⟩ | ⟨g, cap, cur, rfl, h1, h2, h3, h4, h5, h6⟩
 ·have : l = [] := List.length_eq_zero_iff.1 h0
  subst this
  exact conv_nil w
 ·refine conv_range w g 0 l.length cap (ofL l) (ofL_size l) (fun j v hj => ?_)
  rw [Nat.zero_add, cell_of_row w g j _ _ _ h2]
  rw [← h6, List.getElem?_take] at hj
  split at hj
  ·simpa using hj
  ·cases hj
section
variable {w : World} {base d s : Nat} {v : Value} {N : Nat} {sec : Nat → ByteArray} {ws : List (Nat × ByteArray)}
theorem image_any (D : DiskAt w base d s v N sec ws) :
 Calls Tryz.prog 29 #[.pointer (some ⟨d, 0, none⟩)] w fun e w' => ∃ v', e = .returned v' ∧ BytesRow w' w.heap.size v' (imgL sec N) ∧ Below w.heap.size w w' := by
 obtain ⟨i0, hi, hz0, hz1, hz2⟩ := info_parts info_u8
 obtain ⟨Z, hZ, hz⟩ := alloc_sector
 obtain ⟨capS, c0⟩ := D.c0
 have ge := D.ge
 have slen := D.slen
 have secs := D.secs
 go_enter Tryz.func29, Tryz.ntmps29
 go_wp2_with fail
 go_loopw [3, 13] (fun v i wr => ∃ k : Nat, k ≤ N ∧ i = .int .i64 k ∧ wr.ownsRow w.heap.size 5 1 v (k * 1024) (strCells (ofL (imgL sec k))) ∧ Below w.heap.size w wr) (fun _ i _ => N - (intOf i).toNat)
 case atStart => exact ⟨0, by omega, rfl, ⟨rfl, .inl ⟨rfl, rfl⟩⟩, Below.refl _ _⟩
 case round =>
  obtain ⟨k, hk, rfl, hown, hb⟩ := hrel
  by_cases hlt : k < N
  ·have hl : (strCells (sec k)).length = 1024 := by rw [strCells_length, slen k hlt]
   have hld := load_sector wr s (k * 1024) _ hl ((Touch.of_below hb []).range (secs k hlt) (by simp))
   have hst := store_new_sector wr Z hZ _ hl (strCells_oneCell _)
   have ho1 := hown.alloc (.cells (strCells (sec k)).toArray 110)
   have hb1 := hb.alloc hb.size (.cells (strCells (sec k)).toArray 110)
   have hnew := World.news_of_block (heap_alloc_new wr (.cells (strCells (sec k)).toArray 110 (0, 0)))
   have hone := strCells_oneCell (sec k)
   have hcat : strCells (ofL (imgL sec k)) ++ strCells (sec k) = strCells (ofL (imgL sec (k + 1))) := by
    rw [imgL_succ, strCells_ofL, strCells_ofL, List.map_append, strCells_data]
   have HC := hid hcat
   clear hcat
   generalize strCells (sec k) = cs at *
   have HO := hid ho1
   have HB := hid hb1
   have HN := hid hnew
   have H1 := hid hone
   have HL := hid hl
   clear secs hown hb ho1 hb1 hnew hone hl
   go_wp2_with (at_builtin; go_must (refine wpList_append_own _ rfl _ _ 69 rfl w.heap.size 5 i0 (.int .u8 0) 1 1 Tryz.underlying69 hi hz0 hz1 hz2 rfl (by decide) _ _ _ rfl HO.out ⟨wr.heap.size, 0, none⟩ 1024 1024 cs rfl HL.out HN.out ?c2 ?c3 ?c4 ?c5 ?_))
   case c2 => exact H1.out
   case c3 => unfold maxLen; omega
   case c4 => omega
   case c5 => have := HB.out.size; simp at this; first | omega | (simp; omega)
   intro v' w1 hown' hgrow _
   have hb1 := HB.out.grown hgrow (by simp; have := HB.out.size; simp at this; omega) (fun g hg => by
    rcases HO.out.2 with ⟨rfl, _⟩ | ⟨g', cap, cur, rfl, hbase, _⟩
    ·cases hg
    ·simp [Value.ownBlock] at hg; omega)
   rw [HC.out, show k * 1024 + 1024 = (k + 1) * 1024 from by omega] at hown'
   clear hgrow HO HB
   have HO2 := hid hown'
   have HB2 := hid hb1
   clear hown' hb1
   go_wp2_with fail
   go_roundw
   case rel => exact ⟨k + 1, by omega, by go_num, HO2.out, HB2.out⟩
   case measure => simp [intOf]; omega
  ·obtain rfl : k = N := by omega
   go_wp2_with fail
   go_ret
   refine ⟨_, rfl, ?_, hb⟩
   unfold BytesRow
   rw [imgL_length sec k slen k (Nat.le_refl _)]
   exact hown
end
end Go.Proofs.YtgcknekhimpfkaaGreatDoor
