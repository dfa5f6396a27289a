/- A disk keeps what was written. -/
import Derived.Test.YtegiabnlmngkmaaDiskE
import Derived.Laws.BytesArg
namespace Go.Proofs.Ytegiabnlmngkmaa
open Go Go.RowKit Go.Lib
set_option linter.unusedVariables false
theorem strOfNums_self (s : ByteArray) : strOfNums (s.data.toList.map fun b => (b.toNat : Int)) = s := by
  unfold strOfNums
  cases s with
  | mk d =>
    congr 1
    apply Array.toList_inj.1
    simp only [List.map_map]
    rw [show ((fun x : Int => UInt8.ofNat x.toNat) ∘ fun b : UInt8 => (b.toNat : Int)) = id from by funext b; simp]
    simp
/-- Bytes that lie in a range, as a string. -/
theorem conv_range (w : World) (b o n cap : Nat) (s : ByteArray) (hs : s.size = n) (h : w.rangeAt b o (strCells s)) :
    (convert 30 9 (.slice (some ⟨b, o, none⟩) n cap)).run Try.prog w = .ok (.string s) w := by
  have := run_convert_bytes_arg (P := Try.prog) w 30 5 Try.underlying30 Try.underlying5 b o n cap (s.data.toList.map fun b => (b.toNat : Int)) (by simpa using hs) (fun i hi => by
    refine h i _ ?_
    have hi2 : i < s.data.size := by have : s.data.size = s.size := rfl; omega
    simp [strCells, List.getD, Array.getElem?_eq_getElem hi2]) 9 Try.underlying9
  rw [strOfNums_self] at this
  exact this
theorem conv_bytes {w : World} {g n cap : Nat} {l : List UInt8} (hn : l.length = n) (h : BytesAt w g l) :
    (convert 30 9 (.slice (some ⟨g, 0, none⟩) n cap)).run Try.prog w = .ok (.string (ofL l)) w := conv_range w g 0 n cap (ofL l) (by rw [ofL_size, hn]) h.range
/-- A sector that was read lies in a block of its own. -/
theorem read_range (w : World) (s : ByteArray) (t : TypeId) : (w.alloc (.cells (strCells s).toArray t (0, 0))).rangeAt w.heap.size 0 (strCells s) := fun j v hj => by
  rw [Nat.zero_add, cell_of_row _ w.heap.size j _ _ _ (heap_alloc_new w _)]; simpa using hj
section
variable {w : World} {base d s : Nat} {v : Value} {N : Nat} {sec : Nat → ByteArray} {ws : List (Nat × ByteArray)}
theorem write_bytes (D : DiskAt w base d s v N sec ws) (n : Nat) (hn : n < N) (few : ws.length < 4096) (g : Nat) (l : List UInt8) (hl : l.length = 1024) (hb : BytesAt w g l) (hg : g ∉ drow d s v) :
    Calls Try.prog 11 #[.pointer (some ⟨d, 0, none⟩), .int .i64 (n : Int), .slice (some ⟨g, 0, none⟩) 1024 1024] w fun e w' => e = .returned (.int .i64 0) ∧ ∃ v', DiskAt w' base d s v' N (upd sec n (ofL l)) (ws ++ [(n, sec n)]) ∧ Touch w w' (drow d s v) ∧ (∀ g, v'.ownBlock = some g → v.ownBlock = some g ∨ w.heap.size ≤ g) :=
  write_yes D n hn few g 0 1024 (ofL l) (by rw [ofL_size, hl]) (Nat.le_refl _) hb.range hg
end
theorem shown_any (w : World) : Calls Try.prog 9 #[] w fun e w' => e = .returned (.bool true) ∧ Below w.heap.size w w' := by
  obtain ⟨i0, hi, hz0, hz1, hz2⟩ := info_parts info_u8
  obtain ⟨k, hk⟩ : ∃ k : Nat, (k : Int) = 1024 := ⟨1024, rfl⟩
  have HK := Lib.hid hk
  clear hk
  go_enter Try.func9, Try.ntmps9
  go_wp2_with (first | (go_at_call 10; refine (new_yes 8 _ (by decide) (by decide)).mono ?_; rintro e w1 ⟨d, s, rfl, D, hb1⟩) | (at_make; refine wpList_make_full _ rfl _ _ 30 rfl w1.heap.size 5 i0 _ 1 Try.underlying30 hi hz0 hz1 .i64 .i64 1024 1024 k rfl rfl ?m1 ?m2 ?m3 ?m4 (by simp) ?_))
  case m1 => have := HK.out; omega
  case m2 => have := HK.out; omega
  case m3 => have := HK.out; first | omega | (rw [hz2]; omega)
  case m4 => have := HK.out; unfold maxLen; first | omega | (rw [hz2]; omega)
  intro w2 hown hgrow
  have hblk := made_block (C := madeCells #[Value.int .u8 0] k) hown (by rw [Nat.mul_one]; exact size_madeCells _ _)
  have hb2 : Below w1.heap.size w1 w2 := (Below.refl w1.heap.size w1).grown hgrow (Nat.le_refl _) (fun _ h => by cases h)
  obtain ⟨l, hl, hb0⟩ : ∃ l : List UInt8, l.length = 1024 ∧ BytesAt w2 w1.heap.size l := ⟨_, by have := HK.out; simp; omega, made_bytes w2 _ _ hblk⟩
  clear hown hgrow hblk hi
  obtain rfl : k = 1024 := by have := HK.out; omega
  clear HK
  have D2 := D.below hb2
  have hdl := D.dlt
  have hsl := D.slt
  obtain ⟨u, hcl⟩ : ∃ u, w2.cell? ⟨w1.heap.size, 5, none⟩ = some u := ⟨_, hb0.cell (j := 5) (by omega)⟩
  have hfr := hb0.frozen 5
  have hset : BytesAt (w2.setCell ⟨w1.heap.size, 5, none⟩ (.int .u8 9)) w1.heap.size (l.set 5 9) := hb0.set 5 9
  have D3 := D2.touch (Touch.set w2 ⟨w1.heap.size, 5, none⟩ (.int .u8 9)) (by simp; omega) (by simp; omega) (by simp [Value.ownBlock])
  have hT3 := Touch.set w2 ⟨w1.heap.size, 5, none⟩ (.int .u8 9)
  have hl2 : (l.set 5 9).length = 1024 := by simpa using hl
  generalize l.set 5 9 = l2 at hset hl2
  have hng : w1.heap.size ∉ drow d s (.slice none 0 0) := by simp [drow, Value.ownBlock]; omega
  have hb3 : Below w.heap.size w (w2.setCell ⟨w1.heap.size, 5, none⟩ (.int .u8 9)) := (hb1.trans (hb2.mono hb1.size)).setCell hb1.size _
  have hsz : (w2.setCell ⟨w1.heap.size, 5, none⟩ (.int .u8 9)).heap.size = w2.heap.size := World.size_setCell _ _ _
  have hsz2 := hb0.lt
  clear hb1 hb2 D D2 hb0 hT3
  go_wp2_with fail
  generalize w2.setCell ⟨w1.heap.size, 5, none⟩ (.int .u8 9) = w3 at *
  clear hcl hfr
  go_at_call 11
  refine (write_bytes D3 3 (by decide) (by decide) _ l2 hl2 hset hng).mono ?_
  rintro e w4 ⟨rfl, v4, D4, T4, hv4⟩
  have hset4 := hset.touch T4 hng
  have hb4 := hb3.trans (T4.below hb3.size (fun g hg => by
    simp only [drow, List.mem_cons, Value.ownBlock, Option.toList_none, List.not_mem_nil, or_false] at hg
    rcases hg with rfl | rfl
    · exact D3.bd
    · exact D3.bs))
  have hsu : upd (fun _ => nought) 3 (ofL l2) 3 = ofL l2 := rfl
  clear hset T4 hb3 D3
  go_wp2_with (first | (go_at_call 13; refine (read_yes D4 3 (by decide)).mono ?_; rintro e w5 ⟨rfl, rfl⟩; rw [hsu]; have hc1 := conv_range _ w4.heap.size 0 1024 1024 (ofL l2) (by rw [ofL_size, hl2]) (read_range w4 (ofL l2) 63); have hc2 := conv_bytes (cap := 1024) hl2 (hset4.below ((Below.refl w4.heap.size w4).alloc (Nat.le_refl _) (.cells (strCells (ofL l2)).toArray 63 (0, 0))) hset4.lt)))
  go_ret
  exact ⟨by simp, hb4.alloc hb4.size _⟩
end Go.Proofs.Ytegiabnlmngkmaa
