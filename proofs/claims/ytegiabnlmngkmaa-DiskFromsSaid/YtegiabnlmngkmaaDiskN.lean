/- The document's disk as it lies in memory; New. -/
import Derived.Test.YtegiabnlmngkmaaDiskM
import Derived.Handy
import Derived.Deep.RegionLaw
import Derived.Deep.DrawnRows
import Derived.BigRegion
namespace Go.Proofs.Ytegiabnlmngkmaa
open Go Go.RowKit Go.Lib
set_option linter.unusedVariables false
set_option linter.unusedSimpArgs false
attribute [local go_sem ↓] Go.wp_at_zero Go.wp_at_succ
/-- What was written, cell by cell. -/
def rcells : List (Nat × ByteArray) → List Value
  | [] => []
  | (n, c) :: r => .int .i64 n :: .string c :: rcells r
theorem rcells_append (a b : List (Nat × ByteArray)) : rcells (a ++ b) = rcells a ++ rcells b := by
  induction a with
  | nil => rfl
  | cons x a ih => obtain ⟨n, c⟩ := x; simp [rcells, ih]
structure RefAt (w : World) (base r : Nat) (vf vw : Value) (N : Nat) (sec0 : Nat → ByteArray) (hist : List (Nat × ByteArray)) : Prop where
  c0 : w.cell? ⟨r, 0, none⟩ = some vf
  c1 : w.cell? ⟨r, 1, none⟩ = some vw
  f0 : w.frozen? ⟨r, 0, none⟩ = false
  f1 : w.frozen? ⟨r, 1, none⟩ = false
  first : w.ownsRow base 9 1 vf N ((List.range N).map fun i => .string (sec0 i))
  writes : w.ownsRow base 68 2 vw hist.length (rcells hist)
  br : base ≤ r
  rf : vf.ownBlock ≠ some r
  rw_ : vw.ownBlock ≠ some r
  fw : ∀ g, vf.ownBlock = some g → vw.ownBlock ≠ some g
theorem RefAt.rlt {w : World} {base r : Nat} {vf vw : Value} {N : Nat} {sec0 : Nat → ByteArray} {hist : List (Nat × ByteArray)} (h : RefAt w base r vf vw N sec0 hist) : r < w.heap.size := World.block_lt_of_cell? w ⟨r, 0, none⟩ h.c0
theorem own_lt {w : World} {base : Nat} {e : TypeId} {size : Nat} {v : Value} {n : Nat} {xs : List Value} (h : w.ownsRow base e size v n xs) (g : Nat) (hg : v.ownBlock = some g) : g < w.heap.size ∧ base ≤ g := by
  rcases h.2 with hv | ⟨g', cap, cur, rfl, h1, h2, h3⟩
  · rw [hv.1] at hg; cases hg
  · obtain rfl : g' = g := by simpa [Value.ownBlock] using hg
    exact ⟨(Array.getElem?_eq_some_iff.1 h2).1, h1⟩
theorem RefAt.touch {w w' : World} {row : List Nat} {base r : Nat} {vf vw : Value} {N : Nat} {sec0 : Nat → ByteArray} {hist : List (Nat × ByteArray)} (h : RefAt w base r vf vw N sec0 hist) (t : Touch w w' row) (hr : r ∉ row) (hf : ∀ g, vf.ownBlock = some g → g ∉ row) (hw : ∀ g, vw.ownBlock = some g → g ∉ row) : RefAt w' base r vf vw N sec0 hist :=
  { h with
    c0 := t.cell h.c0 hr
    c1 := t.cell h.c1 hr
    f0 := by rw [t.frozen h.c0 hr]; exact h.f0
    f1 := by rw [t.frozen h.c1 hr]; exact h.f1
    first := t.owns h.first hf
    writes := t.owns h.writes hw }
theorem RefAt.below {w w' : World} {base r : Nat} {vf vw : Value} {N : Nat} {sec0 : Nat → ByteArray} {hist : List (Nat × ByteArray)} (h : RefAt w base r vf vw N sec0 hist) (t : Below w.heap.size w w') : RefAt w' base r vf vw N sec0 hist :=
  h.touch (Touch.of_below t []) (by simp) (by simp) (by simp)
/-- Its own blocks. -/
def rrow (r : Nat) (vf vw : Value) : List Nat := r :: (vf.ownBlock.toList ++ vw.ownBlock.toList)
theorem noughts_any (w : World) : Calls Try.prog 25 #[] w fun e w' => e = .returned (.string nought) ∧ Below w.heap.size w w' := by
  obtain ⟨i0, hi, hz0, hz1, hz2⟩ := info_parts info_u8
  obtain ⟨k, hk⟩ : ∃ k : Nat, (k : Int) = 1024 := ⟨1024, rfl⟩
  have HK := Lib.hid hk
  clear hk
  go_enter Try.func25, Try.ntmps25
  go_wp2_with (first | (at_make; refine wpList_make_full _ rfl _ _ 30 rfl w.heap.size 5 i0 _ 1 Try.underlying30 hi hz0 hz1 .i64 .i64 1024 1024 k rfl rfl ?m1 ?m2 ?m3 ?m4 (by simp) ?_))
  case m1 => have := HK.out; omega
  case m2 => have := HK.out; omega
  case m3 => have := HK.out; first | omega | (rw [hz2]; omega)
  case m4 => have := HK.out; unfold maxLen; first | omega | (rw [hz2]; omega)
  intro w1 hown hgrow
  have hblk := made_block (C := madeCells #[Value.int .u8 0] k) hown (by rw [Nat.mul_one]; exact size_madeCells _ _)
  have hb1 : Below w.heap.size w w1 := (Below.refl w.heap.size w).grown hgrow (Nat.le_refl _) (fun _ h => by cases h)
  have hb0 := made_bytes w1 _ _ hblk
  have hn : ofL (List.replicate k 0) = nought := by
    unfold ofL nought noughts
    have : k = 1024 := by have := HK.out; omega
    rw [this, List.toArray_replicate]
  have hcv := conv_bytes (cap := k) (List.length_replicate) hb0
  rw [hn] at hcv
  clear hown hgrow hblk hi hb0 hn
  go_wp2_with fail
  go_ret
  exact ⟨rfl, hb1⟩
end Go.Proofs.Ytegiabnlmngkmaa
