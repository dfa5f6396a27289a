/- A disk as it lies in memory: its sectors in one block, its writes in a row of the call's own. -/
import Derived.Test.YtmamocdkmmkkjaaProg
import Derived.WalkKit
import Derived.ProofKit
import Derived.OwnWalk
import Derived.Deep.MidRow
import Derived.Deep.AppendLies
import Derived.Deep.WholeRow
import Derived.Lib.AppendStr
import Derived.Laws.Cover3
import Derived.Lib.Hide
import Derived.Below
namespace Go.Proofs.Ytmamocdkmmkkjaa
open Go Go.RowKit Go.Lib
set_option linter.unusedVariables false

/-- Of what was there, the blocks of 'row' alone may have changed. -/
structure Touch (w w' : World) (row : List Nat) : Prop where
  os : w'.os = w.os
  tape : w'.tape = w.tape
  output : w'.output = w.output
  size : w.heap.size ≤ w'.heap.size
  block : ∀ k, k < w.heap.size → k ∉ row → w'.heap[k]? = w.heap[k]?
theorem Touch.refl (w : World) (row : List Nat) : Touch w w row := ⟨rfl, rfl, rfl, Nat.le_refl _, fun _ _ _ => rfl⟩
theorem Touch.trans {w w' w'' : World} {r r' : List Nat} (h : Touch w w' r) (k : Touch w' w'' r') (hr : ∀ g ∈ r', g < w.heap.size → g ∈ r) : Touch w w'' r :=
  ⟨k.os.trans h.os, k.tape.trans h.tape, k.output.trans h.output, Nat.le_trans h.size k.size, fun g hg hn => (k.block g (Nat.lt_of_lt_of_le hg h.size) (fun hm => hn (hr g hm hg))).trans (h.block g hg hn)⟩
theorem Touch.mono {w w' : World} {r r' : List Nat} (h : Touch w w' r) (hr : ∀ g ∈ r, g ∈ r') : Touch w w' r' := ⟨h.os, h.tape, h.output, h.size, fun k hk hn => h.block k hk (fun hm => hn (hr k hm))⟩
theorem Touch.below {w w' : World} {r : List Nat} {B : Nat} (h : Touch w w' r) (hB : B ≤ w.heap.size) (hr : ∀ g ∈ r, B ≤ g) : Below B w w' :=
  ⟨h.os, h.tape, h.output, h.size, fun k hk => h.block k (by omega) (fun hm => by have := hr k hm; omega)⟩
theorem Touch.of_below {w w' : World} (h : Below w.heap.size w w') (r : List Nat) : Touch w w' r := ⟨h.os, h.tape, h.output, h.size, fun k hk _ => h.block k hk⟩
theorem Touch.of_grown {w w' : World} {o : Option Nat} (h : w.grownBy w' o) : Touch w w' o.toList :=
  ⟨h.os, h.tape, h.output, h.size, fun k hk hn => h.block k hk (fun e => hn (by rw [← e]; simp))⟩
theorem Touch.set (w : World) (p : Addr) (v : Value) : Touch w (w.setCell p v) [p.block] :=
  ⟨rfl, rfl, rfl, by rw [World.size_setCell]; exact Nat.le_refl _, fun k hk hn => Below.heap_setCell w p v k (by simpa using hn)⟩
theorem Touch.setCells (b : Nat) : ∀ (vs : List Value) (o : Nat) (w : World), Touch w (w.setCells b o vs) [b]
  | [], _, w => Touch.refl w _
  | v :: r, o, w => by rw [World.setCells]; exact (Touch.set w ⟨b, o, none⟩ v).trans (Touch.setCells b r (o + 1) _) (fun g hg _ => hg)
theorem Touch.cell {w w' : World} {r : List Nat} (h : Touch w w' r) {a : Addr} {v : Value} (hc : w.cell? a = some v) (hn : a.block ∉ r) : w'.cell? a = some v := by
  rw [World.cell?_of_block (h.block a.block (World.block_lt_of_cell? w a hc) hn)]; exact hc
theorem Touch.frozen {w w' : World} {r : List Nat} (h : Touch w w' r) {a : Addr} {v : Value} (hc : w.cell? a = some v) (hn : a.block ∉ r) : w'.frozen? a = w.frozen? a :=
  World.frozen?_of_block (h.block a.block (World.block_lt_of_cell? w a hc) hn)
theorem Touch.range {w w' : World} {r : List Nat} (h : Touch w w' r) {b o : Nat} {cs : List Value} (hc : w.rangeAt b o cs) (hn : b ∉ r) : w'.rangeAt b o cs := fun j v hv => h.cell (hc j v hv) hn
theorem Touch.there {w w' : World} {r : List Nat} (h : Touch w w' r) {b o n : Nat} (hc : w.there b o n) (hn : b ∉ r) : w'.there b o n := fun j hj => by
  obtain ⟨h1, h2⟩ := hc j hj
  obtain ⟨u, hu⟩ := Option.isSome_iff_exists.1 h1
  exact ⟨by rw [h.cell hu hn]; rfl, by rw [h.frozen hu hn]; exact h2⟩
theorem Touch.owns {w w' : World} {r : List Nat} (h : Touch w w' r) {base : Nat} {e : TypeId} {size : Nat} {v : Value} {n : Nat} {xs : List Value} (ho : w.ownsRow base e size v n xs) (hn : ∀ g, v.ownBlock = some g → g ∉ r) : w'.ownsRow base e size v n xs := by
  refine ⟨ho.1, ?_⟩
  rcases ho.2 with hv | ⟨g, cap, cur, rfl, h1, h2, h3⟩
  · exact .inl hv
  · refine .inr ⟨g, cap, cur, rfl, h1, ?_, h3⟩
    rw [h.block g (by have := (Array.getElem?_eq_some_iff.1 h2).1; exact this) (hn g rfl)]; exact h2

/-- The writes, cell by cell. -/
def wcells : List (Nat × ByteArray) → List Value
  | [] => []
  | (n, c) :: r => .int .i64 n :: strCells c ++ wcells r
theorem wcells_append (a b : List (Nat × ByteArray)) : wcells (a ++ b) = wcells a ++ wcells b := by
  induction a with
  | nil => rfl
  | cons x a ih => obtain ⟨n, c⟩ := x; simp [wcells, ih]

structure DiskAt (w : World) (base d s : Nat) (v : Value) (N : Nat) (sec : Nat → ByteArray) (ws : List (Nat × ByteArray)) : Prop where
  c0 : ∃ cap, w.cell? ⟨d, 0, none⟩ = some (.slice (some ⟨s, 0, none⟩) N cap)
  c1 : w.cell? ⟨d, 1, none⟩ = some v
  f1 : w.frozen? ⟨d, 1, none⟩ = false
  secs : ∀ i, i < N → w.rangeAt s (i * 1024) (strCells (sec i))
  there : ∀ i, i < N → w.there s (i * 1024) 1024
  slen : ∀ i, i < N → (sec i).size = 1024
  wlen : ∀ p ∈ ws, p.2.size = 1024
  win : ∀ p ∈ ws, p.1 < N
  writes : w.ownsRow base 85 1025 v ws.length (wcells ws)
  few : ws.length ≤ 4096
  le : 8 ≤ N
  ge : N ≤ 1024
  ds : d ≠ s
  vd : v.ownBlock ≠ some d
  vs : v.ownBlock ≠ some s
  bd : base ≤ d
  bs : base ≤ s
theorem DiskAt.dlt {w : World} {base d s : Nat} {v : Value} {N : Nat} {sec : Nat → ByteArray} {ws : List (Nat × ByteArray)} (h : DiskAt w base d s v N sec ws) : d < w.heap.size := h.c0.elim fun _ h0 => World.block_lt_of_cell? w ⟨d, 0, none⟩ h0
theorem DiskAt.slt {w : World} {base d s : Nat} {v : Value} {N : Nat} {sec : Nat → ByteArray} {ws : List (Nat × ByteArray)} (h : DiskAt w base d s v N sec ws) : s < w.heap.size := by
  obtain ⟨u, hu⟩ := Option.isSome_iff_exists.1 (h.there 0 (by have := h.le; omega) 0 (by decide)).1
  exact World.block_lt_of_cell? w _ hu
theorem DiskAt.vlt {w : World} {base d s : Nat} {v : Value} {N : Nat} {sec : Nat → ByteArray} {ws : List (Nat × ByteArray)} (h : DiskAt w base d s v N sec ws) (g : Nat) (hg : v.ownBlock = some g) : g < w.heap.size ∧ base ≤ g := by
  rcases h.writes.2 with hv | ⟨g', cap, cur, rfl, h1, h2, h3⟩
  · rw [hv.1] at hg; cases hg
  · obtain rfl : g' = g := by simpa [Value.ownBlock] using hg
    exact ⟨(Array.getElem?_eq_some_iff.1 h2).1, h1⟩
/-- Elsewhere something changed: the disk stands. -/
theorem DiskAt.touch {w w' : World} {r : List Nat} {base d s : Nat} {v : Value} {N : Nat} {sec : Nat → ByteArray} {ws : List (Nat × ByteArray)} (h : DiskAt w base d s v N sec ws) (t : Touch w w' r) (hd : d ∉ r) (hs : s ∉ r) (hv : ∀ g, v.ownBlock = some g → g ∉ r) : DiskAt w' base d s v N sec ws :=
  { h with
    c0 := h.c0.elim fun c h0 => ⟨c, t.cell h0 hd⟩
    c1 := t.cell h.c1 hd
    f1 := by rw [t.frozen h.c1 hd]; exact h.f1
    secs := fun i hi => t.range (h.secs i hi) hs
    there := fun i hi => t.there (h.there i hi) hs
    writes := t.owns h.writes hv }
theorem DiskAt.below {w w' : World} {base d s : Nat} {v : Value} {N : Nat} {sec : Nat → ByteArray} {ws : List (Nat × ByteArray)} (h : DiskAt w base d s v N sec ws) (t : Below w.heap.size w w') : DiskAt w' base d s v N sec ws :=
  h.touch (Touch.of_below t []) (by simp) (by simp) (by simp)
/-- The disk's own blocks. -/
def drow (d s : Nat) (v : Value) : List Nat := d :: s :: v.ownBlock.toList
end Go.Proofs.Ytmamocdkmmkkjaa
