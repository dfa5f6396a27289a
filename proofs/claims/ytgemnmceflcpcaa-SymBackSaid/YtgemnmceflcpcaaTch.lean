/- What a step may have changed. No program in sight. -/
import Derived.WalkKit
import Derived.OwnWalk
import Derived.Deep.MidRow
import Derived.Deep.AppendLies
import Derived.Deep.WholeRow
import Derived.Lib.Hide
import Derived.Below
import Derived.Maps.OwnOps
import Derived.Maps.Views
import Derived.Maps.AppendAt
import Derived.Test.YtgemnmceflcpcaaRow2
namespace Go.Proofs.Ytgemnmceflcpcaa
open Go Go.RowKit Go.Lib
set_option linter.unusedVariables false
/-- Of what was there, the blocks of 'row' alone may have changed. -/
structure Touch (w w' : World) (row : List Nat) : Prop where
  os : w'.os = w.os
  tape : w'.tape = w.tape
  output : w'.output = w.output
  size : w.heap.size ≤ w'.heap.size
  block : ∀ k, k < w.heap.size → k ∉ row → w'.heap[k]? = w.heap[k]?
theorem Touch.refl (w : World) (row : List Nat) : Touch w w row := ⟨rfl, rfl, rfl, Nat.le_refl _, fun _ _ _ => rfl⟩
theorem Touch.trans {w w' w'' : World} {r r' : List Nat} (h : Touch w w' r) (k : Touch w' w'' r') (hr : ∀ g ∈ r', g < w.heap.size → g ∈ r) : Touch w w'' r :=
  ⟨k.os.trans h.os, k.tape.trans h.tape, k.output.trans h.output, Nat.le_trans h.size k.size, fun g hg hn => (k.block g (Nat.lt_of_lt_of_le hg h.size) (fun hm => hn (hr g hm hg))).trans (h.block g hg hn)⟩
theorem Touch.mono {w w' : World} {r r' : List Nat} (h : Touch w w' r) (hr : ∀ g ∈ r, g ∈ r') : Touch w w' r' := ⟨h.os, h.tape, h.output, h.size, fun k hk hn => h.block k hk (fun hm => hn (hr k hm))⟩
theorem Touch.below {w w' : World} {r : List Nat} {B : Nat} (h : Touch w w' r) (hB : B ≤ w.heap.size) (hr : ∀ g ∈ r, B ≤ g) : Below B w w' :=
  ⟨h.os, h.tape, h.output, h.size, fun k hk => h.block k (by omega) (fun hm => by have := hr k hm; omega)⟩
theorem Touch.of_below {w w' : World} (h : Below w.heap.size w w') (r : List Nat) : Touch w w' r := ⟨h.os, h.tape, h.output, h.size, fun k hk _ => h.block k hk⟩
theorem Touch.of_grown {w w' : World} {o : Option Nat} (h : w.grownBy w' o) : Touch w w' o.toList :=
  ⟨h.os, h.tape, h.output, h.size, fun k hk hn => h.block k hk (fun e => hn (by rw [← e]; simp))⟩
theorem Touch.set (w : World) (p : Addr) (v : Value) : Touch w (w.setCell p v) [p.block] :=
  ⟨rfl, rfl, rfl, by rw [World.size_setCell]; exact Nat.le_refl _, fun k hk hn => Below.heap_setCell w p v k (by simpa using hn)⟩
theorem Touch.setCells (b : Nat) : ∀ (vs : List Value) (o : Nat) (w : World), Touch w (w.setCells b o vs) [b]
  | [], _, w => Touch.refl w _
  | v :: r, o, w => by rw [World.setCells]; exact (Touch.set w ⟨b, o, none⟩ v).trans (Touch.setCells b r (o + 1) _) (fun g hg _ => hg)
theorem Touch.cell {w w' : World} {r : List Nat} (h : Touch w w' r) {a : Addr} {v : Value} (hc : w.cell? a = some v) (hn : a.block ∉ r) : w'.cell? a = some v := by
  rw [World.cell?_of_block (h.block a.block (World.block_lt_of_cell? w a hc) hn)]; exact hc
theorem Touch.frozen {w w' : World} {r : List Nat} (h : Touch w w' r) {a : Addr} {v : Value} (hc : w.cell? a = some v) (hn : a.block ∉ r) : w'.frozen? a = w.frozen? a :=
  World.frozen?_of_block (h.block a.block (World.block_lt_of_cell? w a hc) hn)
theorem Touch.range {w w' : World} {r : List Nat} (h : Touch w w' r) {b o : Nat} {cs : List Value} (hc : w.rangeAt b o cs) (hn : b ∉ r) : w'.rangeAt b o cs := fun j v hv => h.cell (hc j v hv) hn
theorem Touch.there {w w' : World} {r : List Nat} (h : Touch w w' r) {b o n : Nat} (hc : w.there b o n) (hn : b ∉ r) : w'.there b o n := fun j hj => by
  obtain ⟨h1, h2⟩ := hc j hj
  obtain ⟨u, hu⟩ := Option.isSome_iff_exists.1 h1
  exact ⟨by rw [h.cell hu hn]; rfl, by rw [h.frozen hu hn]; exact h2⟩
theorem Touch.owns {w w' : World} {r : List Nat} (h : Touch w w' r) {base : Nat} {e : TypeId} {size : Nat} {v : Value} {n : Nat} {xs : List Value} (ho : w.ownsRow base e size v n xs) (hn : ∀ g, v.ownBlock = some g → g ∉ r) : w'.ownsRow base e size v n xs := by
  refine ⟨ho.1, ?_⟩
  rcases ho.2 with hv | ⟨g, cap, cur, rfl, h1, h2, h3⟩
  · exact .inl hv
  · refine .inr ⟨g, cap, cur, rfl, h1, ?_, h3⟩
    rw [h.block g (by have := (Array.getElem?_eq_some_iff.1 h2).1; exact this) (hn g rfl)]; exact h2

theorem Touch.blk {w w' : World} {r : List Nat} (h : Touch w w' r) {g : Nat} {cs : Array Value} {t : TypeId} (hb : Blk w g cs t) (hn : g ∉ r) : Blk w' g cs t := (h.block g hb.lt hn).trans hb
theorem Touch.map {H : Type} {P : Program} {k : TypeId} {R : Value → Option (DataW H × List MemPlace)} {w w' : World} {r : List Nat} {b n : Nat} {D : DataW H} (h : Touch w w' r) (hm : w.ownsMap P k R b n D) (hn : b ∉ r) : w'.ownsMap P k R b n D := by
  have hlt := hm.lt
  obtain ⟨es, clock, hb, F, hs, hD⟩ := hm
  exact ⟨es, clock, (h.block b hlt hn).trans hb, F, hs, hD⟩
theorem Touch.alloc (w : World) (o : Obj) : Touch w (w.alloc o) [] := Touch.of_below ((Below.refl _ _).alloc (Nat.le_refl _) _) _
theorem Touch.row (w : World) (g : Nat) (X : Array Value) : Touch w (w.setRow g X) [g] :=
  ⟨rfl, rfl, rfl, by simp, fun k hk hn => setRow_other w g k X (by simpa using hn)⟩
theorem Touch.drewN (w : World) (n : Nat) : Touch w (w.drewN n) [] := ⟨rfl, rfl, rfl, Nat.le_refl _, fun _ _ _ => rfl⟩
end Go.Proofs.Ytgemnmceflcpcaa
