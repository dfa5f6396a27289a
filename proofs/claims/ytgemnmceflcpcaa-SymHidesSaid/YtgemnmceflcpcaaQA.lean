/- A block that is known whole, by name: what a variable of a struct's type reads as. No program in sight. -/
import Derived.WalkKit
import Derived.Deep.MidRow
import Derived.Deep.Draws
import Derived.WalkSmall
import Derived.OpenShut
import Derived.Handy
import Derived.OwnWalk
import Derived.Deep.AppendLies
import Derived.Deep.WholeRow
import Derived.Lib.Hide
import Derived.Below
import Derived.Maps.OwnOps
import Derived.Maps.Views
import Derived.Maps.AppendAt
namespace Go.Proofs.Ytgemnmceflcpcaa
open Go Go.RowKit

/-- The cells of block g. -/
def rowOf (w : World) (g : Nat) : Array Value := match w.heap[g]? with | some (.cells cs _ _) => cs | _ => #[]
theorem rowOf_block {w w' : World} {g : Nat} (h : w'.heap[g]? = w.heap[g]?) : rowOf w' g = rowOf w g := by unfold rowOf; rw [h]
theorem rowOf_below {B : Nat} {w w' : World} (hb : Below B w w') {g : Nat} (hg : g < B) : rowOf w' g = rowOf w g := rowOf_block (hb.block g hg)
theorem rowOf_new (w : World) (cs : Array Value) (t : TypeId) (fr : Nat × Nat) : rowOf (w.alloc (.cells cs t fr)) w.heap.size = cs := by unfold rowOf; rw [heap_alloc_new]
theorem rowOf_old (w : World) (o : Obj) {g : Nat} (hg : g < w.heap.size) : rowOf (w.alloc o) g = rowOf w g := rowOf_block (Below.heap_alloc w o g hg)
theorem rowOf_drew (w : World) (g : Nat) : rowOf w.drew g = rowOf w g := rfl
theorem rowOf_drewN (w : World) (n g : Nat) : rowOf (w.drewN n) g = rowOf w g := rfl
theorem rowOf_far (w : World) {p : Addr} (v : Value) {g : Nat} (hg : g ≠ p.block) : rowOf (w.setCell p v) g = rowOf w g := rowOf_block (Below.heap_setCell w p v g hg)
theorem rowOf_set (w : World) (g i : Nat) (v : Value) : rowOf (w.setCell ⟨g, i, none⟩ v) g = (rowOf w g).setIfInBounds i v := by
  unfold rowOf
  cases h : w.heap[g]? with
  | none => simp [World.setCell, Array.getElem?_modify, h]
  | some o => cases o <;> simp [World.setCell, Array.getElem?_modify, h]
theorem cell_rowOf (w : World) (g i : Nat) : w.cell? ⟨g, i, none⟩ = (rowOf w g)[i]? := by
  unfold rowOf World.cell?
  cases h : w.heap[g]? with
  | none => simp
  | some o => cases o <;> simp
theorem range_rowOf (w : World) (g : Nat) : w.rangeAt g 0 (rowOf w g).toList := fun j v hj => by
  rw [Nat.zero_add, cell_rowOf]; simpa using hj
theorem load_rowOf {P : Program} (w : World) (g : Nat) (ty : TypeId) (d : TypeDesc) (n : Nat) (hu : P.underlying ty = some d) (hd : d.isRow = true) (hi : (P.info? ty).map (·.size) = some n) (h : (rowOf w g).size = n) :
    (Instr.loadAt ty (.pointer (some ⟨g, 0, none⟩))).run P w = .ok (.agg (rowOf w g)) w := by
  have := run_loadAt_mid (P := P) w g 0 ty (rowOf w g).toList d (range_rowOf w g) hu hd (by rw [hi, ← h]; simp)
  simpa using this
/-- A struct's variable, read whole: by a name of its own, so that the walk does not open it cell by cell. -/
def loadWhole (ty : TypeId) (v : Value) : Sem Value := Instr.loadAt ty v
theorem run_loadWhole {P : Program} (w : World) (g : Nat) (ty : TypeId) (d : TypeDesc) (n : Nat) (hu : P.underlying ty = some d) (hd : d.isRow = true) (hi : (P.info? ty).map (·.size) = some n) (h : (rowOf w g).size = n) :
    (loadWhole ty (.pointer (some ⟨g, 0, none⟩))).run P w = .ok (.agg (rowOf w g)) w := load_rowOf w g ty d n hu hd hi h
end Go.Proofs.Ytgemnmceflcpcaa
namespace Go.Proofs.Ytgemnmceflcpcaa
open Go Go.RowKit

/-- Block g holds just these cells, none of them frozen. -/
def Blk (w : World) (g : Nat) (cs : Array Value) (t : TypeId) : Prop := w.heap[g]? = some (.cells cs t (0, 0))
theorem Blk.lt {w : World} {g : Nat} {cs : Array Value} {t : TypeId} (h : Blk w g cs t) : g < w.heap.size := (Array.getElem?_eq_some_iff.1 h).1
theorem Blk.cell {w : World} {g : Nat} {cs : Array Value} {t : TypeId} (h : Blk w g cs t) (j : Nat) : w.cell? ⟨g, j, none⟩ = cs[j]? := cell_of_row w g j cs t _ h
theorem Blk.frozen {w : World} {g : Nat} {cs : Array Value} {t : TypeId} (h : Blk w g cs t) (j : Nat) : w.frozen? ⟨g, j, none⟩ = false := frozen_of_row w g j cs t h
theorem Blk.row {w : World} {g : Nat} {cs : Array Value} {t : TypeId} (h : Blk w g cs t) : rowOf w g = cs := by unfold rowOf; rw [h]
theorem Blk.below {B : Nat} {w w' : World} {g : Nat} {cs : Array Value} {t : TypeId} (h : Blk w g cs t) (b : Below B w w') (hg : g < B) : Blk w' g cs t := (b.block g hg).trans h
theorem Blk.step {w w' : World} {g : Nat} {cs : Array Value} {t : TypeId} (h : Blk w g cs t) (b : Below w.heap.size w w') : Blk w' g cs t := h.below b h.lt
theorem Blk.new (w : World) (cs : Array Value) (t : TypeId) : Blk (w.alloc (.cells cs t)) w.heap.size cs t := heap_alloc_new w _
theorem Blk.old {w : World} {g : Nat} {cs : Array Value} {t : TypeId} (h : Blk w g cs t) (o : Obj) : Blk (w.alloc o) g cs t := (Below.heap_alloc w o g h.lt).trans h
theorem Blk.drew {w : World} {g : Nat} {cs : Array Value} {t : TypeId} (h : Blk w g cs t) : Blk w.drew g cs t := h
theorem Blk.drewN {w : World} {g : Nat} {cs : Array Value} {t : TypeId} (h : Blk w g cs t) (n : Nat) : Blk (w.drewN n) g cs t := h
theorem Blk.far {w : World} {g : Nat} {cs : Array Value} {t : TypeId} (h : Blk w g cs t) {p : Addr} (hp : g ≠ p.block) (v : Value) : Blk (w.setCell p v) g cs t := (heap_setCell_other w p g v hp).trans h
theorem Blk.set {w : World} {g : Nat} {cs : Array Value} {t : TypeId} (h : Blk w g cs t) (i : Nat) (v : Value) : Blk (w.setCell ⟨g, i, none⟩ v) g (cs.setIfInBounds i v) t := heap_setCell_same w g i cs t v h
theorem Blk.setRow {w : World} {g : Nat} {cs : Array Value} {t : TypeId} (h : Blk w g cs t) (X : Array Value) : Blk (w.setRow g X) g X t := setRow_heap w g cs X t _ h
theorem Blk.farRow {w : World} {g k : Nat} {cs : Array Value} {t : TypeId} (h : Blk w g cs t) (hk : g ≠ k) (X : Array Value) : Blk (w.setRow k X) g cs t := (setRow_other w k g X hk).trans h
theorem belRow {B : Nat} {a w : World} (h : Below B a w) {g : Nat} (hg : B ≤ g) (X : Array Value) : Below B a (w.setRow g X) :=
  h.trans ⟨rfl, rfl, rfl, by simp, fun k hk => setRow_other w g k X (by omega)⟩
/-- Every value of one cell. -/
def OneRow (X : Array Value) : Prop := ∀ v ∈ X, v.oneCell' = true
theorem OneRow.set {X : Array Value} (h : OneRow X) (i : Nat) {v : Value} (hv : v.oneCell' = true) : OneRow (X.setIfInBounds i v) := fun x hx => by
  rcases Array.mem_or_eq_of_mem_setIfInBounds hx with hx | hx
  · exact h x hx
  · rw [hx]; exact hv
theorem run_loadRow {P : Program} {w : World} {g : Nat} {t : TypeId} {cs : Array Value} (h : Blk w g cs t) (ty : TypeId) (d : TypeDesc) (hu : P.underlying ty = some d) (hd : d.isRow = true) (hi : (P.info? ty).map (·.size) = some cs.size) :
    (Instr.loadAt ty (.pointer (some ⟨g, 0, none⟩))).run P w = .ok (.agg cs) w := by
  have := load_rowOf (P := P) w g ty d cs.size hu hd hi (by rw [h.row])
  rwa [h.row] at this
theorem run_loadVarRow {P : Program} {w : World} {g : Nat} {t : TypeId} {cs : Array Value} (h : Blk w g cs t) (ty : TypeId) (d : TypeDesc) (hu : P.underlying ty = some d) (hd : d.isRow = true) (hi : (P.info? ty).map (·.size) = some cs.size) :
    (loadVar ty ⟨g, 0, none⟩).run P w = .ok (.agg cs) w := by
  have := run_loadRow h ty d hu hd hi
  simpa only [Instr.loadAt, Instr.sureAddr, Sem.run_bind, Sem.run_pure, Result.andThen_ok] using this
theorem run_storeRow {P : Program} {w : World} {g : Nat} {t : TypeId} {old cs : Array Value} (h : Blk w g old t) (ty : TypeId) (hi : (P.info? ty).map (·.size) = some cs.size) (ho : old.size = cs.size) (h1 : OneRow cs) :
    (Instr.storeAt ty (.pointer (some ⟨g, 0, none⟩)) (.agg cs)).run P w = .ok () (w.setRow g cs) := by
  simp only [Instr.storeAt, Instr.sureAddr, Sem.run_bind, Sem.run_pure, Result.andThen_ok]
  exact run_storeVar_row w g t ty old cs h hi ho (by rw [Array.all_eq_true_iff_forall_mem]; exact h1)
theorem three {w w1 : World} {A B C : Array Value} {ta tb tc : TypeId} (hb : Below (((w.alloc (.cells A ta)).alloc (.cells B tb)).alloc (.cells C tc)).heap.size (((w.alloc (.cells A ta)).alloc (.cells B tb)).alloc (.cells C tc)) w1) :
    Blk w1 w.heap.size A ta ∧ Blk w1 (w.heap.size + 1) B tb ∧ Blk w1 (w.heap.size + 1 + 1) C tc ∧ w.heap.size + 3 ≤ w1.heap.size ∧ Below w.heap.size w w1 := by
  have h1 := Blk.new w A ta
  have h2 := Blk.new (w.alloc (.cells A ta)) B tb
  have h3 := Blk.new ((w.alloc (.cells A ta)).alloc (.cells B tb)) C tc
  simp only [World.size_alloc] at h2 h3
  have hs := hb.size
  simp only [World.size_alloc] at hs
  refine ⟨((h1.old _).old _).step hb, (h2.old _).step hb, h3.step hb, hs, ?_⟩
  exact Below.trans ((((Below.refl _ _).alloc (Nat.le_refl _) _).alloc (by simp) _).alloc (by simp; omega) _) (hb.mono (by simp; omega))
theorem alloc_setRow (w : World) (Z cs : Array Value) (t : TypeId) : (w.alloc (.cells Z t)).setRow w.heap.size cs = w.alloc (.cells cs t) := by
  unfold World.setRow World.alloc
  congr 1
  apply Array.ext
  · simp
  · intro k h1 h2
    simp only [Array.getElem_modify, Array.getElem_push]
    by_cases hk : k < w.heap.size
    · rw [if_neg (by omega)]; simp [hk]
    · have : k = w.heap.size := by simp at h2; omega
      subst this
      simp
/-- By names of their own, so that the walk does not open them cell by cell. -/
def storeWhole (ty : TypeId) (p v : Value) : Sem Unit := Instr.storeAt ty p v
end Go.Proofs.Ytgemnmceflcpcaa
namespace Go.Proofs.Ytgemnmceflcpcaa
open Go Go.RowKit Go.Lib
set_option linter.unusedVariables false
/-- Of what was there, the blocks of 'row' alone may have changed. -/
structure Touch (w w' : World) (row : List Nat) : Prop where
  os : w'.os = w.os
  tape : w'.tape = w.tape
  output : w'.output = w.output
  size : w.heap.size ≤ w'.heap.size
  block : ∀ k, k < w.heap.size → k ∉ row → w'.heap[k]? = w.heap[k]?
theorem Touch.refl (w : World) (row : List Nat) : Touch w w row := ⟨rfl, rfl, rfl, Nat.le_refl _, fun _ _ _ => rfl⟩
theorem Touch.trans {w w' w'' : World} {r r' : List Nat} (h : Touch w w' r) (k : Touch w' w'' r') (hr : ∀ g ∈ r', g < w.heap.size → g ∈ r) : Touch w w'' r :=
  ⟨k.os.trans h.os, k.tape.trans h.tape, k.output.trans h.output, Nat.le_trans h.size k.size, fun g hg hn => (k.block g (Nat.lt_of_lt_of_le hg h.size) (fun hm => hn (hr g hm hg))).trans (h.block g hg hn)⟩
theorem Touch.mono {w w' : World} {r r' : List Nat} (h : Touch w w' r) (hr : ∀ g ∈ r, g ∈ r') : Touch w w' r' := ⟨h.os, h.tape, h.output, h.size, fun k hk hn => h.block k hk (fun hm => hn (hr k hm))⟩
theorem Touch.below {w w' : World} {r : List Nat} {B : Nat} (h : Touch w w' r) (hB : B ≤ w.heap.size) (hr : ∀ g ∈ r, B ≤ g) : Below B w w' :=
  ⟨h.os, h.tape, h.output, h.size, fun k hk => h.block k (by omega) (fun hm => by have := hr k hm; omega)⟩
theorem Touch.of_below {w w' : World} (h : Below w.heap.size w w') (r : List Nat) : Touch w w' r := ⟨h.os, h.tape, h.output, h.size, fun k hk _ => h.block k hk⟩
theorem Touch.of_grown {w w' : World} {o : Option Nat} (h : w.grownBy w' o) : Touch w w' o.toList :=
  ⟨h.os, h.tape, h.output, h.size, fun k hk hn => h.block k hk (fun e => hn (by rw [← e]; simp))⟩
theorem Touch.set (w : World) (p : Addr) (v : Value) : Touch w (w.setCell p v) [p.block] :=
  ⟨rfl, rfl, rfl, by rw [World.size_setCell]; exact Nat.le_refl _, fun k hk hn => Below.heap_setCell w p v k (by simpa using hn)⟩
theorem Touch.setCells (b : Nat) : ∀ (vs : List Value) (o : Nat) (w : World), Touch w (w.setCells b o vs) [b]
  | [], _, w => Touch.refl w _
  | v :: r, o, w => by rw [World.setCells]; exact (Touch.set w ⟨b, o, none⟩ v).trans (Touch.setCells b r (o + 1) _) (fun g hg _ => hg)
theorem Touch.cell {w w' : World} {r : List Nat} (h : Touch w w' r) {a : Addr} {v : Value} (hc : w.cell? a = some v) (hn : a.block ∉ r) : w'.cell? a = some v := by
  rw [World.cell?_of_block (h.block a.block (World.block_lt_of_cell? w a hc) hn)]; exact hc
theorem Touch.frozen {w w' : World} {r : List Nat} (h : Touch w w' r) {a : Addr} {v : Value} (hc : w.cell? a = some v) (hn : a.block ∉ r) : w'.frozen? a = w.frozen? a :=
  World.frozen?_of_block (h.block a.block (World.block_lt_of_cell? w a hc) hn)
theorem Touch.range {w w' : World} {r : List Nat} (h : Touch w w' r) {b o : Nat} {cs : List Value} (hc : w.rangeAt b o cs) (hn : b ∉ r) : w'.rangeAt b o cs := fun j v hv => h.cell (hc j v hv) hn
theorem Touch.there {w w' : World} {r : List Nat} (h : Touch w w' r) {b o n : Nat} (hc : w.there b o n) (hn : b ∉ r) : w'.there b o n := fun j hj => by
  obtain ⟨h1, h2⟩ := hc j hj
  obtain ⟨u, hu⟩ := Option.isSome_iff_exists.1 h1
  exact ⟨by rw [h.cell hu hn]; rfl, by rw [h.frozen hu hn]; exact h2⟩
theorem Touch.owns {w w' : World} {r : List Nat} (h : Touch w w' r) {base : Nat} {e : TypeId} {size : Nat} {v : Value} {n : Nat} {xs : List Value} (ho : w.ownsRow base e size v n xs) (hn : ∀ g, v.ownBlock = some g → g ∉ r) : w'.ownsRow base e size v n xs := by
  refine ⟨ho.1, ?_⟩
  rcases ho.2 with hv | ⟨g, cap, cur, rfl, h1, h2, h3⟩
  · exact .inl hv
  · refine .inr ⟨g, cap, cur, rfl, h1, ?_, h3⟩
    rw [h.block g (by have := (Array.getElem?_eq_some_iff.1 h2).1; exact this) (hn g rfl)]; exact h2

theorem Touch.blk {w w' : World} {r : List Nat} (h : Touch w w' r) {g : Nat} {cs : Array Value} {t : TypeId} (hb : Blk w g cs t) (hn : g ∉ r) : Blk w' g cs t := (h.block g hb.lt hn).trans hb
theorem Touch.map {H : Type} {P : Program} {k : TypeId} {R : Value → Option (DataW H × List MemPlace)} {w w' : World} {r : List Nat} {b n : Nat} {D : DataW H} (h : Touch w w' r) (hm : w.ownsMap P k R b n D) (hn : b ∉ r) : w'.ownsMap P k R b n D := by
  have hlt := hm.lt
  obtain ⟨es, clock, hb, F, hs, hD⟩ := hm
  exact ⟨es, clock, (h.block b hlt hn).trans hb, F, hs, hD⟩
theorem Touch.alloc (w : World) (o : Obj) : Touch w (w.alloc o) [] := Touch.of_below ((Below.refl _ _).alloc (Nat.le_refl _) _) _
theorem Touch.row (w : World) (g : Nat) (X : Array Value) : Touch w (w.setRow g X) [g] :=
  ⟨rfl, rfl, rfl, by simp, fun k hk hn => setRow_other w g k X (by simpa using hn)⟩
theorem Touch.drewN (w : World) (n : Nat) : Touch w (w.drewN n) [] := ⟨rfl, rfl, rfl, Nat.le_refl _, fun _ _ _ => rfl⟩
end Go.Proofs.Ytgemnmceflcpcaa
