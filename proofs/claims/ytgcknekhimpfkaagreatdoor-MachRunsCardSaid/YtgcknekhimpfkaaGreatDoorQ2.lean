/- The document's machine as it lies in memory. -/
import Derived.Test.YtgcknekhimpfkaaGreatDoorRBusK
import Derived.Test.YtgcknekhimpfkaaGreatDoorQM
import Derived.Test.YtgcknekhimpfkaaGreatDoorAccR
import Derived.Deep.RegionHeld3
import Derived.Test.YtgcknekhimpfkaaGreatDoorRefL
import Derived.Test.YtgcknekhimpfkaaGreatDoorRefE
import Derived.Test.YtgcknekhimpfkaaGreatDoorMachG
import Derived.Deep.Cut
import Derived.Test.YtgcknekhimpfkaaGreatDoorQK
import Derived.Deep.QuietTactic
open List renaming getElem_toArray → lA, getElem_cons_zero → lB, getElem_cons_succ → lC
set_option maxHeartbeats 4000000
namespace Go.Proofs.YtgcknekhimpfkaaGreatDoor
open Go Go.RowKit Go.Lib Go.Proofs.YtgcknekhimpfkaaGreatDoor.Pl
set_option linter.unusedVariables false
set_option linter.unusedSimpArgs false
/-- The document's machine's own. -/
structure RMC where
 cs : Array Value
 cut : Int
 st : Int
structure RMRow (R : Array Value) (b : Nat) (y : RMC) : Prop where
 size : R.size = 25
 cpu : ∀ k, k < 22 → R[k]? = y.cs[k]?
 bus : R[22]? = some (.pointer (some ⟨b, 0, none⟩))
 cut : R[23]? = some (.int .i64 y.cut)
 st : R[24]? = some (.int .i64 y.st)
theorem RMRow.setSt {R : Array Value} {b : Nat} {y : RMC} (h : RMRow R b y) (g : Int) : RMRow (R.setIfInBounds 24 (.int .i64 g)) b { y with st := g } :=
 { size := by simp [h.size]
   bus := by rw [Array.getElem?_setIfInBounds_ne (by omega)]; exact h.bus
   cpu := fun k hk => by rw [Array.getElem?_setIfInBounds_ne (by omega)]; exact h.cpu k hk
   cut := by rw [Array.getElem?_setIfInBounds_ne (by omega)]; exact h.cut
   st := by rw [Array.getElem?_setIfInBounds_self_of_lt (by rw [h.size]; omega)] }
theorem RMRow.setCut {R : Array Value} {b : Nat} {y : RMC} (h : RMRow R b y) (g : Int) : RMRow (R.setIfInBounds 23 (.int .i64 g)) b { y with cut := g } :=
 { size := by simp [h.size]
   bus := by rw [Array.getElem?_setIfInBounds_ne (by omega)]; exact h.bus
   cpu := fun k hk => by rw [Array.getElem?_setIfInBounds_ne (by omega)]; exact h.cpu k hk
   cut := by rw [Array.getElem?_setIfInBounds_self_of_lt (by rw [h.size]; omega)]
   st := by rw [Array.getElem?_setIfInBounds_ne (by omega)]; exact h.st }
theorem RMRow.setPc {R : Array Value} {b : Nat} {y : RMC} (h : RMRow R b y) (hc : y.cs.size = 22) (p : Value) : RMRow (R.setIfInBounds 21 p) b { y with cs := y.cs.setIfInBounds 21 p } :=
 { size := by simp [h.size]
   bus := by rw [Array.getElem?_setIfInBounds_ne (by omega)]; exact h.bus
   cpu := fun k hk => by
    rcases Nat.lt_or_ge k 21 with g | g
    ·rw [Array.getElem?_setIfInBounds_ne (by omega), Array.getElem?_setIfInBounds_ne (by omega)]; exact h.cpu k hk
    ·obtain rfl : k = 21 := by omega
     rw [Array.getElem?_setIfInBounds_self_of_lt (by rw [h.size]; omega), Array.getElem?_setIfInBounds_self_of_lt (by rw [hc]; omega)]
   cut := by rw [Array.getElem?_setIfInBounds_ne (by omega)]; exact h.cut
   st := by rw [Array.getElem?_setIfInBounds_ne (by omega)]; exact h.st }
theorem RMRow.setCpu {R R' : Array Value} {b : Nat} {y : RMC} (h : RMRow R b y) {X : Array Value} (hX : X.size = 22) (hs : R'.size = R.size) (hr : ∀ j, R'[j]? = if 0 ≤ j ∧ j < 0 + X.toList.length then X.toList[j - 0]? else R[j]?) : RMRow R' b { y with cs := X } := by
 have hl : X.toList.length = 22 := by simp [hX]
 rw [hl] at hr
 exact { size := by rw [hs]; exact h.size
         bus := by rw [hr, if_neg (by omega)]; exact h.bus
         cpu := fun k hk => by rw [hr, if_pos (by omega), Nat.sub_zero, Array.getElem?_toList]
         cut := by rw [hr, if_neg (by omega)]; exact h.cut
         st := by rw [hr, if_neg (by omega)]; exact h.st }
structure RMachAt (w : World) (base g : Nat) (u : RV) (x : BS) (y : RMC) (hist : List (Nat × ByteArray)) : Prop where
 row : ∃ R, Blk w g R 61 ∧ RMRow R u.b y
 ok : CpuOk y.cs
 bus : RBusAt w base u x (fun _ => nought) hist
 ap : g ∉ rbrow u
 lo : base ≤ g
/-- Of what was there, the machine's own blocks alone may have changed. -/
structure RMMoves (w w' : World) (g : Nat) (u u' : RV) : Prop where
 t : Touch w w' (g :: rbrow u)
 n : ∀ k ∈ rbrow u', k ∈ rbrow u ∨ w.heap.size ≤ k
 k : u'.b = u.b ∧ u'.m = u.m ∧ u'.r = u.r
theorem RMMoves.refl (w : World) (g : Nat) (u : RV) : RMMoves w w g u u := ⟨Touch.refl _ _, fun k h => .inl h, ⟨rfl, rfl, rfl⟩⟩
theorem RMMoves.trans {w w' w'' : World} {g : Nat} {u u' u'' : RV} (h : RMMoves w w' g u u') (k : RMMoves w' w'' g u' u'') : RMMoves w w'' g u u'' :=
 ⟨h.t.trans k.t (fun j hj hl => by
  rcases List.mem_cons.1 hj with rfl | hj
  ·exact List.mem_cons_self
  ·rcases h.n j hj with h' | h'
   ·exact List.mem_cons_of_mem _ h'
   ·omega), fun j hj => (k.n j hj).elim (fun h' => h.n j h') (fun h' => .inr (Nat.le_trans h.t.size h')), ⟨k.k.1.trans h.k.1, k.k.2.1.trans h.k.2.1, k.k.2.2.trans h.k.2.2⟩⟩
theorem RMMoves.of {w w' : World} {g : Nat} {u u' : RV} (h : RMoves w w' u u') : RMMoves w w' g u u' := ⟨h.t.mono (fun j hj => List.mem_cons_of_mem _ hj), h.n, h.k⟩
theorem RMMoves.below {w w' : World} {g : Nat} {u : RV} (h : Below w.heap.size w w') : RMMoves w w' g u u := .of (RMoves.of_below u h)
theorem RMMoves.set (w : World) (g j : Nat) (u : RV) (a : Value) : RMMoves w (w.setCell ⟨g, j, none⟩ a) g u u := ⟨(Touch.set w ⟨g, j, none⟩ a).mono (by simp), fun k h => .inl h, ⟨rfl, rfl, rfl⟩⟩
theorem RMMoves.setCells (w : World) (g o : Nat) (u : RV) (us : List Value) : RMMoves w (w.setCells g o us) g u u := ⟨(Touch.setCells g us o w).mono (by simp), fun k h => .inl h, ⟨rfl, rfl, rfl⟩⟩
theorem RMMoves.free {w w' : World} {g j : Nat} {u u' : RV} (h : RMMoves w w' g u u') (hj : j < w.heap.size) (hn : j ∉ g :: rbrow u) : j ∉ g :: rbrow u' := fun hm => by
 rcases List.mem_cons.1 hm with rfl | hm
 ·exact hn List.mem_cons_self
 ·rcases h.n j hm with h1 | h1
  ·exact hn (List.mem_cons_of_mem _ h1)
  ·omega
section
variable {w w' : World} {base g : Nat} {u u' : RV} {x x' : BS} {y : RMC} {hist hist' : List (Nat × ByteArray)}
theorem RMachAt.glt (M : RMachAt w base g u x y hist) : g < w.heap.size := by
 obtain ⟨R, h, _⟩ := M.row
 exact h.lt
theorem RMachAt.lts (M : RMachAt w base g u x y hist) : ∀ k ∈ g :: rbrow u, base ≤ k ∧ k < w.heap.size := fun k hk => by
 rcases List.mem_cons.1 hk with rfl | hk
 ·exact ⟨M.lo, M.glt⟩
 ·exact M.bus.lt k hk
/-- The bus moved. -/
theorem RMachAt.moved (M : RMachAt w base g u x y hist) (B : RBusAt w' base u' x' (fun _ => nought) hist') (h : RMoves w w' u u') : RMachAt w' base g u' x' y hist' := by
 obtain ⟨R, h1, h2⟩ := M.row
 refine ⟨⟨R, (h.t.block g M.glt M.ap).trans h1, by rw [h.k.1]; exact h2⟩, M.ok, B, fun hm => ?_, M.lo⟩
 rcases h.n g hm with h3 | h3
 ·exact M.ap h3
 ·have := M.glt; omega
theorem RMachAt.step (M : RMachAt w base g u x y hist) (h : Below w.heap.size w w') : RMachAt w' base g u x y hist := M.moved (M.bus.below h) (RMoves.of_below u h)
/-- Elsewhere something changed. -/
theorem RMachAt.touch (M : RMachAt w base g u x y hist) {r : List Nat} (t : Touch w w' r) (h : ∀ k ∈ g :: rbrow u, k ∉ r) : RMachAt w' base g u x y hist := by
 obtain ⟨R, h3, h4⟩ := M.row
 exact ⟨⟨R, (t.block g M.glt (h g List.mem_cons_self)).trans h3, h4⟩, M.ok, M.bus.touch t (fun k hk => h k (List.mem_cons_of_mem _ hk)), M.ap, M.lo⟩
/-- The machine's own cells. -/
theorem RMachAt.cells (M : RMachAt w base g u x y hist) : w.cell? ⟨g, 22, none⟩ = some (.pointer (some ⟨u.b, 0, none⟩)) ∧ w.cell? ⟨g, 23, none⟩ = some (.int .i64 y.cut) ∧ w.cell? ⟨g, 24, none⟩ = some (.int .i64 y.st) := by
 obtain ⟨R, h1, h2⟩ := M.row
 exact ⟨(h1.cell 22).trans h2.bus, (h1.cell 23).trans h2.cut, (h1.cell 24).trans h2.st⟩
theorem RMachAt.frozen (M : RMachAt w base g u x y hist) (j : Nat) : w.frozen? ⟨g, j, none⟩ = false := by
 obtain ⟨R, h1, h2⟩ := M.row
 exact h1.frozen j
theorem RMachAt.pcCell (M : RMachAt w base g u x y hist) {p : Int} (hp : y.cs[21]? = some (.int .u32 p)) : w.cell? ⟨g, 21, none⟩ = some (.int .u32 p) := by
 obtain ⟨R, h1, h2⟩ := M.row
 exact (h1.cell 21).trans ((h2.cpu 21 (by omega)).trans hp)
theorem RMachAt.cpuRange (M : RMachAt w base g u x y hist) : w.rangeAt g 0 y.cs.toList := by
 obtain ⟨R, h1, h2⟩ := M.row
 intro j a hj
 have hl : j < 22 := by
  have := (List.getElem?_eq_some_iff.1 hj).1
  rw [Array.length_toList, M.ok.size] at this
  exact this
 rw [Nat.zero_add, h1.cell j, h2.cpu j hl, ← Array.getElem?_toList]
 exact hj
theorem RMachAt.cpuThere (M : RMachAt w base g u x y hist) : w.there g 0 22 := by
 obtain ⟨R, h1, h2⟩ := M.row
 intro j hj
 refine ⟨?_, h1.frozen _⟩
 rw [Nat.zero_add, h1.cell j, Array.getElem?_eq_getElem (by rw [h2.size]; omega)]
 rfl
theorem RMachAt.loadCpu (M : RMachAt w base g u x y hist) : (loadWhole 50 (.pointer (some ⟨g, 0, none⟩))).run Tryz.prog w = .ok (.agg y.cs) w := by
 have := run_loadAt_mid (P := Tryz.prog) w g 0 50 y.cs.toList _ M.cpuRange Tryz.underlying50 rfl (by rw [Array.length_toList, M.ok.size]; kernel_rfl)
 rw [Array.toArray_toList] at this
 exact this
theorem RMachAt.storeCpu (M : RMachAt w base g u x y hist) {X : Array Value} (hX : CpuOk X) : (storeWhole 50 (.pointer (some ⟨g, 0, none⟩)) (.agg X)).run Tryz.prog w = .ok () (w.setCells g 0 X.toList) :=
 run_storeAt_mid (P := Tryz.prog) w g 0 50 X (by rw [hX.size]; exact M.cpuThere) (by rw [hX.size]; kernel_rfl) (by rw [Array.all_eq_true_iff_forall_mem]; exact hX.one)
theorem RMachAt.setCpu (M : RMachAt w base g u x y hist) {X : Array Value} (hX : CpuOk X) : RMachAt (w.setCells g 0 X.toList) base g u x { y with cs := X } hist := by
 obtain ⟨R, h1, h2⟩ := M.row
 obtain ⟨R', k1, k2, k3⟩ := Blk.setCells X.toList 0 w R h1 (by rw [h2.size, Array.length_toList, hX.size]; omega)
 exact ⟨⟨R', k1, h2.setCpu hX.size k2 k3⟩, hX, M.bus.touch (Touch.setCells g _ 0 w) (fun k hk hm => M.ap ((show k = g by simpa using hm) ▸ hk)), M.ap, M.lo⟩
theorem RMachAt.own (M : RMachAt w base g u x y hist) (j : Nat) (a : Value) {y' : RMC} (ok : CpuOk y'.cs) (h : ∀ R b, RMRow R b y → RMRow (R.setIfInBounds j a) b y') : RMachAt (w.setCell ⟨g, j, none⟩ a) base g u x y' hist := by
 obtain ⟨R, h1, h2⟩ := M.row
 exact ⟨⟨_, h1.set j a, h R _ h2⟩, ok, M.bus.touch (Touch.set w ⟨g, j, none⟩ a) (fun k hk hm => M.ap ((show k = g by simpa using hm) ▸ hk)), M.ap, M.lo⟩
theorem RMachAt.setSt (M : RMachAt w base g u x y hist) (a : Int) : RMachAt (w.setCell ⟨g, 24, none⟩ (.int .i64 a)) base g u x { y with st := a } hist := M.own 24 _ M.ok fun R b h => h.setSt a
theorem RMachAt.setCut (M : RMachAt w base g u x y hist) (a : Int) : RMachAt (w.setCell ⟨g, 23, none⟩ (.int .i64 a)) base g u x { y with cut := a } hist := M.own 23 _ M.ok fun R b h => h.setCut a
theorem RMachAt.setPc (M : RMachAt w base g u x y hist) (p : Int) (p0 : 0 ≤ p) (p1 : p < 4294967296) : RMachAt (w.setCell ⟨g, 21, none⟩ (.int .u32 p)) base g u x { y with cs := y.cs.setIfInBounds 21 (.int .u32 p) } hist :=
 M.own 21 _ (ok_setPc M.ok p p0 p1) fun R b h => h.setPc M.ok.size _
end
/-- The machine within a walk. -/
structure RW (w0 w : World) (base g : Nat) (u0 u : RV) (x : BS) (y : RMC) (hist : List (Nat × ByteArray)) : Prop where
 mach : RMachAt w base g u x y hist
 mv : RMMoves w0 w g u0 u
 tab : Tab w
 pos : 0 < base
/-- A block of one's own beside it. -/
structure RSide (w0 w : World) (g : Nat) (u : RV) (h : Nat) (X : Array Value) (t : TypeId) : Prop where
 blk : Blk w h X t
 fr : h ∉ g :: rbrow u
 lo : w0.heap.size ≤ h
section
variable {w0 w w' : World} {base g : Nat} {u0 u u' : RV} {x x' : BS} {y y' : RMC} {hist hist' : List (Nat × ByteArray)} {h : Nat} {X : Array Value} {t : TypeId}
theorem RW.mm (R : RW w0 w base g u0 u x y hist) (M : RMachAt w' base g u' x' y' hist') (h : RMMoves w w' g u u') : RW w0 w' base g u0 u' x' y' hist' := by
 refine ⟨M, R.mv.trans h, ?_, R.pos⟩
 intro k hk
 refine h.t.cell (R.tab k hk) (fun hm => ?_)
 have h9 := (R.mach.lts _ hm).1
 have := R.pos
 have h8 : base ≤ 0 := h9
 omega
theorem RW.step (R : RW w0 w base g u0 u x y hist) (h : Below w.heap.size w w') : RW w0 w' base g u0 u x y hist := R.mm (R.mach.step h) (RMMoves.below h)
theorem RW.drew (R : RW w0 w base g u0 u x y hist) (n : Nat) : RW w0 (w.drewN n) base g u0 u x y hist := R.step ⟨rfl, rfl, rfl, Nat.le_refl _, fun _ _ => rfl⟩
theorem RW.alloc (R : RW w0 w base g u0 u x y hist) (o : Obj) : RW w0 (w.alloc o) base g u0 u x y hist := R.step ((Below.refl _ _).alloc (Nat.le_refl _) o)
theorem RW.bus (R : RW w0 w base g u0 u x y hist) (B : RBusAt w' base u' x' (fun _ => nought) hist') (h : RMoves w w' u u') : RW w0 w' base g u0 u' x' y hist' := R.mm (R.mach.moved B h) (.of h)
theorem RW.le (R : RW w0 w base g u0 u x y hist) : w0.heap.size ≤ w.heap.size := R.mv.t.size
theorem RSide.new (R : RW w0 w base g u0 u x y hist) (X : Array Value) (t : TypeId) : RSide w0 (w.alloc (.cells X t)) g u w.heap.size X t :=
 ⟨Blk.new w X t, fun hm => absurd (R.mach.lts _ hm).2 (Nat.lt_irrefl _), R.le⟩
theorem RSide.mm (S : RSide w0 w g u h X t) (m : RMMoves w w' g u u') : RSide w0 w' g u' h X t := ⟨(m.t.block h S.blk.lt S.fr).trans S.blk, m.free S.blk.lt S.fr, S.lo⟩
theorem RSide.step (S : RSide w0 w g u h X t) (m : Below w.heap.size w w') : RSide w0 w' g u h X t := S.mm (RMMoves.below m)
theorem RSide.alloc (S : RSide w0 w g u h X t) (o : Obj) : RSide w0 (w.alloc o) g u h X t := S.step ((Below.refl _ _).alloc (Nat.le_refl _) o)
theorem RSide.drew (S : RSide w0 w g u h X t) (n : Nat) : RSide w0 (w.drewN n) g u h X t := S.step ⟨rfl, rfl, rfl, Nat.le_refl _, fun _ _ => rfl⟩
theorem RSide.setRow (S : RSide w0 w g u h X t) (X' : Array Value) : RSide w0 (w.setRow h X') g u h X' t := ⟨S.blk.setRow X', S.fr, S.lo⟩
theorem RSide.farRow {k : Nat} (S : RSide w0 w g u h X t) (hk : h ≠ k) (X' : Array Value) : RSide w0 (w.setRow k X') g u h X t := ⟨S.blk.farRow hk X', S.fr, S.lo⟩
theorem RSide.set (S : RSide w0 w g u h X t) (j : Nat) (a : Value) : RSide w0 (w.setCell ⟨h, j, none⟩ a) g u h (X.setIfInBounds j a) t := ⟨S.blk.set j a, S.fr, S.lo⟩
theorem RSide.far {k j : Nat} (S : RSide w0 w g u h X t) (hk : h ≠ k) (a : Value) : RSide w0 (w.setCell ⟨k, j, none⟩ a) g u h X t := ⟨S.blk.far (p := ⟨k, j, none⟩) (by simpa using hk) a, S.fr, S.lo⟩
theorem RW.side (R : RW w0 w base g u0 u x y hist) (S : RSide w0 w g u h X t) (hz : 0 < h) (T : Touch w w' [h]) : RW w0 w' base g u0 u x y hist := by
 refine ⟨R.mach.touch T (fun k hk hm => S.fr ((show k = h by simpa using hm) ▸ hk)), ⟨R.mv.t.trans T (fun k hk hl => absurd hl (Nat.not_lt.2 ((show k = h by simpa using hk) ▸ S.lo))), R.mv.n, R.mv.k⟩, ?_, R.pos⟩
 intro k hk
 refine T.cell (R.tab k hk) (fun hm => ?_)
 have h9 : (0 : Nat) = h := by simpa using hm
 omega
theorem RW.sideRow (R : RW w0 w base g u0 u x y hist) (S : RSide w0 w g u h X t) (hz : 0 < h) (X' : Array Value) : RW w0 (w.setRow h X') base g u0 u x y hist := R.side S hz ⟨rfl, rfl, rfl, by simp, fun k _ hk => setRow_other w h k X' (by simpa using hk)⟩
theorem RW.sideSet (R : RW w0 w base g u0 u x y hist) (S : RSide w0 w g u h X t) (hz : 0 < h) (j : Nat) (a : Value) : RW w0 (w.setCell ⟨h, j, none⟩ a) base g u0 u x y hist := R.side S hz (Touch.set w ⟨h, j, none⟩ a)
theorem RW.setSt (R : RW w0 w base g u0 u x y hist) (a : Int) : RW w0 (w.setCell ⟨g, 24, none⟩ (.int .i64 a)) base g u0 u x { y with st := a } hist := R.mm (R.mach.setSt a) (RMMoves.set _ _ _ _ _)
theorem RW.setPc (R : RW w0 w base g u0 u x y hist) (p : Int) (p0 : 0 ≤ p) (p1 : p < 4294967296) : RW w0 (w.setCell ⟨g, 21, none⟩ (.int .u32 p)) base g u0 u x { y with cs := y.cs.setIfInBounds 21 (.int .u32 p) } hist := R.mm (R.mach.setPc p p0 p1) (RMMoves.set _ _ _ _ _)
theorem RW.setCpu (R : RW w0 w base g u0 u x y hist) {X : Array Value} (hX : CpuOk X) : RW w0 (w.setCells g 0 X.toList) base g u0 u x { y with cs := X } hist := R.mm (R.mach.setCpu hX) (RMMoves.setCells _ _ _ _ _)
theorem RSide.setOwn (S : RSide w0 w g u h X t) (j : Nat) (a : Value) : RSide w0 (w.setCell ⟨g, j, none⟩ a) g u h X t := S.mm (RMMoves.set _ _ _ _ _)
theorem RSide.setOwnCells (S : RSide w0 w g u h X t) (o : Nat) (us : List Value) : RSide w0 (w.setCells g o us) g u h X t := S.mm (RMMoves.setCells _ _ _ _ _)
theorem RW.word (R : RW w0 w base g u0 u x y hist) (a : Int) (h0 : 0 ≤ a) (h1 : a < 1048576) (h4 : a % 4 = 0) {z : Int} (hz : getV x.M a.toNat = z) :
 Calls Tryz.prog 23 #[.pointer (some ⟨u.b, 0, none⟩), .int .u32 a] w fun e w' => e = .returned (.tuple #[.int .u32 z, .bool true]) ∧ w = w' := by subst hz; exact rword_yes R.mach.bus a h0 h1 h4
theorem RW.poke (R : RW w0 w base g u0 u x y hist) (a z : Int) (h0 : 0 ≤ a) (h1 : a < 1048576) (h4 : a % 4 = 0) (z0 : 0 ≤ z) (z1 : z < 4294967296) :
 Calls Tryz.prog 95 #[.pointer (some ⟨u.b, 0, none⟩), .int .u32 a, .int .u32 z] w fun e w' => e = .returned (.bool true) ∧ RW w0 w' base g u0 u { x with M := laid4 x.M a.toNat z } y hist ∧ RMMoves w w' g u u :=
 (rpoke_yes R.mach.bus a z h0 h1 h4 z0 z1).mono fun e w' ⟨h1, h2, h3⟩ => ⟨h1, R.bus h2 h3, .of h3⟩
theorem RW.act (R : RW w0 w base g u0 u x y hist) {k a z l h : Int} {x' : BS} (hq : x.act k a z = (l, h, x')) (a0 : 0 ≤ a) (a1 : a < 4294967296) (z0 : 0 ≤ z) (z1 : z < 4294967296) :
 Calls Tryz.prog 66 #[.pointer (some ⟨u.b, 0, none⟩), .agg #[.int .i64 k, .int .u32 a, .int .u32 z]] w fun e w' => e = .returned (.tuple #[.int .u32 l, .int .i64 h]) ∧ ∃ u' hist', RW w0 w' base g u0 u' x' y hist' ∧ RMMoves w w' g u u' := by
 have := rdo_any R.mach.bus k a z a0 a1 z0 z1
 unfold RDoes RDid at this
 rw [hq] at this
 refine this.mono ?_
 rintro e w' ⟨rfl, u', hist', B, h⟩
 exact ⟨rfl, u', hist', R.bus B h, .of h⟩
end
attribute [local go_sem ↓] exec_load_end exec_store_end
/-- What a step, or a trap's, leaves. -/
def ROut (w w' : World) (base g : Nat) (u : RV) (y : RMC) (o : MOut) (e : Ending) : Prop := match o with
 | .stop k t a s x' => e = .returned (.tuple #[.agg (endA k t a 0), .bool true]) ∧ ∃ u' hist', RMachAt w' base g u' x' { y with st := y.st + (s : Int) } hist' ∧ RMMoves w w' g u u'
 | .go cs' x' _ => e = .returned (.tuple #[.agg (endA 0 0 0 0), .bool false]) ∧ ∃ u' hist', RMachAt w' base g u' x' { y with cs := cs', st := y.st + 1 } hist' ∧ RMMoves w w' g u u'
section
variable {w : World} {base g : Nat} {u : RV} {x : BS} {y : RMC} {hist : List (Nat × ByteArray)}
theorem RW.out {w' : World} {u' : RV} {x' : BS} {y' : RMC} {hist' : List (Nat × ByteArray)} (R : RW w w' base g u u' x' y' hist') : ∃ u' hist', RMachAt w' base g u' x' y' hist' ∧ RMMoves w w' g u u' := ⟨_, _, R.mach, R.mv⟩
set_option maxRecDepth 100000 in
theorem rtrap_halt (M : RMachAt w base g u x y hist) (hT : Tab w) (hpos : 0 < base) (s0 : 0 ≤ y.st) (s1 : y.st ≤ 9000000000000000000) :
 Calls Tryz.prog 69 #[.pointer (some ⟨g, 0, none⟩), .int .i64 0] w fun e w' => e = .returned (.tuple #[.agg (endA 3 0 0 0), .bool true]) ∧ ∃ u' hist', RMachAt w' base g u' x { y with st := y.st + 1 } hist' ∧ RMMoves w w' g u u' := by
 obtain ⟨z, hz⟩ : ∃ z, getV x.M (16 : Int).toNat = z := ⟨_, rfl⟩
 have HZ := hid hz
 clear hz
 go_enter Tryz.func69, Tryz.ntmps69
 go_upto_region 1 with fail
 have RI := show RW w w base g u u x y hist from ⟨M, RMMoves.refl _ _ _, hT, hpos⟩
 have R0 := hid (RI.alloc (.cells zEnd 46))
 have S0 := hid (RSide.new RI zEnd 46)
 have hz0 : 0 < w.heap.size := Nat.lt_of_le_of_lt (Nat.zero_le _) hT.lt
 have hrg : w.heap.size ≠ g := Nat.ne_of_gt M.glt
 clear RI M hT
 change Code.wp _ _ _ _ (w.alloc (.cells zEnd 46))
 generalize w.alloc (.cells zEnd 46) = W at R0 S0 ⊢
 generalize w.heap.size = r at S0 hz0 hrg ⊢
 have c24 := R0.out.mach.cells.2.2
 have f24 := R0.out.mach.frozen 24
 have hwr : IntKind.i64.wrap (y.st + 1) = y.st + 1 := IntWalk.i64_in _ (by omega)
 go_upto_region 2 with fail
 have R1 := hid (R0.out.setSt (y.st + 1))
 have S1 := hid (S0.out.setOwn 24 (.int .i64 (y.st + 1)))
 clear R0 S0 c24 f24 hwr
 generalize W.setCell ⟨g, 24, none⟩ (.int .i64 (y.st + 1)) = W1 at R1 S1 ⊢
 have c22 := R1.out.mach.cells.1
 go_upto_region 4 with (go_at_call 23; refine (R1.out.word 16 (by decide) (by decide) (by decide) HZ.out).mono ?_; rintro e w1 ⟨rfl, rfl⟩)
 have hst : (storeWhole 46 (.pointer (some ⟨r, 0, none⟩)) (.agg #[.int .i64 3, .int .i64 0, .int .u32 0, .int .i64 0])).run Tryz.prog W1 = .ok () (W1.setRow r (endA 3 0 0 0)) := store_end (k := 3) (t := 0) (a := 0) (s := 0) S1.out.blk rfl
 have hres := loadVar_end (S1.out.blk.setRow (endA 3 0 0 0))
 have Q := hid (R1.out.sideRow S1.out hz0 (endA 3 0 0 0))
 go_wp2_with fail
 refine bodyPost_ret (v := .tuple #[.agg (endA 3 0 0 0), .bool true]) ?_ rfl ⟨rfl, by obtain ⟨a9, b9, c9, d9⟩ := Q.out.out; first | exact ⟨a9, b9, c9, d9⟩ | exact ⟨a9, ⟨b9, c9⟩, d9⟩⟩
 simp [results, Tryz.results69, asAddr, hres]
set_option maxRecDepth 100000 in
theorem rtrap_stop (M : RMachAt w base g u x y hist) (hT : Tab w) (hpos : 0 < base) (s0 : 0 ≤ y.st) (s1 : y.st ≤ 9000000000000000000) (n : Int) (hn : n ≠ 0) (hz : getV x.M 16 = 0) {p : Int} (hp : y.cs[21]? = some (.int .u32 p)) :
 Calls Tryz.prog 69 #[.pointer (some ⟨g, 0, none⟩), .int .i64 n] w fun e w' => e = .returned (.tuple #[.agg (endA 4 n p 0), .bool true]) ∧ ∃ u' hist', RMachAt w' base g u' x { y with st := y.st + 1 } hist' ∧ RMMoves w w' g u u' := by
 have HZ : Hid (getV x.M (16 : Int).toNat = 0) := hid hz
 have hn1 : (n == 0) = false := by simpa using hn
 have HP := hid hp
 clear hz hn hp
 go_enter Tryz.func69, Tryz.ntmps69
 go_upto_region 1 with fail
 have RI := show RW w w base g u u x y hist from ⟨M, RMMoves.refl _ _ _, hT, hpos⟩
 have R0 := hid (RI.alloc (.cells zEnd 46))
 have S0 := hid (RSide.new RI zEnd 46)
 have hz0 : 0 < w.heap.size := Nat.lt_of_le_of_lt (Nat.zero_le _) hT.lt
 have hrg : w.heap.size ≠ g := Nat.ne_of_gt M.glt
 clear RI M hT
 change Code.wp _ _ _ _ (w.alloc (.cells zEnd 46))
 generalize w.alloc (.cells zEnd 46) = W at R0 S0 ⊢
 generalize w.heap.size = r at S0 hz0 hrg ⊢
 have c24 := R0.out.mach.cells.2.2
 have f24 := R0.out.mach.frozen 24
 have hwr : IntKind.i64.wrap (y.st + 1) = y.st + 1 := IntWalk.i64_in _ (by omega)
 go_upto_region 2 with fail
 have R1 := hid (R0.out.setSt (y.st + 1))
 have S1 := hid (S0.out.setOwn 24 (.int .i64 (y.st + 1)))
 clear R0 S0 c24 f24 hwr
 generalize W.setCell ⟨g, 24, none⟩ (.int .i64 (y.st + 1)) = W1 at R1 S1 ⊢
 have c22 := R1.out.mach.cells.1
 have c21 := R1.out.mach.pcCell HP.out
 go_upto_region 6 with (go_at_call 23; refine (R1.out.word 16 (by decide) (by decide) (by decide) HZ.out).mono ?_; rintro e w1 ⟨rfl, rfl⟩)
 have hst : (storeWhole 46 (.pointer (some ⟨r, 0, none⟩)) (.agg #[.int .i64 4, .int .i64 n, .int .u32 p, .int .i64 0])).run Tryz.prog W1 = .ok () (W1.setRow r (endA 4 n p 0)) := store_end (k := 4) (t := n) (a := p) (s := 0) S1.out.blk rfl
 have hres := loadVar_end (S1.out.blk.setRow (endA 4 n p 0))
 have Q := hid (R1.out.sideRow S1.out hz0 (endA 4 n p 0))
 go_wp2_with fail
 refine bodyPost_ret (v := .tuple #[.agg (endA 4 n p 0), .bool true]) ?_ rfl ⟨rfl, by obtain ⟨a9, b9, c9, d9⟩ := Q.out.out; first | exact ⟨a9, b9, c9, d9⟩ | exact ⟨a9, ⟨b9, c9⟩, d9⟩⟩
 simp [results, Tryz.results69, asAddr, hres]
set_option maxRecDepth 100000 in
theorem rtrap_go (M : RMachAt w base g u x y hist) (hT : Tab w) (hpos : 0 < base) (s0 : 0 ≤ y.st) (s1 : y.st ≤ 9000000000000000000) (n : Int) (hn : n ≠ 0) {z : Int} (hz : getV x.M 16 = z) (hz0' : z ≠ 0) (z0 : 0 ≤ z) (z1 : z < 4294967296) {p : Int} (hp : y.cs[21]? = some (.int .u32 p)) (p0 : 0 ≤ p) (p1 : p < 4294967296) :
 Calls Tryz.prog 69 #[.pointer (some ⟨g, 0, none⟩), .int .i64 n] w fun e w' => e = .returned (.tuple #[.agg (endA 0 0 0 0), .bool false]) ∧ ∃ u' hist', RMachAt w' base g u' { x with M := laid4 (laid4 x.M 20 (n % 4294967296)) 24 p } { y with cs := y.cs.setIfInBounds 21 (.int .u32 z), st := y.st + 1 } hist' ∧ RMMoves w w' g u u' := by
 have HZ : Hid (getV x.M (16 : Int).toNat = z) := hid hz
 have hn1 : (n == 0) = false := by simpa using hn
 have hz1 : (z == 0) = false := by simpa using hz0'
 have HP := hid hp
 have nb0 : 0 ≤ n % 4294967296 := by omega
 have nb1 : n % 4294967296 < 4294967296 := by omega
 clear hz hn hz0' hp
 go_enter Tryz.func69, Tryz.ntmps69
 go_upto_region 1 with fail
 have RI := show RW w w base g u u x y hist from ⟨M, RMMoves.refl _ _ _, hT, hpos⟩
 have R0 := hid (RI.alloc (.cells zEnd 46))
 have S0 := hid (RSide.new RI zEnd 46)
 have hz0 : 0 < w.heap.size := Nat.lt_of_le_of_lt (Nat.zero_le _) hT.lt
 have hrg : w.heap.size ≠ g := Nat.ne_of_gt M.glt
 clear RI M hT
 change Code.wp _ _ _ _ (w.alloc (.cells zEnd 46))
 generalize w.alloc (.cells zEnd 46) = W at R0 S0 ⊢
 generalize w.heap.size = r at S0 hz0 hrg ⊢
 have c24 := R0.out.mach.cells.2.2
 have f24 := R0.out.mach.frozen 24
 have hwr : IntKind.i64.wrap (y.st + 1) = y.st + 1 := IntWalk.i64_in _ (by omega)
 go_upto_region 2 with fail
 have R1 := hid (R0.out.setSt (y.st + 1))
 have S1 := hid (S0.out.setOwn 24 (.int .i64 (y.st + 1)))
 clear R0 S0 c24 f24 hwr
 generalize W.setCell ⟨g, 24, none⟩ (.int .i64 (y.st + 1)) = W1 at R1 S1 ⊢
 have c22 := R1.out.mach.cells.1
 go_upto_region 8 with (first | (go_at_call 23; refine (R1.out.word 16 (by decide) (by decide) (by decide) HZ.out).mono ?_; rintro e w1 ⟨rfl, rfl⟩) | (go_at_call 95; refine (R1.out.poke 20 (n % 4294967296) (by decide) (by decide) (by decide) nb0 nb1).mono ?_; rintro e w2 ⟨rfl, t, m⟩; have R2 := hid t; have S2 := hid (S1.out.mm m); clear t m))
 clear R1 S1 c22
 have KM := hid (show RW w w2.drew base g u u _ _ hist from R2.out.drew 1)
 have KS := hid (show RSide w w2.drew g u r zEnd 46 from S2.out.drew 1)
 have JM : Hid (∃ x9 y9, RW w w2.drew base g u u x9 { y with st := y.st + 1 } y9) := hid (⟨_, _, KM.out⟩)
 have JS : Hid (RSide w w2.drew g u r zEnd 46) := hid (KS.out)
 have LM := hid KM.out
 refine wp_region_held_drew (S := (fun w' => Hid (∃ x9 y9, RW w w' base g u u x9 { y with st := y.st + 1 } y9) ∧ Hid (RSide w w' g u r zEnd 46))) (by kernel_rfl) ⟨JM, JS⟩ (fun hHeld => ?_)
 clear hHeld
 generalize w2.drew = wd at JM JS LM ⊢
 have hHeld : ((fun w' => Hid (∃ x9 y9, RW w w' base g u u x9 { y with st := y.st + 1 } y9) ∧ Hid (RSide w w' g u r zEnd 46)) wd) := ⟨JM, JS⟩
 refine tke 0 (v := ?v0_1) ?hy0_1 (by assumption) ?rest0_1
 case hy0_1 => rintro wq ⟨qM, qS⟩; obtain ⟨x9, y9, bx⟩ := qM.out; have z22 := bx.mach.cells.1; have z21 := bx.mach.pcCell HP.out; clear bx; clear qM qS; go_simp; try with_reducible rfl
 refine tke 1 (v := ?v1_2) ?hy1_2 (by assumption) ?rest1_2
 case hy1_2 => rintro wq ⟨qM, qS⟩; obtain ⟨x9, y9, bx⟩ := qM.out; have z22 := bx.mach.cells.1; have z21 := bx.mach.pcCell HP.out; clear bx; clear qM qS; go_simp; try with_reducible rfl
 refine tke 2 (v := ?v2_3) ?hy2_3 (by assumption) ?rest2_3
 case hy2_3 => rintro wq ⟨qM, qS⟩; obtain ⟨x9, y9, bx⟩ := qM.out; have z22 := bx.mach.cells.1; have z21 := bx.mach.pcCell HP.out; clear bx; clear qM qS; go_simp; try with_reducible rfl
 refine tke 3 (v := ?v3_4) ?hy3_4 (by assumption) ?rest3_4
 case hy3_4 => rintro wq ⟨qM, qS⟩; obtain ⟨x9, y9, bx⟩ := qM.out; have z22 := bx.mach.cells.1; have z21 := bx.mach.pcCell HP.out; clear bx; clear qM qS; go_simp; try with_reducible rfl
 refine tke 4 (v := ?v4_5) ?hy4_5 (by assumption) ?rest4_5
 case hy4_5 => rintro wq ⟨qM, qS⟩; obtain ⟨x9, y9, bx⟩ := qM.out; have z22 := bx.mach.cells.1; have z21 := bx.mach.pcCell HP.out; clear bx; clear qM qS; go_simp; try with_reducible rfl
 refine tke 5 (v := ?v5_6) ?hy5_6 (by assumption) ?rest5_6
 case hy5_6 => rintro wq ⟨qM, qS⟩; obtain ⟨x9, y9, bx⟩ := qM.out; have z22 := bx.mach.cells.1; have z21 := bx.mach.pcCell HP.out; clear bx; clear qM qS; go_simp; try with_reducible rfl
 refine tke 6 (v := ?v6_7) ?hy6_7 (by assumption) ?rest6_7
 case hy6_7 => rintro wq ⟨qM, qS⟩; obtain ⟨x9, y9, bx⟩ := qM.out; have z22 := bx.mach.cells.1; have z21 := bx.mach.pcCell HP.out; clear bx; clear qM qS; go_simp; try with_reducible rfl
 refine tke 7 (v := ?v7_8) ?hy7_8 (by assumption) ?rest7_8
 case hy7_8 => rintro wq ⟨qM, qS⟩; obtain ⟨x9, y9, bx⟩ := qM.out; have z22 := bx.mach.cells.1; have z21 := bx.mach.pcCell HP.out; clear bx; clear qM qS; go_simp; try with_reducible rfl
 refine tke 8 (v := ?v8_9) ?hy8_9 (by assumption) ?rest8_9
 case hy8_9 => rintro wq ⟨qM, qS⟩; obtain ⟨x9, y9, bx⟩ := qM.out; have z22 := bx.mach.cells.1; have z21 := bx.mach.pcCell HP.out; clear bx; clear qM qS; go_simp; try with_reducible rfl
 refine wpAnyH_ready (rs := [9]) (by kernel_rfl) (by simp) ?_
 refine (AllReadyH.cons (o := _) rfl (fun K hK => ?_) AllReadyH.nil)
 try simp only [lA, lB, lC]
 go_simp
 go_at_call 95
 refine (LM.out.poke 24 p (by decide) (by decide) (by decide) p0 p1).mono ?_
 rintro e w3 ⟨rfl, t, m⟩
 have R3 := hid t
 have S3 := hid (JS.out.mm m)
 clear t m
 refine hK.out _ _ ⟨hid ⟨_, _, R3.out⟩, S3⟩ (fun _ => ?_)
 try simp only [lA, lB, lC]
 have hHeld2 : ((fun w' => Hid (∃ x9 y9, RW w w' base g u u x9 { y with st := y.st + 1 } y9) ∧ Hid (RSide w w' g u r zEnd 46)) w3) := ⟨hid ⟨_, _, R3.out⟩, S3⟩
 refine wpAnyH_done (by kernel_rfl) ?_ _
 clear hHeld hHeld2 JM JS KM KS LM
 have f21 := R3.out.mach.frozen 21
 have c21 := R3.out.mach.pcCell HP.out
 go_upto_region 10 with fail
 have R4 := hid (R3.out.setPc z z0 z1)
 have S4 := hid (S3.out.setOwn 21 (.int .u32 z))
 clear R3 S3 f21 c21
 generalize w3.setCell ⟨g, 21, none⟩ (.int .u32 z) = w4 at R4 S4 ⊢
 have hst : (storeWhole 46 (.pointer (some ⟨r, 0, none⟩)) (.agg #[.int .i64 0, .int .i64 0, .int .u32 0, .int .i64 0])).run Tryz.prog w4 = .ok () (w4.setRow r (endA 0 0 0 0)) := store_end (k := 0) (t := 0) (a := 0) (s := 0) S4.out.blk rfl
 have hres := loadVar_end (S4.out.blk.setRow (endA 0 0 0 0))
 have Q := hid (R4.out.sideRow S4.out hz0 (endA 0 0 0 0))
 go_wp2_with fail
 refine bodyPost_ret (v := .tuple #[.agg (endA 0 0 0 0), .bool false]) ?_ rfl ⟨rfl, by obtain ⟨a9, b9, c9, d9⟩ := Q.out.out; first | exact ⟨a9, b9, c9, d9⟩ | exact ⟨a9, ⟨b9, c9⟩, d9⟩⟩
 simp [results, Tryz.results69, asAddr, hres]
theorem rtrap_any (M : RMachAt w base g u x y hist) (hT : Tab w) (hpos : 0 < base) (s0 : 0 ≤ y.st) (s1 : y.st ≤ 9000000000000000000) (n : Int) :
 Calls Tryz.prog 69 #[.pointer (some ⟨g, 0, none⟩), .int .i64 n] w fun e w' => ROut w w' base g u y (trapM y.cs x n) e := by
 obtain ⟨hp, p0, p1⟩ := pc_is M.ok
 unfold trapM
 by_cases hn : n = 0
 ·subst hn
  rw [if_pos rfl]
  exact rtrap_halt M hT hpos s0 s1
 ·rw [if_neg hn]
  by_cases hz : getV x.M 16 = 0
  ·rw [if_pos hz]
   exact rtrap_stop M hT hpos s0 s1 n hn hz hp
  ·rw [if_neg hz]
   obtain ⟨z0, z1⟩ := getV_bd M.bus.mb 16
   exact rtrap_go M hT hpos s0 s1 n hn rfl hz z0 z1 hp p0 p1
end
end Go.Proofs.YtgcknekhimpfkaaGreatDoor
namespace Go.Proofs.YtgcknekhimpfkaaGreatDoor
open Go Go.RowKit Go.Lib Go.Proofs.YtgcknekhimpfkaaGreatDoor.Pl
set_option linter.unusedVariables false
set_option linter.unusedSimpArgs false
attribute [local go_sem ↓] exec_load_end exec_store_end exec_load_cpu exec_store_cpu
theorem rdec8 {x : Int} {f : Int} {u v : Bool} {a b op c n : Int} {q : Bool} (hi : inOf x = ⟨f, u, v, a, b, op, c, n⟩) (hq : decOk x = q) (h0 : 0 ≤ x) (h1 : x < 4294967296) (w : World) :
 Calls Tryz.prog 65 #[.int .u32 x] w fun e w' => e = .returned (.tuple #[.agg #[.int .i64 f, .bool u, .bool v, .int .i64 a, .int .i64 b, .int .i64 op, .int .i64 c, .int .i64 n], .bool q]) ∧ Below w.heap.size w w' := by
 have := rdec_any x h0 h1 w
 rw [decRes_is, hi, hq] at this
 exact this
theorem racc8 {cs : Array Value} (hc : CpuOk cs) {f : Int} {u v : Bool} {a b op c n : Int} {k d z : Int} (hk : (⟨f, u, v, a, b, op, c, n⟩ : In8).k = k) (ha : (⟨f, u, v, a, b, op, c, n⟩ : In8).ad cs = d) (hz : (⟨f, u, v, a, b, op, c, n⟩ : In8).val cs = z) (w : World) (hT : Tab w) :
 Calls Tryz.prog 67 #[.agg cs, .agg #[.int .i64 f, .bool u, .bool v, .int .i64 a, .int .i64 b, .int .i64 op, .int .i64 c, .int .i64 n]] w fun e w' => e = .returned (.agg #[.int .i64 k, .int .u32 d, .int .u32 z]) ∧ Below w.heap.size w w' := by
 subst hk ha hz
 exact racc_any cs hc f u v a b op c n w hT
theorem rexec8 {cs : Array Value} (hc : CpuOk cs) {f : Int} {u v : Bool} {a b op c n : Int} {l : Int} (h0 : 0 ≤ l) (h1 : l < 4294967296) {X : Array Value} {k : Int} {t : Bool} (hx : (⟨f, u, v, a, b, op, c, n⟩ : In8).ex cs l = (X, k, t)) (w : World) :
 Calls Tryz.prog 68 #[.agg cs, .agg #[.int .i64 f, .bool u, .bool v, .int .i64 a, .int .i64 b, .int .i64 op, .int .i64 c, .int .i64 n], .int .u32 l] w fun e w' => e = .returned (.tuple #[.agg X, .int .i64 k, .bool t]) ∧ Below w.heap.size w w' := by
 have := rexec_any cs hc f u v a b op c n l h0 h1 w
 unfold In8.ex at hx
 rw [hx] at this
 exact this
theorem ract_bd {w : World} {base : Nat} {v : RV} {x : BS} {sec0 : Nat → ByteArray} {hist : List (Nat × ByteArray)} (B : RBusAt w base v x sec0 hist) (k a y : Int) : 0 ≤ (x.act k a y).1 ∧ (x.act k a y).1 < 4294967296 := by
 have hm := B.mb
 have h1 := B.tkb
 have h2 := B.seb
 have h3 := B.adb
 have h4 := B.flb
 have h5 := B.nb
 unfold BS.act
 split
 ·exact zb
 split
 ·have := hm a.toNat; simp only; omega
 split
 ·exact zb
 split
 ·split
  ·exact getV_bd hm _
  ·exact zb
 split
 ·split <;> exact zb
 split
 ·unfold BS.load
  split
  ·exact h1
  split
  ·split
   ·exact zb
   ·rename_i c r _; have := c.toNat_lt; simp only; omega
  split
  ·split
   ·exact zb2
   ·exact zb3
  split
  ·exact h2
  split
  ·exact h3
  split
  ·exact h4
  split
  ·simp only; omega
  ·exact zb
 split
 ·unfold BS.store
  split
  ·exact zb
  split
  ·exact zb
  split
  ·exact zb
  split <;> exact zb
 ·exact zb
theorem rval_bd {cs : Array Value} (hc : CpuOk cs) (i : In8) : 0 ≤ i.val cs ∧ i.val cs < 4294967296 := by
 unfold In8.val accX
 split
 ·rename_i h
  have hr := right_inv h.2.1
  obtain ⟨_, h0, h1⟩ := hc.rg (k := i.a.toNat) (by omega)
  unfold accLow
  split <;> omega
 ·exact zb
/-- The machine, how the step ends, and the bad end. -/
structure RS (w0 w : World) (base g : Nat) (u0 u : RV) (x : BS) (y : RMC) (hist : List (Nat × ByteArray)) (r q : Nat) (pc : Int) : Prop where
 m : RW w0 w base g u0 u x y hist
 s : RSide w0 w g u r zEnd 46
 b : RSide w0 w g u q (endA 6 0 pc 0) 46
section
variable {w0 w w' : World} {base g : Nat} {u0 u u' : RV} {x x' : BS} {y : RMC} {hist hist' : List (Nat × ByteArray)} {r q : Nat} {pc : Int}
theorem RS.mm (R : RS w0 w base g u0 u x y hist r q pc) (M : RW w0 w' base g u0 u' x' y hist') (h : RMMoves w w' g u u') : RS w0 w' base g u0 u' x' y hist' r q pc := ⟨M, R.s.mm h, R.b.mm h⟩
theorem RS.step (R : RS w0 w base g u0 u x y hist r q pc) (h : Below w.heap.size w w') : RS w0 w' base g u0 u x y hist r q pc := ⟨R.m.step h, R.s.step h, R.b.step h⟩
theorem RS.alloc (R : RS w0 w base g u0 u x y hist r q pc) (o : Obj) : RS w0 (w.alloc o) base g u0 u x y hist r q pc := R.step ((Below.refl _ _).alloc (Nat.le_refl _) o)
theorem RS.side {h : Nat} {X : Array Value} {t : TypeId} (R : RS w0 w base g u0 u x y hist r q pc) (S : RSide w0 w g u h X t) (hz : 0 < h) (hr : r ≠ h) (hq : q ≠ h) (X' : Array Value) : RS w0 (w.setRow h X') base g u0 u x y hist r q pc :=
 ⟨R.m.sideRow S hz X', R.s.farRow hr X', R.b.farRow hq X'⟩
theorem ROut.stop0 {w' : World} {u' : RV} {x' : BS} {hist' : List (Nat × ByteArray)} {o : MOut} {e : Ending} {k t a : Int} (h : o = .stop k t a 0 x') (he : e = .returned (.tuple #[.agg (endA k t a 0), .bool true])) (R : RW w w' base g u u' x' y hist') : ROut w w' base g u y o e := by
 subst h
 refine ⟨he, u', hist', ?_, R.mv⟩
 have : ({ y with st := y.st + ((0 : Nat) : Int) } : RMC) = y := by cases y; simp
 rw [this]
 exact R.mach
end
section
variable {w : World} {base g : Nat} {u : RV} {x : BS} {y : RMC} {hist : List (Nat × ByteArray)}
theorem RW.wordNo {w0 : World} {u0 : RV} (R : RW w0 w base g u0 u x y hist) (a : Int) (h0 : 0 ≤ a) (h1 : a < 4294967296) (h4 : ¬ (a < 1048576 ∧ a % 4 = 0)) :
 Calls Tryz.prog 23 #[.pointer (some ⟨u.b, 0, none⟩), .int .u32 a] w fun e w' => e = .returned (.tuple #[.int .u32 0, .bool false]) ∧ w = w' := rword_no R.mach.bus a h0 h1 h4
set_option maxRecDepth 100000 in
theorem rstep_out (M : RMachAt w base g u x y hist) (hT : Tab w) (hpos : 0 < base) (s0 : 0 ≤ y.st) (s1 : y.st ≤ 9000000000000000000) {pc : Int} (hp : y.cs[21]? = some (.int .u32 pc)) (p0 : 0 ≤ pc) (p1 : pc < 4294967296) {OO : MOut} (hin : ¬ (pc < 1048576 ∧ pc % 4 = 0)) (ho : OO = .stop 6 0 pc 0 x) :
 Calls Tryz.prog 42 #[.pointer (some ⟨g, 0, none⟩)] w fun e w' => ROut w w' base g u y OO e := by
 have HIN := hid hin
 have HO := hid ho
 clear hin ho
 have HP := hid hp
 clear hp
 go_enter Tryz.func42, Tryz.ntmps42
 go_upto_region 1 with fail
 have RI := show RW w w base g u u x y hist from ⟨M, RMMoves.refl _ _ _, hT, hpos⟩
 have R0 := hid (RI.alloc (.cells zEnd 46))
 have S0 := hid (RSide.new RI zEnd 46)
 have hz0 : 0 < w.heap.size := Nat.lt_of_le_of_lt (Nat.zero_le _) hT.lt
 clear RI M hT
 change Code.wp _ _ _ _ (w.alloc (.cells zEnd 46))
 obtain ⟨W, hW⟩ : ∃ W, w.alloc (.cells zEnd 46) = W := ⟨_, rfl⟩
 rw [hW] at R0 S0 ⊢
 clear hW
 have HWS := hid hz0
 obtain ⟨r, hr⟩ : ∃ r, w.heap.size = r := ⟨_, rfl⟩
 rw [hr] at S0 hz0 ⊢
 clear hr
 have c21 := R0.out.mach.pcCell HP.out
 have hbd : (storeWhole 46 (.pointer (some ⟨W.heap.size, 0, none⟩)) (.agg #[.int .i64 6, .int .i64 0, .int .u32 pc, .int .i64 0])).run Tryz.prog (W.alloc (.cells #[.int .i64 0, .int .i64 0, .int .u32 0, .int .i64 0] 46)) = .ok () (W.alloc (.cells (endA 6 0 pc 0) 46)) := new_end W 6 0 pc 0 _ rfl
 go_upto_region 2 with fail
 have C1 := hid (show RS w (W.alloc (.cells (endA 6 0 pc 0) 46)) base g u u x y hist r W.heap.size pc from ⟨R0.out.alloc _, S0.out.alloc _, RSide.new R0.out (endA 6 0 pc 0) 46⟩)
 have hrq : Hid (r ≠ W.heap.size) := hid (Nat.ne_of_lt S0.out.blk.lt)
 have hqz : 0 < W.heap.size := Nat.lt_of_lt_of_le HWS.out R0.out.le
 clear R0 S0 c21 hbd
 generalize W.alloc (.cells (endA 6 0 pc 0) 46) = W1 at C1 ⊢
 generalize W.heap.size = q at C1 hrq hqz ⊢
 have JC : Hid (RS w W1.drew base g u u x y hist r q pc) := hid (C1.out.step ((Below.refl _ _).drew))
 have JZ : Hid (0 < r) := hid (hz0)
 refine wp_region_held_drew (S := (fun w' => Hid (RS w w' base g u u x y hist r q pc) ∧ Hid (0 < r))) (by kernel_rfl) ⟨JC, JZ⟩ (fun hHeld => ?_)
 clear hHeld
 generalize W1.drew = wd at JC JZ ⊢
 have hHeld : ((fun w' => Hid (RS w w' base g u u x y hist r q pc) ∧ Hid (0 < r)) wd) := ⟨JC, JZ⟩
 refine tke 0 (v := ?v0_1) ?hy0_1 (by assumption) ?rest0_1
 case hy0_1 => rintro wq ⟨qC, qZ⟩; have z22 := qC.out.m.mach.cells.1; have z21 := qC.out.m.mach.pcCell HP.out; clear qC qZ; go_simp; try with_reducible rfl
 refine tke 1 (v := ?v1_2) ?hy1_2 (by assumption) ?rest1_2
 case hy1_2 => rintro wq ⟨qC, qZ⟩; have z22 := qC.out.m.mach.cells.1; have z21 := qC.out.m.mach.pcCell HP.out; clear qC qZ; go_simp; try with_reducible rfl
 refine tke 2 (v := ?v2_3) ?hy2_3 (by assumption) ?rest2_3
 case hy2_3 => rintro wq ⟨qC, qZ⟩; have z22 := qC.out.m.mach.cells.1; have z21 := qC.out.m.mach.pcCell HP.out; clear qC qZ; go_simp; try with_reducible rfl
 refine tke 3 (v := ?v3_4) ?hy3_4 (by assumption) ?rest3_4
 case hy3_4 => rintro wq ⟨qC, qZ⟩; have z22 := qC.out.m.mach.cells.1; have z21 := qC.out.m.mach.pcCell HP.out; clear qC qZ; go_simp; try with_reducible rfl
 refine tke 4 (v := ?v4_5) ?hy4_5 (by assumption) ?rest4_5
 case hy4_5 => rintro wq ⟨qC, qZ⟩; have z22 := qC.out.m.mach.cells.1; have z21 := qC.out.m.mach.pcCell HP.out; clear qC qZ; go_simp; try with_reducible rfl
 refine tke 5 (v := ?v5_6) ?hy5_6 (by assumption) ?rest5_6
 case hy5_6 => rintro wq ⟨qC, qZ⟩; have z22 := qC.out.m.mach.cells.1; have z21 := qC.out.m.mach.pcCell HP.out; clear qC qZ; go_simp; try with_reducible rfl
 refine tke 6 (v := ?v6_7) ?hy6_7 (by assumption) ?rest6_7
 case hy6_7 => rintro wq ⟨qC, qZ⟩; have z22 := qC.out.m.mach.cells.1; have z21 := qC.out.m.mach.pcCell HP.out; clear qC qZ; go_simp; try with_reducible rfl
 refine tke 7 (v := ?v7_8) ?hy7_8 (by assumption) ?rest7_8
 case hy7_8 => rintro wq ⟨qC, qZ⟩; have z22 := qC.out.m.mach.cells.1; have z21 := qC.out.m.mach.pcCell HP.out; clear qC qZ; go_simp; try with_reducible rfl
 refine tke 8 (v := ?v8_9) ?hy8_9 (by assumption) ?rest8_9
 case hy8_9 => rintro wq ⟨qC, qZ⟩; have z22 := qC.out.m.mach.cells.1; have z21 := qC.out.m.mach.pcCell HP.out; clear qC qZ; go_simp; try with_reducible rfl
 refine wpAnyH_ready (rs := [9]) (by kernel_rfl) (by simp) ?_
 refine (AllReadyH.cons (o := _) rfl (fun K hK => ?_) AllReadyH.nil)
 try simp only [lA, lB, lC]
 go_simp
 go_at_call 23
 refine (JC.out.m.wordNo pc p0 p1 HIN.out).mono ?_
 rintro e wb ⟨rfl, rfl⟩
 refine hK.out _ _ ⟨JC, JZ⟩ (fun _ => ?_)
 try simp only [lA, lB, lC]
 refine tke 10 (v := ?v10_10) ?hy10_10 (by assumption) ?rest10_10
 case hy10_10 => rintro wq ⟨qC, qZ⟩; clear qC qZ; go_simp; try with_reducible rfl
 refine tke 11 (v := ?v11_11) ?hy11_11 (by assumption) ?rest11_11
 case hy11_11 => rintro wq ⟨qC, qZ⟩; clear qC qZ; go_simp; try with_reducible rfl
 refine tke 12 (v := ?v12_12) ?hy12_12 (by assumption) ?rest12_12
 case hy12_12 => rintro wq ⟨qC, qZ⟩; clear qC qZ; go_simp; try with_reducible rfl
 refine tke 13 (v := ?v13_13) ?hy13_13 (by assumption) ?rest13_13
 case hy13_13 => rintro wq ⟨qC, qZ⟩; clear qC qZ; go_simp; try with_reducible rfl
 refine tke 14 (v := ?v14_14) ?hy14_14 (by assumption) ?rest14_14
 case hy14_14 => rintro wq ⟨qC, qZ⟩; clear qC qZ; go_simp; try with_reducible rfl
 refine wpAnyH_done (by kernel_rfl) ?_ _
 clear hHeld JZ C1
 have hld := load_end JC.out.b.blk
 have hst := store_end (k := 6) (t := 0) (a := pc) (s := 0) JC.out.s.blk rfl
 have hres := loadVar_end (JC.out.s.blk.setRow (endA 6 0 pc 0))
 have Q := hid (JC.out.m.sideRow JC.out.s hz0 (endA 6 0 pc 0))
 go_wp2_with fail
 refine bodyPost_ret (v := .tuple #[.agg (endA 6 0 pc 0), .bool true]) ?_ rfl (ROut.stop0 HO.out rfl Q.out)
 simp [results, Tryz.results42, asAddr, hres]
set_option maxRecDepth 100000 in
theorem rstep_ill (M : RMachAt w base g u x y hist) (hT : Tab w) (hpos : 0 < base) (s0 : 0 ≤ y.st) (s1 : y.st ≤ 9000000000000000000) {pc : Int} (hp : y.cs[21]? = some (.int .u32 pc)) (p0 : 0 ≤ pc) (p1 : pc < 4294967296) {OO : MOut} (hin1 : pc < 1048576) (hin2 : pc % 4 = 0) {z : Int} (hz : getV x.M pc.toNat = z) (z0 : 0 ≤ z) (z1 : z < 4294967296) {jf : Int} {ju jv : Bool} {ja jb jo jc jn : Int} (hi : inOf z = ⟨jf, ju, jv, ja, jb, jo, jc, jn⟩) (hq : decOk z = false) (ho : OO = .stop 5 0 pc 0 x) :
 Calls Tryz.prog 42 #[.pointer (some ⟨g, 0, none⟩)] w fun e w' => ROut w w' base g u y OO e := by
 have HIN1 := hid hin1
 have HIN2 := hid hin2
 have HO := hid ho
 have HZ := hid hz
 have HI := hid hi
 have HQ := hid hq
 clear hin1 hin2 ho hz hi hq
 have HP := hid hp
 clear hp
 go_enter Tryz.func42, Tryz.ntmps42
 go_upto_region 1 with fail
 have RI := show RW w w base g u u x y hist from ⟨M, RMMoves.refl _ _ _, hT, hpos⟩
 have R0 := hid (RI.alloc (.cells zEnd 46))
 have S0 := hid (RSide.new RI zEnd 46)
 have hz0 : 0 < w.heap.size := Nat.lt_of_le_of_lt (Nat.zero_le _) hT.lt
 clear RI M hT
 change Code.wp _ _ _ _ (w.alloc (.cells zEnd 46))
 obtain ⟨W, hW⟩ : ∃ W, w.alloc (.cells zEnd 46) = W := ⟨_, rfl⟩
 rw [hW] at R0 S0 ⊢
 clear hW
 have HWS := hid hz0
 obtain ⟨r, hr⟩ : ∃ r, w.heap.size = r := ⟨_, rfl⟩
 rw [hr] at S0 hz0 ⊢
 clear hr
 have c21 := R0.out.mach.pcCell HP.out
 have hbd : (storeWhole 46 (.pointer (some ⟨W.heap.size, 0, none⟩)) (.agg #[.int .i64 6, .int .i64 0, .int .u32 pc, .int .i64 0])).run Tryz.prog (W.alloc (.cells #[.int .i64 0, .int .i64 0, .int .u32 0, .int .i64 0] 46)) = .ok () (W.alloc (.cells (endA 6 0 pc 0) 46)) := new_end W 6 0 pc 0 _ rfl
 go_upto_region 2 with fail
 have C1 := hid (show RS w (W.alloc (.cells (endA 6 0 pc 0) 46)) base g u u x y hist r W.heap.size pc from ⟨R0.out.alloc _, S0.out.alloc _, RSide.new R0.out (endA 6 0 pc 0) 46⟩)
 have hrq : Hid (r ≠ W.heap.size) := hid (Nat.ne_of_lt S0.out.blk.lt)
 have hqz : 0 < W.heap.size := Nat.lt_of_lt_of_le HWS.out R0.out.le
 clear R0 S0 c21 hbd
 generalize W.alloc (.cells (endA 6 0 pc 0) 46) = W1 at C1 ⊢
 generalize W.heap.size = q at C1 hrq hqz ⊢
 have JC : Hid (RS w W1.drew base g u u x y hist r q pc) := hid (C1.out.step ((Below.refl _ _).drew))
 have JZ : Hid (0 < r) := hid (hz0)
 refine wp_region_held_drew (S := (fun w' => Hid (RS w w' base g u u x y hist r q pc) ∧ Hid (0 < r))) (by kernel_rfl) ⟨JC, JZ⟩ (fun hHeld => ?_)
 clear hHeld
 generalize W1.drew = wd at JC JZ ⊢
 have hHeld : ((fun w' => Hid (RS w w' base g u u x y hist r q pc) ∧ Hid (0 < r)) wd) := ⟨JC, JZ⟩
 refine tke 0 (v := ?v0_15) ?hy0_15 (by assumption) ?rest0_15
 case hy0_15 => rintro wq ⟨qC, qZ⟩; have z22 := qC.out.m.mach.cells.1; have z21 := qC.out.m.mach.pcCell HP.out; clear qC qZ; go_simp; try with_reducible rfl
 refine tke 1 (v := ?v1_16) ?hy1_16 (by assumption) ?rest1_16
 case hy1_16 => rintro wq ⟨qC, qZ⟩; have z22 := qC.out.m.mach.cells.1; have z21 := qC.out.m.mach.pcCell HP.out; clear qC qZ; go_simp; try with_reducible rfl
 refine tke 2 (v := ?v2_17) ?hy2_17 (by assumption) ?rest2_17
 case hy2_17 => rintro wq ⟨qC, qZ⟩; have z22 := qC.out.m.mach.cells.1; have z21 := qC.out.m.mach.pcCell HP.out; clear qC qZ; go_simp; try with_reducible rfl
 refine tke 3 (v := ?v3_18) ?hy3_18 (by assumption) ?rest3_18
 case hy3_18 => rintro wq ⟨qC, qZ⟩; have z22 := qC.out.m.mach.cells.1; have z21 := qC.out.m.mach.pcCell HP.out; clear qC qZ; go_simp; try with_reducible rfl
 refine tke 4 (v := ?v4_19) ?hy4_19 (by assumption) ?rest4_19
 case hy4_19 => rintro wq ⟨qC, qZ⟩; have z22 := qC.out.m.mach.cells.1; have z21 := qC.out.m.mach.pcCell HP.out; clear qC qZ; go_simp; try with_reducible rfl
 refine tke 5 (v := ?v5_20) ?hy5_20 (by assumption) ?rest5_20
 case hy5_20 => rintro wq ⟨qC, qZ⟩; have z22 := qC.out.m.mach.cells.1; have z21 := qC.out.m.mach.pcCell HP.out; clear qC qZ; go_simp; try with_reducible rfl
 refine tke 6 (v := ?v6_21) ?hy6_21 (by assumption) ?rest6_21
 case hy6_21 => rintro wq ⟨qC, qZ⟩; have z22 := qC.out.m.mach.cells.1; have z21 := qC.out.m.mach.pcCell HP.out; clear qC qZ; go_simp; try with_reducible rfl
 refine tke 7 (v := ?v7_22) ?hy7_22 (by assumption) ?rest7_22
 case hy7_22 => rintro wq ⟨qC, qZ⟩; have z22 := qC.out.m.mach.cells.1; have z21 := qC.out.m.mach.pcCell HP.out; clear qC qZ; go_simp; try with_reducible rfl
 refine tke 8 (v := ?v8_23) ?hy8_23 (by assumption) ?rest8_23
 case hy8_23 => rintro wq ⟨qC, qZ⟩; have z22 := qC.out.m.mach.cells.1; have z21 := qC.out.m.mach.pcCell HP.out; clear qC qZ; go_simp; try with_reducible rfl
 refine wpAnyH_ready (rs := [9]) (by kernel_rfl) (by simp) ?_
 refine (AllReadyH.cons (o := _) rfl (fun K hK => ?_) AllReadyH.nil)
 try simp only [lA, lB, lC]
 go_simp
 go_at_call 23
 refine (JC.out.m.word pc p0 HIN1.out HIN2.out HZ.out).mono ?_
 rintro e wb ⟨rfl, rfl⟩
 refine hK.out _ _ ⟨JC, JZ⟩ (fun _ => ?_)
 try simp only [lA, lB, lC]
 refine tke 10 (v := ?v10_24) ?hy10_24 (by assumption) ?rest10_24
 case hy10_24 => rintro wq ⟨qC, qZ⟩; clear qC qZ; go_simp; try with_reducible rfl
 refine tke 11 (v := ?v11_25) ?hy11_25 (by assumption) ?rest11_25
 case hy11_25 => rintro wq ⟨qC, qZ⟩; clear qC qZ; go_simp; try with_reducible rfl
 refine tke 12 (v := ?v12_26) ?hy12_26 (by assumption) ?rest12_26
 case hy12_26 => rintro wq ⟨qC, qZ⟩; clear qC qZ; go_simp; try with_reducible rfl
 refine tke 13 (v := ?v13_27) ?hy13_27 (by assumption) ?rest13_27
 case hy13_27 => rintro wq ⟨qC, qZ⟩; clear qC qZ; go_simp; try with_reducible rfl
 refine tke 14 (v := ?v14_28) ?hy14_28 (by assumption) ?rest14_28
 case hy14_28 => rintro wq ⟨qC, qZ⟩; clear qC qZ; go_simp; try with_reducible rfl
 refine wpAnyH_done (by kernel_rfl) ?_ _
 clear hHeld JZ C1
 go_upto_region 6 with (go_at_call 65; refine (rdec8 HI.out HQ.out z0 z1 _).mono ?_; rintro e w2 ⟨rfl, hb2⟩; have C2 := hid (JC.out.step hb2); clear hb2)
 have C3 := hid (C2.out.alloc (.cells #[.int .i64 jf, .bool ju, .bool jv, .int .i64 ja, .int .i64 jb, .int .i64 jo, .int .i64 jc, .int .i64 jn] 92))
 have I3 := hid (RSide.new C2.out.m #[.int .i64 jf, .bool ju, .bool jv, .int .i64 ja, .int .i64 jb, .int .i64 jo, .int .i64 jc, .int .i64 jn] 92)
 have hrg : Hid (r ≠ w2.heap.size ∧ q ≠ w2.heap.size) := hid ⟨Nat.ne_of_lt C2.out.s.blk.lt, Nat.ne_of_lt C2.out.b.blk.lt⟩
 clear C2 JC
 generalize w2.alloc (.cells #[.int .i64 jf, .bool ju, .bool jv, .int .i64 ja, .int .i64 jb, .int .i64 jo, .int .i64 jc, .int .i64 jn] 92) = wa at C3 I3 ⊢
 generalize w2.heap.size = gi at I3 hrg ⊢
 have c21 := C3.out.m.mach.pcCell HP.out
 have hst : (storeWhole 46 (.pointer (some ⟨r, 0, none⟩)) (.agg #[.int .i64 5, .int .i64 0, .int .u32 pc, .int .i64 0])).run Tryz.prog wa = .ok () (wa.setRow r (endA 5 0 pc 0)) := store_end (k := 5) (t := 0) (a := pc) (s := 0) C3.out.s.blk rfl
 have hres := loadVar_end (C3.out.s.blk.setRow (endA 5 0 pc 0))
 have Q := hid (C3.out.m.sideRow C3.out.s hz0 (endA 5 0 pc 0))
 go_wp2_with fail
 refine bodyPost_ret (v := .tuple #[.agg (endA 5 0 pc 0), .bool true]) ?_ rfl (ROut.stop0 HO.out rfl Q.out)
 simp [results, Tryz.results42, asAddr, hres]
set_option maxRecDepth 100000 in
theorem rstep_do (M : RMachAt w base g u x y hist) (hT : Tab w) (hpos : 0 < base) (s0 : 0 ≤ y.st) (s1 : y.st ≤ 9000000000000000000) {pc : Int} (hp : y.cs[21]? = some (.int .u32 pc)) (p0 : 0 ≤ pc) (p1 : pc < 4294967296) (hpc : pcOf y.cs = pc) {OO : MOut} (hin1 : pc < 1048576) (hin2 : pc % 4 = 0) {z : Int} (hz : getV x.M pc.toNat = z) (z0 : 0 ≤ z) (z1 : z < 4294967296) {jf : Int} {ju jv : Bool} {ja jb jo jc jn : Int} (hi : inOf z = ⟨jf, ju, jv, ja, jb, jo, jc, jn⟩) (hq : decOk z = true) {JK JA JQ l h : Int} {x' : BS} (hk : (⟨jf, ju, jv, ja, jb, jo, jc, jn⟩ : In8).k = JK) (ha : (⟨jf, ju, jv, ja, jb, jo, jc, jn⟩ : In8).ad y.cs = JA) (hv : (⟨jf, ju, jv, ja, jb, jo, jc, jn⟩ : In8).val y.cs = JQ) (hact : x.act JK JA JQ = (l, h, x'))
 {X : Array Value} {n : Int} {t : Bool} (hex : (⟨jf, ju, jv, ja, jb, jo, jc, jn⟩ : In8).ex y.cs l = (X, n, t)) (ho : OO = doneM y.cs ⟨jf, ju, jv, ja, jb, jo, jc, jn⟩ (l, h, x')) :
 Calls Tryz.prog 42 #[.pointer (some ⟨g, 0, none⟩)] w fun e w' => ROut w w' base g u y OO e := by
 have HIN1 := hid hin1
 have HIN2 := hid hin2
 have HO := hid ho
 have HZ := hid hz
 have HI := hid hi
 have HQ := hid hq
 clear hin1 hin2 ho hz hi hq
 have hl := ract_bd M.bus JK JA JQ
 rw [hact] at hl
 have hab := rgV_bd' M.ok (⟨jf, ju, jv, ja, jb, jo, jc, jn⟩ : In8)
 have hvb := rval_bd M.ok (⟨jf, ju, jv, ja, jb, jo, jc, jn⟩ : In8)
 rw [ha] at hab
 rw [hv] at hvb
 have hxo := ex_ok M.ok _ hl.1 hl.2 hex
 obtain ⟨l0, l1⟩ := hl
 obtain ⟨a0, a1⟩ := hab
 obtain ⟨v0, v1⟩ := hvb
 have HXO := hid hxo
 have HA := hid hact
 have HK := hid hk
 have HAD := hid ha
 have HV := hid hv
 have HEX := hid hex
 have HPC := hid hpc
 have HOK := hid M.ok
 clear hact hk ha hv hex hpc hxo
 have HP := hid hp
 clear hp
 go_enter Tryz.func42, Tryz.ntmps42
 go_upto_region 1 with fail
 have RI := show RW w w base g u u x y hist from ⟨M, RMMoves.refl _ _ _, hT, hpos⟩
 have R0 := hid (RI.alloc (.cells zEnd 46))
 have S0 := hid (RSide.new RI zEnd 46)
 have hz0 : 0 < w.heap.size := Nat.lt_of_le_of_lt (Nat.zero_le _) hT.lt
 clear RI M hT
 change Code.wp _ _ _ _ (w.alloc (.cells zEnd 46))
 obtain ⟨W, hW⟩ : ∃ W, w.alloc (.cells zEnd 46) = W := ⟨_, rfl⟩
 rw [hW] at R0 S0 ⊢
 clear hW
 have HWS := hid hz0
 obtain ⟨r, hr⟩ : ∃ r, w.heap.size = r := ⟨_, rfl⟩
 rw [hr] at S0 hz0 ⊢
 clear hr
 have c21 := R0.out.mach.pcCell HP.out
 have hbd : (storeWhole 46 (.pointer (some ⟨W.heap.size, 0, none⟩)) (.agg #[.int .i64 6, .int .i64 0, .int .u32 pc, .int .i64 0])).run Tryz.prog (W.alloc (.cells #[.int .i64 0, .int .i64 0, .int .u32 0, .int .i64 0] 46)) = .ok () (W.alloc (.cells (endA 6 0 pc 0) 46)) := new_end W 6 0 pc 0 _ rfl
 go_upto_region 2 with fail
 have C1 := hid (show RS w (W.alloc (.cells (endA 6 0 pc 0) 46)) base g u u x y hist r W.heap.size pc from ⟨R0.out.alloc _, S0.out.alloc _, RSide.new R0.out (endA 6 0 pc 0) 46⟩)
 have hrq : Hid (r ≠ W.heap.size) := hid (Nat.ne_of_lt S0.out.blk.lt)
 have hqz : 0 < W.heap.size := Nat.lt_of_lt_of_le HWS.out R0.out.le
 clear R0 S0 c21 hbd
 generalize W.alloc (.cells (endA 6 0 pc 0) 46) = W1 at C1 ⊢
 generalize W.heap.size = q at C1 hrq hqz ⊢
 have JC : Hid (RS w W1.drew base g u u x y hist r q pc) := hid (C1.out.step ((Below.refl _ _).drew))
 have JZ : Hid (0 < r) := hid (hz0)
 refine wp_region_held_drew (S := (fun w' => Hid (RS w w' base g u u x y hist r q pc) ∧ Hid (0 < r))) (by kernel_rfl) ⟨JC, JZ⟩ (fun hHeld => ?_)
 clear hHeld
 generalize W1.drew = wd at JC JZ ⊢
 have hHeld : ((fun w' => Hid (RS w w' base g u u x y hist r q pc) ∧ Hid (0 < r)) wd) := ⟨JC, JZ⟩
 refine tke 0 (v := ?v0_29) ?hy0_29 (by assumption) ?rest0_29
 case hy0_29 => rintro wq ⟨qC, qZ⟩; have z22 := qC.out.m.mach.cells.1; have z21 := qC.out.m.mach.pcCell HP.out; clear qC qZ; go_simp; try with_reducible rfl
 refine tke 1 (v := ?v1_30) ?hy1_30 (by assumption) ?rest1_30
 case hy1_30 => rintro wq ⟨qC, qZ⟩; have z22 := qC.out.m.mach.cells.1; have z21 := qC.out.m.mach.pcCell HP.out; clear qC qZ; go_simp; try with_reducible rfl
 refine tke 2 (v := ?v2_31) ?hy2_31 (by assumption) ?rest2_31
 case hy2_31 => rintro wq ⟨qC, qZ⟩; have z22 := qC.out.m.mach.cells.1; have z21 := qC.out.m.mach.pcCell HP.out; clear qC qZ; go_simp; try with_reducible rfl
 refine tke 3 (v := ?v3_32) ?hy3_32 (by assumption) ?rest3_32
 case hy3_32 => rintro wq ⟨qC, qZ⟩; have z22 := qC.out.m.mach.cells.1; have z21 := qC.out.m.mach.pcCell HP.out; clear qC qZ; go_simp; try with_reducible rfl
 refine tke 4 (v := ?v4_33) ?hy4_33 (by assumption) ?rest4_33
 case hy4_33 => rintro wq ⟨qC, qZ⟩; have z22 := qC.out.m.mach.cells.1; have z21 := qC.out.m.mach.pcCell HP.out; clear qC qZ; go_simp; try with_reducible rfl
 refine tke 5 (v := ?v5_34) ?hy5_34 (by assumption) ?rest5_34
 case hy5_34 => rintro wq ⟨qC, qZ⟩; have z22 := qC.out.m.mach.cells.1; have z21 := qC.out.m.mach.pcCell HP.out; clear qC qZ; go_simp; try with_reducible rfl
 refine tke 6 (v := ?v6_35) ?hy6_35 (by assumption) ?rest6_35
 case hy6_35 => rintro wq ⟨qC, qZ⟩; have z22 := qC.out.m.mach.cells.1; have z21 := qC.out.m.mach.pcCell HP.out; clear qC qZ; go_simp; try with_reducible rfl
 refine tke 7 (v := ?v7_36) ?hy7_36 (by assumption) ?rest7_36
 case hy7_36 => rintro wq ⟨qC, qZ⟩; have z22 := qC.out.m.mach.cells.1; have z21 := qC.out.m.mach.pcCell HP.out; clear qC qZ; go_simp; try with_reducible rfl
 refine tke 8 (v := ?v8_37) ?hy8_37 (by assumption) ?rest8_37
 case hy8_37 => rintro wq ⟨qC, qZ⟩; have z22 := qC.out.m.mach.cells.1; have z21 := qC.out.m.mach.pcCell HP.out; clear qC qZ; go_simp; try with_reducible rfl
 refine wpAnyH_ready (rs := [9]) (by kernel_rfl) (by simp) ?_
 refine (AllReadyH.cons (o := _) rfl (fun K hK => ?_) AllReadyH.nil)
 try simp only [lA, lB, lC]
 go_simp
 go_at_call 23
 refine (JC.out.m.word pc p0 HIN1.out HIN2.out HZ.out).mono ?_
 rintro e wb ⟨rfl, rfl⟩
 refine hK.out _ _ ⟨JC, JZ⟩ (fun _ => ?_)
 try simp only [lA, lB, lC]
 refine tke 10 (v := ?v10_38) ?hy10_38 (by assumption) ?rest10_38
 case hy10_38 => rintro wq ⟨qC, qZ⟩; clear qC qZ; go_simp; try with_reducible rfl
 refine tke 11 (v := ?v11_39) ?hy11_39 (by assumption) ?rest11_39
 case hy11_39 => rintro wq ⟨qC, qZ⟩; clear qC qZ; go_simp; try with_reducible rfl
 refine tke 12 (v := ?v12_40) ?hy12_40 (by assumption) ?rest12_40
 case hy12_40 => rintro wq ⟨qC, qZ⟩; clear qC qZ; go_simp; try with_reducible rfl
 refine tke 13 (v := ?v13_41) ?hy13_41 (by assumption) ?rest13_41
 case hy13_41 => rintro wq ⟨qC, qZ⟩; clear qC qZ; go_simp; try with_reducible rfl
 refine tke 14 (v := ?v14_42) ?hy14_42 (by assumption) ?rest14_42
 case hy14_42 => rintro wq ⟨qC, qZ⟩; clear qC qZ; go_simp; try with_reducible rfl
 refine wpAnyH_done (by kernel_rfl) ?_ _
 clear hHeld JZ C1
 go_upto_region 8 with (go_at_call 65; refine (rdec8 HI.out HQ.out z0 z1 _).mono ?_; rintro e w2 ⟨rfl, hb2⟩; have C2 := hid (JC.out.step hb2); clear hb2)
 have C3 := hid (C2.out.alloc (.cells #[.int .i64 jf, .bool ju, .bool jv, .int .i64 ja, .int .i64 jb, .int .i64 jo, .int .i64 jc, .int .i64 jn] 92))
 have I3 := hid (RSide.new C2.out.m #[.int .i64 jf, .bool ju, .bool jv, .int .i64 ja, .int .i64 jb, .int .i64 jo, .int .i64 jc, .int .i64 jn] 92)
 have hrg : Hid (r ≠ w2.heap.size ∧ q ≠ w2.heap.size) := hid ⟨Nat.ne_of_lt C2.out.s.blk.lt, Nat.ne_of_lt C2.out.b.blk.lt⟩
 clear C2 JC
 generalize w2.alloc (.cells #[.int .i64 jf, .bool ju, .bool jv, .int .i64 ja, .int .i64 jb, .int .i64 jo, .int .i64 jc, .int .i64 jn] 92) = wa at C3 I3 ⊢
 generalize w2.heap.size = gi at I3 hrg ⊢
 have JM : Hid (∃ u9 x9 h9, RS w wa.drew base g u u9 x9 y h9 r q pc ∧ RSide w wa.drew g u9 gi #[.int .i64 jf, .bool ju, .bool jv, .int .i64 ja, .int .i64 jb, .int .i64 jo, .int .i64 jc, .int .i64 jn] 92) := hid (⟨_, _, _, C3.out.step ((Below.refl _ _).drew), I3.out.step ((Below.refl _ _).drew)⟩)
 have JZ : Hid (0 < r) := hid (hz0)
 have LC := hid (C3.out.step (show Below wa.heap.size wa wa.drew from (Below.refl _ _).drew))
 have LI := hid (I3.out.step (show Below wa.heap.size wa wa.drew from (Below.refl _ _).drew))
 refine wp_region_held_drew (S := (fun w' => Hid (∃ u9 x9 h9, RS w w' base g u u9 x9 y h9 r q pc ∧ RSide w w' g u9 gi #[.int .i64 jf, .bool ju, .bool jv, .int .i64 ja, .int .i64 jb, .int .i64 jo, .int .i64 jc, .int .i64 jn] 92) ∧ Hid (0 < r))) (by kernel_rfl) ⟨JM, JZ⟩ (fun hHeld => ?_)
 clear hHeld
 generalize wa.drew = we at JM JZ LC LI ⊢
 have hHeld : ((fun w' => Hid (∃ u9 x9 h9, RS w w' base g u u9 x9 y h9 r q pc ∧ RSide w w' g u9 gi #[.int .i64 jf, .bool ju, .bool jv, .int .i64 ja, .int .i64 jb, .int .i64 jo, .int .i64 jc, .int .i64 jn] 92) ∧ Hid (0 < r)) we) := ⟨JM, JZ⟩
 refine tke 0 (v := ?v0_43) ?hy0_43 (by assumption) ?rest0_43
 case hy0_43 => rintro wq ⟨qM, qZ⟩; obtain ⟨u9, x9, h9, bx, ix⟩ := qM.out; have z22 := bx.m.mach.cells.1; rw [bx.m.mv.k.1] at z22; have zc := bx.m.mach.loadCpu; obtain ⟨i0, i1, i2, i3, i4, i5, i6, i7⟩ := accCells ix.blk; clear bx ix; clear qM qZ; simp only [lA, lB, lC]; go_simp; try with_reducible rfl
 refine tke 1 (v := ?v1_44) ?hy1_44 (by assumption) ?rest1_44
 case hy1_44 => rintro wq ⟨qM, qZ⟩; obtain ⟨u9, x9, h9, bx, ix⟩ := qM.out; have z22 := bx.m.mach.cells.1; rw [bx.m.mv.k.1] at z22; have zc := bx.m.mach.loadCpu; obtain ⟨i0, i1, i2, i3, i4, i5, i6, i7⟩ := accCells ix.blk; clear bx ix; clear qM qZ; simp only [lA, lB, lC]; go_simp; try with_reducible rfl
 refine tke 2 (v := ?v2_45) ?hy2_45 (by assumption) ?rest2_45
 case hy2_45 => rintro wq ⟨qM, qZ⟩; obtain ⟨u9, x9, h9, bx, ix⟩ := qM.out; have z22 := bx.m.mach.cells.1; rw [bx.m.mv.k.1] at z22; have zc := bx.m.mach.loadCpu; obtain ⟨i0, i1, i2, i3, i4, i5, i6, i7⟩ := accCells ix.blk; clear bx ix; clear qM qZ; simp only [lA, lB, lC]; go_simp; try with_reducible rfl
 refine tke 3 (v := ?v3_46) ?hy3_46 (by assumption) ?rest3_46
 case hy3_46 => rintro wq ⟨qM, qZ⟩; obtain ⟨u9, x9, h9, bx, ix⟩ := qM.out; have z22 := bx.m.mach.cells.1; rw [bx.m.mv.k.1] at z22; have zc := bx.m.mach.loadCpu; obtain ⟨i0, i1, i2, i3, i4, i5, i6, i7⟩ := accCells ix.blk; clear bx ix; clear qM qZ; simp only [lA, lB, lC]; go_simp; try with_reducible rfl
 refine tke 4 (v := ?v4_47) ?hy4_47 (by assumption) ?rest4_47
 case hy4_47 => rintro wq ⟨qM, qZ⟩; obtain ⟨u9, x9, h9, bx, ix⟩ := qM.out; have z22 := bx.m.mach.cells.1; rw [bx.m.mv.k.1] at z22; have zc := bx.m.mach.loadCpu; obtain ⟨i0, i1, i2, i3, i4, i5, i6, i7⟩ := accCells ix.blk; clear bx ix; clear qM qZ; simp only [lA, lB, lC]; go_simp; try with_reducible rfl
 refine tke 5 (v := ?v5_48) ?hy5_48 (by assumption) ?rest5_48
 case hy5_48 => rintro wq ⟨qM, qZ⟩; obtain ⟨u9, x9, h9, bx, ix⟩ := qM.out; have z22 := bx.m.mach.cells.1; rw [bx.m.mv.k.1] at z22; have zc := bx.m.mach.loadCpu; obtain ⟨i0, i1, i2, i3, i4, i5, i6, i7⟩ := accCells ix.blk; clear bx ix; clear qM qZ; simp only [lA, lB, lC]; go_simp; try with_reducible rfl
 refine tke 6 (v := ?v6_49) ?hy6_49 (by assumption) ?rest6_49
 case hy6_49 => rintro wq ⟨qM, qZ⟩; obtain ⟨u9, x9, h9, bx, ix⟩ := qM.out; have z22 := bx.m.mach.cells.1; rw [bx.m.mv.k.1] at z22; have zc := bx.m.mach.loadCpu; obtain ⟨i0, i1, i2, i3, i4, i5, i6, i7⟩ := accCells ix.blk; clear bx ix; clear qM qZ; simp only [lA, lB, lC]; go_simp; try with_reducible rfl
 refine tke 7 (v := ?v7_50) ?hy7_50 (by assumption) ?rest7_50
 case hy7_50 => rintro wq ⟨qM, qZ⟩; obtain ⟨u9, x9, h9, bx, ix⟩ := qM.out; have z22 := bx.m.mach.cells.1; rw [bx.m.mv.k.1] at z22; have zc := bx.m.mach.loadCpu; obtain ⟨i0, i1, i2, i3, i4, i5, i6, i7⟩ := accCells ix.blk; clear bx ix; clear qM qZ; simp only [lA, lB, lC]; go_simp; try with_reducible rfl
 refine tke 8 (v := ?v8_51) ?hy8_51 (by assumption) ?rest8_51
 case hy8_51 => rintro wq ⟨qM, qZ⟩; obtain ⟨u9, x9, h9, bx, ix⟩ := qM.out; have z22 := bx.m.mach.cells.1; rw [bx.m.mv.k.1] at z22; have zc := bx.m.mach.loadCpu; obtain ⟨i0, i1, i2, i3, i4, i5, i6, i7⟩ := accCells ix.blk; clear bx ix; clear qM qZ; simp only [lA, lB, lC]; go_simp; try with_reducible rfl
 clear hHeld
 refine wpAnyH_ready (rs := [9]) (by kernel_rfl) (by simp) ?_
 refine (AllReadyH.cons (o := _) rfl (fun K hK => ?_) AllReadyH.nil)
 try simp only [lA, lB, lC]
 go_simp
 go_at_call 67
 refine (racc8 HOK.out HK.out HAD.out HV.out _ LC.out.m.tab).mono ?_
 rintro e w4 ⟨rfl, hb⟩
 have C4 := hid (LC.out.step hb)
 have I4 := hid (LI.out.step hb)
 clear hb LC LI
 refine hK.out _ _ ⟨hid ⟨_, _, _, C4.out, I4.out⟩, JZ⟩ (fun _ => ?_)
 try simp only [lA, lB, lC]
 refine wpAnyH_ready (rs := [10]) (by kernel_rfl) (by simp) ?_
 refine (AllReadyH.cons (o := _) rfl (fun K hK => ?_) AllReadyH.nil)
 try simp only [lA, lB, lC]
 go_simp
 go_at_call 66
 refine (C4.out.m.act HA.out a0 a1 v0 v1).mono ?_
 rintro e w5 ⟨rfl, u5, hist5, m5, v5⟩
 have C5 := hid (C4.out.mm m5 v5)
 have I5 := hid (I4.out.mm v5)
 clear m5 v5 C4 I4
 refine hK.out _ _ ⟨hid ⟨_, _, _, C5.out, I5.out⟩, JZ⟩ (fun _ => ?_)
 try simp only [lA, lB, lC]
 have hHeld2 : ((fun w' => Hid (∃ u9 x9 h9, RS w w' base g u u9 x9 y h9 r q pc ∧ RSide w w' g u9 gi #[.int .i64 jf, .bool ju, .bool jv, .int .i64 ja, .int .i64 jb, .int .i64 jo, .int .i64 jc, .int .i64 jn] 92) ∧ Hid (0 < r)) w5) := ⟨hid ⟨_, _, _, C5.out, I5.out⟩, JZ⟩
 refine tke 11 (v := ?v11_52) ?hy11_52 (by assumption) ?rest11_52
 case hy11_52 => rintro wq ⟨qM, qZ⟩; clear qM qZ; go_simp; try with_reducible rfl
 refine tke 12 (v := ?v12_53) ?hy12_53 (by assumption) ?rest12_53
 case hy12_53 => rintro wq ⟨qM, qZ⟩; clear qM qZ; go_simp; try with_reducible rfl
 refine tke 13 (v := ?v13_54) ?hy13_54 (by assumption) ?rest13_54
 case hy13_54 => rintro wq ⟨qM, qZ⟩; clear qM qZ; go_simp; try with_reducible rfl
 refine tke 14 (v := ?v14_55) ?hy14_55 (by assumption) ?rest14_55
 case hy14_55 => rintro wq ⟨qM, qZ⟩; clear qM qZ; go_simp; try with_reducible rfl
 refine tke 15 (v := ?v15_56) ?hy15_56 (by assumption) ?rest15_56
 case hy15_56 => rintro wq ⟨qM, qZ⟩; clear qM qZ; go_simp; try with_reducible rfl
 refine wpAnyH_done (by kernel_rfl) ?_ _
 clear hHeld2 JM JZ C3 I3
 by_cases hh1 : h = 1
 ·subst hh1
  have HO2 : Hid (OO = .stop 6 0 pc 0 x') := hid (by rw [HO.out]; unfold doneM; rw [if_pos rfl, HPC.out])
  have hld := load_end C5.out.b.blk
  have hst := store_end (k := 6) (t := 0) (a := pc) (s := 0) C5.out.s.blk rfl
  have hres := loadVar_end (C5.out.s.blk.setRow (endA 6 0 pc 0))
  have Q := hid (C5.out.m.sideRow C5.out.s hz0 (endA 6 0 pc 0))
  go_wp2_with fail
  refine bodyPost_ret (v := .tuple #[.agg (endA 6 0 pc 0), .bool true]) ?_ rfl (ROut.stop0 HO2.out rfl Q.out)
  simp [results, Tryz.results42, asAddr, hres]
 by_cases hh2 : h = 2
 ·subst hh2
  have HO2 : Hid (OO = .stop 2 0 0 0 x') := hid (by rw [HO.out]; unfold doneM; rw [if_neg (show ¬ ((2 : Int) = 1) by decide), if_pos rfl])
  have hst : (storeWhole 46 (.pointer (some ⟨r, 0, none⟩)) (.agg #[.int .i64 2, .int .i64 0, .int .u32 0, .int .i64 0])).run Tryz.prog w5 = .ok () (w5.setRow r (endA 2 0 0 0)) := store_end (k := 2) (t := 0) (a := 0) (s := 0) C5.out.s.blk rfl
  have hres := loadVar_end (C5.out.s.blk.setRow (endA 2 0 0 0))
  have Q := hid (C5.out.m.sideRow C5.out.s hz0 (endA 2 0 0 0))
  go_wp2_with fail
  refine bodyPost_ret (v := .tuple #[.agg (endA 2 0 0 0), .bool true]) ?_ rfl (ROut.stop0 HO2.out rfl Q.out)
  simp [results, Tryz.results42, asAddr, hres]
 have hb1 : (h == 1) = false := by simpa using hh1
 have hb2 : (h == 2) = false := by simpa using hh2
 have HO2 : Hid (OO = if t then trapM y.cs x' n else .go X x' (decide (JK = 3) && decide (JA = 4294967252))) := hid (by rw [HO.out]; exact doneM_go hh1 hh2 HEX.out HK.out HAD.out)
 clear hh1 hh2 HO
 go_upto_region 14 with fail
 go_cut [11, 12, 13] from 70 to 80 (fun s11 s12 s13 wx => ∃ gc, s11 = .pointer (some ⟨gc, 0, none⟩) ∧ s12 = .int .i64 n ∧ s13 = .bool t ∧ Hid (RS w wx base g u u5 x' y hist5 r q pc) ∧ Hid (RSide w wx g u5 gc X 50) ∧ Hid (0 < gc ∧ r ≠ gc ∧ q ≠ gc))
 case first =>
  have JC : Hid (RS w w5.drew base g u u5 x' y hist5 r q pc) := hid (C5.out.step ((Below.refl _ _).drew))
  have JI : Hid (RSide w w5.drew g u5 gi #[.int .i64 jf, .bool ju, .bool jv, .int .i64 ja, .int .i64 jb, .int .i64 jo, .int .i64 jc, .int .i64 jn] 92) := hid (I5.out.step ((Below.refl _ _).drew))
  refine wp_region_held_drew (S := (fun w' => Hid (RS w w' base g u u5 x' y hist5 r q pc) ∧ Hid (RSide w w' g u5 gi #[.int .i64 jf, .bool ju, .bool jv, .int .i64 ja, .int .i64 jb, .int .i64 jo, .int .i64 jc, .int .i64 jn] 92))) (by kernel_rfl) ⟨JC, JI⟩ (fun hHeld => ?_)
  clear hHeld
  generalize w5.drew = we at JC JI ⊢
  have hHeld : ((fun w' => Hid (RS w w' base g u u5 x' y hist5 r q pc) ∧ Hid (RSide w w' g u5 gi #[.int .i64 jf, .bool ju, .bool jv, .int .i64 ja, .int .i64 jb, .int .i64 jo, .int .i64 jc, .int .i64 jn] 92)) we) := ⟨JC, JI⟩
  refine tke 0 (v := ?v0_57) ?hy0_57 (by assumption) ?rest0_57
  case hy0_57 => rintro wq ⟨qC, qI⟩; have z22 := qC.out.m.mach.cells.1; have zc := qC.out.m.mach.loadCpu; obtain ⟨i0, i1, i2, i3, i4, i5, i6, i7⟩ := accCells qI.out.blk; clear qC qI; simp only [lA, lB, lC]; go_simp; try with_reducible rfl
  refine tke 1 (v := ?v1_58) ?hy1_58 (by assumption) ?rest1_58
  case hy1_58 => rintro wq ⟨qC, qI⟩; have z22 := qC.out.m.mach.cells.1; have zc := qC.out.m.mach.loadCpu; obtain ⟨i0, i1, i2, i3, i4, i5, i6, i7⟩ := accCells qI.out.blk; clear qC qI; simp only [lA, lB, lC]; go_simp; try with_reducible rfl
  refine tke 2 (v := ?v2_59) ?hy2_59 (by assumption) ?rest2_59
  case hy2_59 => rintro wq ⟨qC, qI⟩; have z22 := qC.out.m.mach.cells.1; have zc := qC.out.m.mach.loadCpu; obtain ⟨i0, i1, i2, i3, i4, i5, i6, i7⟩ := accCells qI.out.blk; clear qC qI; simp only [lA, lB, lC]; go_simp; try with_reducible rfl
  refine tke 3 (v := ?v3_60) ?hy3_60 (by assumption) ?rest3_60
  case hy3_60 => rintro wq ⟨qC, qI⟩; have z22 := qC.out.m.mach.cells.1; have zc := qC.out.m.mach.loadCpu; obtain ⟨i0, i1, i2, i3, i4, i5, i6, i7⟩ := accCells qI.out.blk; clear qC qI; simp only [lA, lB, lC]; go_simp; try with_reducible rfl
  refine tke 4 (v := ?v4_61) ?hy4_61 (by assumption) ?rest4_61
  case hy4_61 => rintro wq ⟨qC, qI⟩; have z22 := qC.out.m.mach.cells.1; have zc := qC.out.m.mach.loadCpu; obtain ⟨i0, i1, i2, i3, i4, i5, i6, i7⟩ := accCells qI.out.blk; clear qC qI; simp only [lA, lB, lC]; go_simp; try with_reducible rfl
  refine tke 5 (v := ?v5_62) ?hy5_62 (by assumption) ?rest5_62
  case hy5_62 => rintro wq ⟨qC, qI⟩; have z22 := qC.out.m.mach.cells.1; have zc := qC.out.m.mach.loadCpu; obtain ⟨i0, i1, i2, i3, i4, i5, i6, i7⟩ := accCells qI.out.blk; clear qC qI; simp only [lA, lB, lC]; go_simp; try with_reducible rfl
  have hZ0 := HWS.out
  refine wpAnyH_ready (rs := [6, 11]) (by kernel_rfl) (by simp) ?_
  refine AllReadyH.cons (o := _) rfl (fun K hK => ?_) (AllReadyH.cons (o := _) rfl (fun K hK => ?_) AllReadyH.nil)
  ·skip
   try simp only [lA, lB, lC]
   go_simp
   go_at_call 68
   refine (rexec8 HOK.out l0 l1 HEX.out _).mono ?_
   rintro e w6 ⟨rfl, hb⟩
   have LC := hid (JC.out.step hb)
   have LI := hid (JI.out.step hb)
   clear hb
   refine hK.out _ _ ⟨LC, LI⟩ (fun _ => ?_)
   try simp only [lA, lB, lC]
   have hHeld3 : ((fun w' => Hid (RS w w' base g u u5 x' y hist5 r q pc) ∧ Hid (RSide w w' g u5 gi #[.int .i64 jf, .bool ju, .bool jv, .int .i64 ja, .int .i64 jb, .int .i64 jo, .int .i64 jc, .int .i64 jn] 92)) w6) := ⟨LC, LI⟩
   refine tke 7 (v := ?v7_63) ?hy7_63 (by assumption) ?rest7_63
   case hy7_63 => rintro wq ⟨qC, qI⟩; clear qC qI; go_simp; try with_reducible rfl
   refine tke 8 (v := ?v8_64) ?hy8_64 (by assumption) ?rest8_64
   case hy8_64 => rintro wq ⟨qC, qI⟩; clear qC qI; go_simp; try with_reducible rfl
   refine tke 9 (v := ?v9_65) ?hy9_65 (by assumption) ?rest9_65
   case hy9_65 => rintro wq ⟨qC, qI⟩; clear qC qI; go_simp; try with_reducible rfl
   refine tke 10 (v := ?v10_66) ?hy10_66 (by assumption) ?rest10_66
   case hy10_66 => rintro wq ⟨qC, qI⟩; clear qC qI; go_simp; try with_reducible rfl
   refine wpAnyH_ready (rs := [11]) (by kernel_rfl) (by simp) ?_
   refine (AllReadyH.cons (o := _) rfl (fun K hK => ?_) AllReadyH.nil)
   try simp only [lA, lB, lC]
   go_simp
   have NC := hid (LC.out.alloc (.cells #[.int .u32 0, .int .u32 0, .int .u32 0, .int .u32 0, .int .u32 0, .int .u32 0, .int .u32 0, .int .u32 0, .int .u32 0, .int .u32 0, .int .u32 0, .int .u32 0, .int .u32 0, .int .u32 0, .int .u32 0, .int .u32 0, .int .u32 0, .bool false, .bool false, .bool false, .bool false, .int .u32 0] 50))
   have NI := hid (LI.out.alloc (.cells #[.int .u32 0, .int .u32 0, .int .u32 0, .int .u32 0, .int .u32 0, .int .u32 0, .int .u32 0, .int .u32 0, .int .u32 0, .int .u32 0, .int .u32 0, .int .u32 0, .int .u32 0, .int .u32 0, .int .u32 0, .int .u32 0, .int .u32 0, .bool false, .bool false, .bool false, .bool false, .int .u32 0] 50))
   have NN := hid (RSide.new LC.out.m #[.int .u32 0, .int .u32 0, .int .u32 0, .int .u32 0, .int .u32 0, .int .u32 0, .int .u32 0, .int .u32 0, .int .u32 0, .int .u32 0, .int .u32 0, .int .u32 0, .int .u32 0, .int .u32 0, .int .u32 0, .int .u32 0, .int .u32 0, .bool false, .bool false, .bool false, .bool false, .int .u32 0] 50)
   have hg : Hid (0 < w6.heap.size ∧ r ≠ w6.heap.size ∧ q ≠ w6.heap.size ∧ gi ≠ w6.heap.size) := hid ⟨Nat.lt_of_lt_of_le hZ0 LC.out.m.le, Nat.ne_of_lt LC.out.s.blk.lt, Nat.ne_of_lt LC.out.b.blk.lt, Nat.ne_of_lt LI.out.blk.lt⟩
   refine hK.out _ _ ⟨NC, NI⟩ (fun _ => ?_)
   try simp only [lA, lB, lC]
   generalize w6.alloc (.cells #[.int .u32 0, .int .u32 0, .int .u32 0, .int .u32 0, .int .u32 0, .int .u32 0, .int .u32 0, .int .u32 0, .int .u32 0, .int .u32 0, .int .u32 0, .int .u32 0, .int .u32 0, .int .u32 0, .int .u32 0, .int .u32 0, .int .u32 0, .bool false, .bool false, .bool false, .bool false, .int .u32 0] 50) = wy at NC NI NN ⊢
   generalize w6.heap.size = gc at NN hg ⊢
   refine wpAnyH_ready (rs := [12]) (by kernel_rfl) (by simp) ?_
   refine (AllReadyH.cons (o := _) rfl (fun K hK => ?_) AllReadyH.nil)
   have hst := store_cpu NN.out.blk rfl HXO.out.size HXO.out.one
   try simp only [lA, lB, lC]
   go_simp
   have PC := hid (NC.out.side NN.out hg.out.1 hg.out.2.1 hg.out.2.2.1 X)
   have PI := hid (NI.out.farRow hg.out.2.2.2 X)
   have PN := hid (NN.out.setRow X)
   refine hK.out _ _ ⟨PC, PI⟩ (fun _ => ?_)
   try simp only [lA, lB, lC]
   refine tke 13 (v := ?v13_67) ?hy13_67 (by assumption) ?rest13_67
   case hy13_67 => rintro wq ⟨qC, qI⟩; clear qC qI; go_simp; try with_reducible rfl
   refine tke 14 (v := ?v14_68) ?hy14_68 (by assumption) ?rest14_68
   case hy14_68 => rintro wq ⟨qC, qI⟩; clear qC qI; go_simp; try with_reducible rfl
   refine wpAnyH_done (by kernel_rfl) ?_ _
   clear hst
   go_wp2_with fail
   go_meet
   exact ⟨gc, rfl, rfl, rfl, PC, PN, hid ⟨hg.out.1, hg.out.2.1, hg.out.2.2.1⟩⟩
  ·skip
   try simp only [lA, lB, lC]
   go_simp
   have NC := hid (JC.out.alloc (.cells #[.int .u32 0, .int .u32 0, .int .u32 0, .int .u32 0, .int .u32 0, .int .u32 0, .int .u32 0, .int .u32 0, .int .u32 0, .int .u32 0, .int .u32 0, .int .u32 0, .int .u32 0, .int .u32 0, .int .u32 0, .int .u32 0, .int .u32 0, .bool false, .bool false, .bool false, .bool false, .int .u32 0] 50))
   have NI := hid (JI.out.alloc (.cells #[.int .u32 0, .int .u32 0, .int .u32 0, .int .u32 0, .int .u32 0, .int .u32 0, .int .u32 0, .int .u32 0, .int .u32 0, .int .u32 0, .int .u32 0, .int .u32 0, .int .u32 0, .int .u32 0, .int .u32 0, .int .u32 0, .int .u32 0, .bool false, .bool false, .bool false, .bool false, .int .u32 0] 50))
   have NN := hid (RSide.new JC.out.m #[.int .u32 0, .int .u32 0, .int .u32 0, .int .u32 0, .int .u32 0, .int .u32 0, .int .u32 0, .int .u32 0, .int .u32 0, .int .u32 0, .int .u32 0, .int .u32 0, .int .u32 0, .int .u32 0, .int .u32 0, .int .u32 0, .int .u32 0, .bool false, .bool false, .bool false, .bool false, .int .u32 0] 50)
   have hg : Hid (0 < we.heap.size ∧ r ≠ we.heap.size ∧ q ≠ we.heap.size ∧ gi ≠ we.heap.size) := hid ⟨Nat.lt_of_lt_of_le hZ0 JC.out.m.le, Nat.ne_of_lt JC.out.s.blk.lt, Nat.ne_of_lt JC.out.b.blk.lt, Nat.ne_of_lt JI.out.blk.lt⟩
   refine hK.out _ _ ⟨NC, NI⟩ (fun _ => ?_)
   try simp only [lA, lB, lC]
   generalize we.alloc (.cells #[.int .u32 0, .int .u32 0, .int .u32 0, .int .u32 0, .int .u32 0, .int .u32 0, .int .u32 0, .int .u32 0, .int .u32 0, .int .u32 0, .int .u32 0, .int .u32 0, .int .u32 0, .int .u32 0, .int .u32 0, .int .u32 0, .int .u32 0, .bool false, .bool false, .bool false, .bool false, .int .u32 0] 50) = wy at NC NI NN ⊢
   generalize we.heap.size = gc at NN hg ⊢
   refine wpAnyH_ready (rs := [6]) (by kernel_rfl) (by simp) ?_
   refine (AllReadyH.cons (o := _) rfl (fun K hK => ?_) AllReadyH.nil)
   try simp only [lA, lB, lC]
   go_simp
   go_at_call 68
   refine (rexec8 HOK.out l0 l1 HEX.out _).mono ?_
   rintro e w6 ⟨rfl, hb⟩
   have LC := hid (NC.out.step hb)
   have LI := hid (NI.out.step hb)
   have LN := hid (NN.out.step hb)
   clear hb
   refine hK.out _ _ ⟨LC, LI⟩ (fun _ => ?_)
   try simp only [lA, lB, lC]
   have hHeld3 : ((fun w' => Hid (RS w w' base g u u5 x' y hist5 r q pc) ∧ Hid (RSide w w' g u5 gi #[.int .i64 jf, .bool ju, .bool jv, .int .i64 ja, .int .i64 jb, .int .i64 jo, .int .i64 jc, .int .i64 jn] 92)) w6) := ⟨LC, LI⟩
   refine tke 7 (v := ?v7_69) ?hy7_69 (by assumption) ?rest7_69
   case hy7_69 => rintro wq ⟨qC, qI⟩; clear qC qI; go_simp; try with_reducible rfl
   refine tke 8 (v := ?v8_70) ?hy8_70 (by assumption) ?rest8_70
   case hy8_70 => rintro wq ⟨qC, qI⟩; clear qC qI; go_simp; try with_reducible rfl
   refine tke 9 (v := ?v9_71) ?hy9_71 (by assumption) ?rest9_71
   case hy9_71 => rintro wq ⟨qC, qI⟩; clear qC qI; go_simp; try with_reducible rfl
   refine tke 10 (v := ?v10_72) ?hy10_72 (by assumption) ?rest10_72
   case hy10_72 => rintro wq ⟨qC, qI⟩; clear qC qI; go_simp; try with_reducible rfl
   refine wpAnyH_ready (rs := [12]) (by kernel_rfl) (by simp) ?_
   refine (AllReadyH.cons (o := _) rfl (fun K hK => ?_) AllReadyH.nil)
   have hst := store_cpu LN.out.blk rfl HXO.out.size HXO.out.one
   try simp only [lA, lB, lC]
   go_simp
   have PC := hid (LC.out.side LN.out hg.out.1 hg.out.2.1 hg.out.2.2.1 X)
   have PI := hid (LI.out.farRow hg.out.2.2.2 X)
   have PN := hid (LN.out.setRow X)
   refine hK.out _ _ ⟨PC, PI⟩ (fun _ => ?_)
   try simp only [lA, lB, lC]
   refine tke 13 (v := ?v13_73) ?hy13_73 (by assumption) ?rest13_73
   case hy13_73 => rintro wq ⟨qC, qI⟩; clear qC qI; go_simp; try with_reducible rfl
   refine tke 14 (v := ?v14_74) ?hy14_74 (by assumption) ?rest14_74
   case hy14_74 => rintro wq ⟨qC, qI⟩; clear qC qI; go_simp; try with_reducible rfl
   refine wpAnyH_done (by kernel_rfl) ?_ _
   clear hst
   go_wp2_with fail
   go_meet
   exact ⟨gc, rfl, rfl, rfl, PC, PN, hid ⟨hg.out.1, hg.out.2.1, hg.out.2.2.1⟩⟩
 case rest =>
 obtain ⟨gc, rfl, rfl, rfl, C6, N6, hg6⟩ := hcut
 clear C5 I5 HEX
 cases t
 ·have HO3 : Hid (OO = .go X x' (decide (JK = 3) && decide (JA = 4294967252))) := hid HO2.out
  have hld := load_cpu N6.out.blk HXO.out.size
  have hsc := C6.out.m.mach.storeCpu HXO.out
  go_upto_region 18 with fail
  have R7 := hid (C6.out.m.setCpu HXO.out)
  have S7 := hid (C6.out.s.setOwnCells 0 X.toList)
  clear hld hsc C6 N6 HO2
  generalize World.setCells _ g 0 X.toList = W7 at R7 S7 ⊢
  have c24 := R7.out.mach.cells.2.2
  have f24 := R7.out.mach.frozen 24
  have hwr : IntKind.i64.wrap (y.st + 1) = y.st + 1 := IntWalk.i64_in _ (by omega)
  go_upto_region 19 with fail
  have R8 := hid (R7.out.setSt (y.st + 1))
  have S8 := hid (S7.out.setOwn 24 (.int .i64 (y.st + 1)))
  clear R7 S7 c24 f24 hwr
  generalize W7.setCell ⟨g, 24, none⟩ (.int .i64 (y.st + 1)) = W8 at R8 S8 ⊢
  have hst : (storeWhole 46 (.pointer (some ⟨r, 0, none⟩)) (.agg #[.int .i64 0, .int .i64 0, .int .u32 0, .int .i64 0])).run Tryz.prog W8 = .ok () (W8.setRow r (endA 0 0 0 0)) := store_end (k := 0) (t := 0) (a := 0) (s := 0) S8.out.blk rfl
  have hres := loadVar_end (S8.out.blk.setRow (endA 0 0 0 0))
  have Q := hid (R8.out.sideRow S8.out hz0 (endA 0 0 0 0))
  go_wp2_with fail
  refine bodyPost_ret (v := .tuple #[.agg (endA 0 0 0 0), .bool false]) ?_ rfl (by rw [HO3.out]; exact ⟨rfl, Q.out.out⟩)
  simp [results, Tryz.results42, asAddr, hres]
 ·have HO3 : Hid (OO = trapM y.cs x' n) := hid HO2.out
  have htr := rtrap_any C6.out.m.mach C6.out.m.tab C6.out.m.pos s0 s1 n
  rw [← HO3.out] at htr
  cases OO with
  | stop k9 t9 a9 s9 x9 =>
   have HTR := hid htr
   clear htr HO2 HO3
   go_wp2_with (go_at_call 69; refine HTR.out.mono ?_; rintro e w7 ⟨rfl, u7, hist7, m7, v7⟩; have R7 := hid (C6.out.m.mm m7 v7); have S7 := hid (C6.out.s.mm v7); have hst := store_end (k := k9) (t := t9) (a := a9) (s := 0) S7.out.blk rfl; have hres := loadVar_end (S7.out.blk.setRow (endA k9 t9 a9 0)); have Q := hid (R7.out.sideRow S7.out hz0 (endA k9 t9 a9 0)); clear m7 v7)
   refine bodyPost_ret (v := .tuple #[.agg (endA k9 t9 a9 0), .bool true]) ?_ rfl ⟨rfl, Q.out.out⟩
   simp [results, Tryz.results42, asAddr, hres]
  | go cs9 x9 lk9 =>
   have HTR := hid htr
   clear htr HO2 HO3
   go_wp2_with (go_at_call 69; refine HTR.out.mono ?_; rintro e w7 ⟨rfl, u7, hist7, m7, v7⟩; have R7 := hid (C6.out.m.mm m7 v7); have S7 := hid (C6.out.s.mm v7); have hst := store_end (k := 0) (t := 0) (a := 0) (s := 0) S7.out.blk rfl; have hres := loadVar_end (S7.out.blk.setRow (endA 0 0 0 0)); have Q := hid (R7.out.sideRow S7.out hz0 (endA 0 0 0 0)); clear m7 v7)
   refine bodyPost_ret (v := .tuple #[.agg (endA 0 0 0 0), .bool false]) ?_ rfl ⟨rfl, Q.out.out⟩
   simp [results, Tryz.results42, asAddr, hres]
theorem rstep_any (M : RMachAt w base g u x y hist) (hT : Tab w) (hpos : 0 < base) (s0 : 0 ≤ y.st) (s1 : y.st ≤ 9000000000000000000) :
 Calls Tryz.prog 42 #[.pointer (some ⟨g, 0, none⟩)] w fun e w' => ROut w w' base g u y (stepM y.cs x) e := by
 obtain ⟨hp, p0, p1⟩ := pc_is M.ok
 by_cases hin : pcOf y.cs < 1048576 ∧ pcOf y.cs % 4 = 0
 ·obtain ⟨z0, z1⟩ := getV_bd M.bus.mb (pcOf y.cs).toNat
  obtain ⟨z, hz⟩ : ∃ z, getV x.M (pcOf y.cs).toNat = z := ⟨_, rfl⟩
  rw [hz] at z0 z1
  obtain ⟨⟨jf, ju, jv, ja, jb, jo, jc, jn⟩, hi⟩ : ∃ i, inOf z = i := ⟨_, rfl⟩
  cases hq : decOk z
  ·exact rstep_ill M hT hpos s0 s1 hp p0 p1 hin.1 hin.2 hz z0 z1 hi hq (by unfold stepM; rw [if_pos hin, hz, hq]; rfl)
  ·obtain ⟨⟨l, h, x'⟩, hact⟩ : ∃ o, x.act (⟨jf, ju, jv, ja, jb, jo, jc, jn⟩ : In8).k ((⟨jf, ju, jv, ja, jb, jo, jc, jn⟩ : In8).ad y.cs) ((⟨jf, ju, jv, ja, jb, jo, jc, jn⟩ : In8).val y.cs) = o := ⟨_, rfl⟩
   obtain ⟨⟨X, n, t⟩, hex⟩ : ∃ o, (⟨jf, ju, jv, ja, jb, jo, jc, jn⟩ : In8).ex y.cs l = o := ⟨_, rfl⟩
   exact rstep_do M hT hpos s0 s1 hp p0 p1 rfl hin.1 hin.2 hz z0 z1 hi hq rfl rfl rfl hact hex (by unfold stepM; rw [if_pos hin, hz, hq, if_pos rfl, hi, hact])
 ·exact rstep_out M hT hpos s0 s1 hp p0 p1 hin (by unfold stepM; rw [if_neg hin])
end
end Go.Proofs.YtgcknekhimpfkaaGreatDoor
namespace Go.Proofs.YtgcknekhimpfkaaGreatDoor
open Go Go.RowKit Go.Lib Go.Proofs.YtgcknekhimpfkaaGreatDoor.Pl
set_option linter.unusedVariables false
set_option linter.unusedSimpArgs false
attribute [local go_sem ↓] exec_load_end exec_store_end exec_load_cpu exec_store_cpu
theorem run_at {cut : Int} {k : Nat} {cs cs' : Array Value} {x x' : BS} {lk : Bool} {d : Nat} (hl : lookV cut x.ws.length = false) (h : stepM cs x = .go cs' x' lk) : runM cut (k + 1) cs x false d = runM cut k cs' x' (lookV cut x'.ws.length) (d + 1) := by
 rw [runM_go h]
 cases lk
 ·rw [(go_ws h).2.2 rfl, hl]; rfl
 ·rw [Bool.true_and]
theorem stop_did {cs : Array Value} {x : BS} {k t a : Int} {s : Nat} {x' : BS} (h : stepM cs x = .stop k t a s x') : s ≤ 1 := by
 unfold stepM doneM trapM at h
 repeat' split at h
 all_goals first | (injection h with _ _ _ h4 _; omega) | (cases h)
/-- Within a run. -/
structure RL (w0 w : World) (base g : Nat) (u0 : RV) (y : RMC) (r n did : Nat) (Z : MRes) (u : RV) (x : BS) (cs : Array Value) (hist : List (Nat × ByteArray)) : Prop where
 m : RW w0 w base g u0 u x { y with cs := cs, st := y.st + (did : Int) } hist
 s : RSide w0 w g u r zEnd 46
 z : runM y.cut (n - did) cs x (lookV y.cut x.ws.length) did = Z
 le : did ≤ n
section
variable {w0 w w' : World} {base g : Nat} {u0 u u' : RV} {x x' : BS} {y : RMC} {hist hist' : List (Nat × ByteArray)} {r n did : Nat} {Z : MRes} {cs cs' : Array Value}
theorem RL.step (R : RL w0 w base g u0 y r n did Z u x cs hist) (h : Below w.heap.size w w') : RL w0 w' base g u0 y r n did Z u x cs hist := ⟨R.m.step h, R.s.step h, R.z, R.le⟩
theorem RL.drew (R : RL w0 w base g u0 y r n did Z u x cs hist) (k : Nat) : RL w0 (w.drewN k) base g u0 y r n did Z u x cs hist := R.step ⟨rfl, rfl, rfl, Nat.le_refl _, fun _ _ => rfl⟩
def RMu (n : Nat) (g : Nat) (st : Int) (w : World) : Nat := n - (intOf ((w.cell? ⟨g, 24, none⟩).getD undef) - st).toNat
theorem RL.mu (R : RL w0 w base g u0 y r n did Z u x cs hist) : RMu n g y.st w = n - did := by
 unfold RMu
 rw [R.m.mach.cells.2.2]
 simp only [Option.getD_some, intOf]
 congr 1
 omega
theorem RL.few (R : RL w0 w base g u0 y r n did Z u x cs hist) : x.ws.length = hist.length ∧ hist.length ≤ 4096 := ⟨by rw [R.m.mach.bus.ws, rolds_length], R.m.mach.bus.few⟩
/-- What a run answers. -/
def RRan (w w' : World) (base g : Nat) (u : RV) (y : RMC) (Z : MRes) (e : Ending) : Prop := ∃ k t a x' cs' gg, ∃ d : Nat, Z = ⟨k, t, a, d, cs', x', gg⟩ ∧ e = .returned (.agg (endA k t a d)) ∧ ∃ u' hist', RMachAt w' base g u' x' { y with cs := cs', st := y.st + (d : Int) } hist' ∧ RMMoves w w' g u u'
end
section
variable {w : World} {base g : Nat} {u : RV} {x : BS} {y : RMC} {hist : List (Nat × ByteArray)}
set_option maxRecDepth 100000 in
theorem rrun_any (M : RMachAt w base g u x y hist) (hT : Tab w) (hpos : 0 < base) (most : Int) (n : Nat) (hn : min (max most 0) 10000000 = (n : Int)) (s0 : 0 ≤ y.st) (s1 : y.st ≤ 8000000000000000000) :
 Calls Tryz.prog 16 #[.pointer (some ⟨g, 0, none⟩), .int .i64 most] w fun e w' => RRan w w' base g u y (runM y.cut n y.cs x (lookV y.cut x.ws.length) 0) e := by
 obtain ⟨Z, hZ⟩ : ∃ Z, runM y.cut n y.cs x (lookV y.cut x.ws.length) 0 = Z := ⟨_, rfl⟩
 rw [hZ]
 have HZ := hid hZ
 have hn8 : n ≤ 10000000 := by omega
 have HN := hid hn
 clear hZ hn
 go_enter Tryz.func16, Tryz.ntmps16
 go_upto_region 1 with fail
 have RI := show RW w w base g u u x y hist from ⟨M, RMMoves.refl _ _ _, hT, hpos⟩
 have hz0 : 0 < w.heap.size := Nat.lt_of_le_of_lt (Nat.zero_le _) hT.lt
 have L0 := hid (show RL w (w.alloc (.cells zEnd 46)) base g u y w.heap.size n 0 Z u x y.cs hist from ⟨by
  have : ({ y with cs := y.cs, st := y.st + ((0 : Nat) : Int) } : RMC) = y := by cases y; simp
  rw [this]
  exact RI.alloc _, RSide.new RI zEnd 46, HZ.out, Nat.zero_le _⟩)
 clear RI M hT HZ
 change Code.wp _ _ _ _ (w.alloc (.cells zEnd 46))
 obtain ⟨W, hW⟩ : ∃ W, w.alloc (.cells zEnd 46) = W := ⟨_, rfl⟩
 rw [hW] at L0 ⊢
 clear hW
 obtain ⟨r, hr⟩ : ∃ r, w.heap.size = r := ⟨_, rfl⟩
 rw [hr] at L0 hz0 ⊢
 clear hr
 have c24 : W.cell? ⟨g, 24, none⟩ = some (.int .i64 y.st) := by
  have := L0.out.m.mach.cells.2.2
  simpa using this
 go_wp2_with fail
 go_loopw [6, 7, 8] (fun _ _ _ wr => ∃ did ul xl csl histl, Hid (RL w wr base g u y r n did Z ul xl csl histl)) (fun _ _ _ wr => RMu n g y.st wr)
 case atStart => exact ⟨0, u, x, y.cs, hist, L0⟩
 case round =>
  obtain ⟨did, ul, xl, csl, histl, HL⟩ := hrel
  clear L0 c24
  have hle := HL.out.le
  have hmu := hid HL.out.mu
  have c24 : wr.cell? ⟨g, 24, none⟩ = some (.int .i64 (y.st + (did : Int))) := HL.out.m.mach.cells.2.2
  have hwd : IntKind.i64.wrap (y.st + (did : Int) - y.st) = (did : Int) := by rw [show y.st + (did : Int) - y.st = (did : Int) from by omega]; exact IntWalk.i64_in _ (by omega)
  go_upto_region 3 with fail
  clear hwd
  obtain ⟨hwl, hfew⟩ := HL.out.few
  obtain ⟨bl, hbl⟩ : ∃ b, lookV y.cut xl.ws.length = b := ⟨_, rfl⟩
  go_cut [41] from 19 to 40 (fun s41 wx => s41 = .bool bl ∧ Hid (RL w wx base g u y r n did Z ul xl csl histl))
  case first =>
   have c22 := HL.out.m.mach.cells.1
   have c23 := HL.out.m.mach.cells.2.1
   have cd := HL.out.m.mach.bus.cells.2.1
   have cw := HL.out.m.mach.bus.disk.c1
   obtain ⟨q, c, hv, _⟩ := HL.out.m.mach.bus.disk.wform
   rw [hv] at cw
   clear hv
   have HLQ := hid (fun k => HL.out.drew k)
   by_cases h0 : 0 ≤ y.cut
   ·have t0 : decide ((0 : Int) ≤ y.cut) = true := decide_eq_true h0
    have hb : bl = decide (y.cut ≤ (histl.length : Int)) := by rw [← hbl, hwl]; unfold lookV; rw [t0, Bool.true_and]
    have HBL := hid hb
    clear HL hmu hbl hb hwl
    go_quiet (fail)
    go_wp2_with fail
    go_meet
    exact ⟨by rw [HBL.out], hid (HLQ.out _)⟩
   ·have t0 : decide ((0 : Int) ≤ y.cut) = false := decide_eq_false h0
    have hb : bl = false := by rw [← hbl, hwl]; unfold lookV; rw [t0, Bool.false_and]
    have HBL := hid hb
    clear HL hmu hbl hb hwl
    go_quiet (fail)
    go_wp2_with fail
    go_meet
    exact ⟨by rw [HBL.out], hid (HLQ.out _)⟩
  case rest =>
  obtain ⟨rfl, HL2⟩ := hcut
  clear HL c24
  have HBL := hid hbl
  clear hbl hwl
  cases bl
  ·by_cases hdn : did = n
   ·have hE : Z = ⟨1, 0, 0, did, csl, xl, false⟩ := by rw [← HL2.out.z, HBL.out, show n - did = 0 from by omega]; rfl
    have HE := hid hE
    have S := HL2.out.s
    have hres := loadVar_end (S.blk.setRow (endA 1 0 0 did))
    have Q := hid (HL2.out.m.sideRow S hz0 (endA 1 0 0 did))
    have hnn := HN.out
    clear hE
    have hst : (storeWhole 46 (.pointer (some ⟨r, 0, none⟩)) (.agg #[.int .i64 1, .int .i64 0, .int .u32 0, .int .i64 (did : Int)])).run Tryz.prog wc = .ok () (wc.setRow r (endA 1 0 0 did)) := store_end (k := 1) (t := 0) (a := 0) (s := (did : Int)) S.blk rfl
    have H77 := hid (show most ≤ (did : Int) ∨ (10000000 : Int) ≤ (did : Int) by omega)
    clear S hdn hnn
    by_cases hm : most ≤ (did : Int)
    ·have t1 : decide (most ≤ (did : Int)) = true := decide_eq_true hm
     go_wp2_with fail
     refine bodyPost_ret (v := .agg (endA 1 0 0 did)) ?_ rfl ⟨1, 0, 0, xl, csl, false, did, HE.out, rfl, Q.out.out⟩
     simp [results, Tryz.results16, asAddr, hres]
    ·have t1 : decide (most ≤ (did : Int)) = false := decide_eq_false hm
     have t2 : decide ((10000000 : Int) ≤ (did : Int)) = true := decide_eq_true (H77.out.resolve_left hm)
     go_wp2_with fail
     refine bodyPost_ret (v := .agg (endA 1 0 0 did)) ?_ rfl ⟨1, 0, 0, xl, csl, false, did, HE.out, rfl, Q.out.out⟩
     simp [results, Tryz.results16, asAddr, hres]
   ·have hnn := HN.out
    have hm : ¬ most ≤ (did : Int) := by omega
    have h7 : ¬ (10000000 : Int) ≤ (did : Int) := by omega
    have t1 : decide (most ≤ (did : Int)) = false := decide_eq_false hm
    have t2 : decide ((10000000 : Int) ≤ (did : Int)) = false := decide_eq_false h7
    obtain ⟨k1, hk1⟩ : ∃ k1, n - did = k1 + 1 := ⟨n - did - 1, by omega⟩
    have HK1 := hid hk1
    have HDL := hid (show did < n by omega)
    clear hm h7 hnn hk1 hdn
    have hsa := rstep_any HL2.out.m.mach HL2.out.m.tab HL2.out.m.pos (show (0 : Int) ≤ y.st + (did : Int) by omega) (show y.st + (did : Int) ≤ 9000000000000000000 by omega)
    obtain ⟨o, ho⟩ : ∃ o, stepM csl xl = o := ⟨_, rfl⟩
    simp only at hsa
    rw [ho] at hsa
    cases o with
    | stop k t a s x9 =>
     have HSA := hid hsa
     have HOO := hid ho
     have hE : Z = ⟨k, t, a, did + s, csl, x9, false⟩ := by rw [← HL2.out.z, HBL.out, HK1.out]; exact runM_stop ho
     have HE := hid hE
     have hs1 : s ≤ 1 := by have := stop_did ho; omega
     obtain ⟨ds, hds⟩ : ∃ ds : Nat, did + s = ds := ⟨_, rfl⟩
     rw [hds] at HE
     have HDS := hid hds
     clear hsa ho hE hds
     go_upto_region 8 with (go_at_call 42; refine HSA.out.mono ?_; rintro e w5 ⟨rfl, u5, hist5, m5, v5⟩; have hnw := new_end w5 k t a 0 #[.int .i64 0, .int .i64 0, .int .u32 0, .int .i64 0] rfl; have R5 := hid (HL2.out.m.mm m5 v5); have S5 := hid (HL2.out.s.mm v5); clear m5 v5)
     clear hnw
     have R6 := hid (R5.out.alloc (.cells (endA k t a 0) 46))
     have S6 := hid (S5.out.alloc (.cells (endA k t a 0) 46))
     have E6 := hid (RSide.new R5.out (endA k t a 0) 46)
     have hre : Hid (r ≠ w5.heap.size ∧ w5.heap.size ≠ g ∧ 0 < w5.heap.size) := hid ⟨Nat.ne_of_lt S5.out.blk.lt, Nat.ne_of_gt R5.out.mach.glt, Nat.lt_of_le_of_lt (Nat.zero_le _) S5.out.blk.lt⟩
     clear R5 S5
     generalize w5.alloc (.cells (endA k t a 0) 46) = w6 at R6 S6 E6 ⊢
     generalize w5.heap.size = be at E6 hre ⊢
     have c24 : w6.cell? ⟨g, 24, none⟩ = some (.int .i64 (y.st + (did : Int) + (s : Int))) := R6.out.mach.cells.2.2
     have f3 := E6.out.blk.frozen 3
     have c3 : w6.cell? ⟨be, 3, none⟩ = some (.int .i64 0) := E6.out.blk.cell 3
     have hwd : IntKind.i64.wrap (y.st + (did : Int) + (s : Int) - y.st) = (ds : Int) := by have hq := HDS.out; rw [show y.st + (did : Int) + (s : Int) - y.st = (ds : Int) from by omega]; exact IntWalk.i64_in _ (by omega)
     go_upto_region 10 with fail
     clear c24 f3 c3 hwd
     have R7 := hid (R6.out.sideSet E6.out hre.out.2.2 3 (.int .i64 (ds : Int)))
     have S7 := hid (S6.out.far (k := be) (j := 3) hre.out.1 (.int .i64 (ds : Int)))
     have E7 : Hid (RSide w (w6.setCell ⟨be, 3, none⟩ (.int .i64 (ds : Int))) g u5 be (endA k t a (ds : Int)) 46) := hid (E6.out.set 3 (.int .i64 (ds : Int)))
     clear R6 S6 E6
     generalize w6.setCell ⟨be, 3, none⟩ (.int .i64 (ds : Int)) = w7 at R7 S7 E7 ⊢
     have hld := load_end E7.out.blk
     have hst := store_end (k := k) (t := t) (a := a) (s := (ds : Int)) S7.out.blk rfl
     have hres := loadVar_end (S7.out.blk.setRow (endA k t a (ds : Int)))
     have Q := hid (R7.out.sideRow S7.out hz0 (endA k t a (ds : Int)))
     have hsum : y.st + (did : Int) + (s : Int) = y.st + (ds : Int) := by have hq := HDS.out; omega
     rw [hsum] at Q
     clear hsum
     go_wp2_with fail
     refine bodyPost_ret (v := .agg (endA k t a (ds : Int))) ?_ rfl ⟨k, t, a, x9, csl, false, ds, HE.out, rfl, Q.out.out⟩
     simp [results, Tryz.results16, asAddr, hres]
    | go cs9 x9 lk =>
     have HSA := hid hsa
     have HOO := hid ho
     have hE : runM y.cut (n - (did + 1)) cs9 x9 (lookV y.cut x9.ws.length) (did + 1) = Z := by
      rw [← HL2.out.z, HBL.out, HK1.out, run_at HBL.out ho, show n - (did + 1) = k1 from by have := HK1.out; omega]
     have HE := hid hE
     clear hsa ho hE
     go_wp2_with (go_at_call 42; refine HSA.out.mono ?_; rintro e w5 ⟨rfl, u5, hist5, m5, v5⟩; have hnw := new_end w5 0 0 0 0 #[.int .i64 0, .int .i64 0, .int .u32 0, .int .i64 0] rfl; have R5 := hid (HL2.out.m.mm m5 v5); have S5 := hid (HL2.out.s.mm v5); clear m5 v5)
     have L6 := hid (show RL w (w5.alloc (.cells (endA 0 0 0 0) 46)) base g u y r n (did + 1) Z u5 x9 cs9 hist5 from ⟨by
      have h9 := R5.out.alloc (.cells (endA 0 0 0 0) 46)
      have hsum : y.st + (did : Int) + 1 = y.st + ((did + 1 : Nat) : Int) := by omega
      simp only [hsum] at h9
      exact h9, S5.out.alloc _, HE.out, HDL.out⟩)
     go_roundw
     case rel => exact ⟨did + 1, u5, x9, cs9, hist5, L6⟩
     case measure => rw [L6.out.mu, hmu.out]; have := HDL.out; omega
  ·have hE : Z = ⟨7, 0, 0, did, csl, xl, true⟩ := by rw [← HL2.out.z, HBL.out]; exact runM_gone _ _ _ _ _
   have HE := hid hE
   have S := HL2.out.s
   have hres := loadVar_end (S.blk.setRow (endA 7 0 0 did))
   have Q := hid (HL2.out.m.sideRow S hz0 (endA 7 0 0 did))
   have hst : (storeWhole 46 (.pointer (some ⟨r, 0, none⟩)) (.agg #[.int .i64 7, .int .i64 0, .int .u32 0, .int .i64 (did : Int)])).run Tryz.prog wc = .ok () (wc.setRow r (endA 7 0 0 did)) := store_end (k := 7) (t := 0) (a := 0) (s := (did : Int)) S.blk rfl
   clear hE S
   go_wp2_with fail
   refine bodyPost_ret (v := .agg (endA 7 0 0 did)) ?_ rfl ⟨7, 0, 0, xl, csl, true, did, HE.out, rfl, Q.out.out⟩
   simp [results, Tryz.results16, asAddr, hres]
end
end Go.Proofs.YtgcknekhimpfkaaGreatDoor
