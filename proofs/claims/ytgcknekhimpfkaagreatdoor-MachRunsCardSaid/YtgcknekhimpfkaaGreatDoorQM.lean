/- A machine as it lies in memory; its small functions. -/
import Derived.Test.YtgcknekhimpfkaaGreatDoorBusK
import Derived.Test.YtgcknekhimpfkaaGreatDoorQN
import Derived.Test.YtgcknekhimpfkaaGreatDoorQE
import Derived.StillTailTactics
import Derived.Deep.RegionHeld3
import Derived.Deep.QuietTactic
import Derived.BigQuiet
import Derived.BigRegion
import Derived.Test.YtgcknekhimpfkaaGreatDoorAcc
import Derived.Test.YtgcknekhimpfkaaGreatDoorQJ
open List renaming getElem_toArray → lA, getElem_cons_zero → lB, getElem_cons_succ → lC
set_option maxHeartbeats 1000000
namespace Go.Proofs.YtgcknekhimpfkaaGreatDoor
open Go Go.RowKit Go.Lib Go.Proofs.YtgcknekhimpfkaaGreatDoor.Pl
set_option linter.unusedVariables false
set_option linter.unusedSimpArgs false
/-- A machine's own. -/
structure MC where
 cs : Array Value
 cut : Int
 gone : Bool
 st : Int
structure MRow (R : Array Value) (b : Nat) (y : MC) : Prop where
 size : R.size = 26
 bus : R[0]? = some (.pointer (some ⟨b, 0, none⟩))
 cpu : ∀ k, k < 22 → R[1 + k]? = y.cs[k]?
 cut : R[23]? = some (.int .i64 y.cut)
 gone : R[24]? = some (.bool y.gone)
 st : R[25]? = some (.int .i64 y.st)
theorem MRow.setGone {R : Array Value} {b : Nat} {y : MC} (h : MRow R b y) (g : Bool) : MRow (R.setIfInBounds 24 (.bool g)) b { y with gone := g } :=
 { size := by simp [h.size]
   bus := by rw [Array.getElem?_setIfInBounds_ne (by omega)]; exact h.bus
   cpu := fun k hk => by rw [Array.getElem?_setIfInBounds_ne (by omega)]; exact h.cpu k hk
   cut := by rw [Array.getElem?_setIfInBounds_ne (by omega)]; exact h.cut
   gone := by rw [Array.getElem?_setIfInBounds_self_of_lt (by rw [h.size]; omega)]
   st := by rw [Array.getElem?_setIfInBounds_ne (by omega)]; exact h.st }
theorem MRow.setSt {R : Array Value} {b : Nat} {y : MC} (h : MRow R b y) (g : Int) : MRow (R.setIfInBounds 25 (.int .i64 g)) b { y with st := g } :=
 { size := by simp [h.size]
   bus := by rw [Array.getElem?_setIfInBounds_ne (by omega)]; exact h.bus
   cpu := fun k hk => by rw [Array.getElem?_setIfInBounds_ne (by omega)]; exact h.cpu k hk
   cut := by rw [Array.getElem?_setIfInBounds_ne (by omega)]; exact h.cut
   gone := by rw [Array.getElem?_setIfInBounds_ne (by omega)]; exact h.gone
   st := by rw [Array.getElem?_setIfInBounds_self_of_lt (by rw [h.size]; omega)] }
theorem MRow.setCut {R : Array Value} {b : Nat} {y : MC} (h : MRow R b y) (g : Int) : MRow (R.setIfInBounds 23 (.int .i64 g)) b { y with cut := g } :=
 { size := by simp [h.size]
   bus := by rw [Array.getElem?_setIfInBounds_ne (by omega)]; exact h.bus
   cpu := fun k hk => by rw [Array.getElem?_setIfInBounds_ne (by omega)]; exact h.cpu k hk
   cut := by rw [Array.getElem?_setIfInBounds_self_of_lt (by rw [h.size]; omega)]
   gone := by rw [Array.getElem?_setIfInBounds_ne (by omega)]; exact h.gone
   st := by rw [Array.getElem?_setIfInBounds_ne (by omega)]; exact h.st }
theorem MRow.setPc {R : Array Value} {b : Nat} {y : MC} (h : MRow R b y) (hc : y.cs.size = 22) (p : Value) : MRow (R.setIfInBounds 22 p) b { y with cs := y.cs.setIfInBounds 21 p } :=
 { size := by simp [h.size]
   bus := by rw [Array.getElem?_setIfInBounds_ne (by omega)]; exact h.bus
   cpu := fun k hk => by
    rcases Nat.lt_or_ge k 21 with g | g
    ·rw [Array.getElem?_setIfInBounds_ne (by omega), Array.getElem?_setIfInBounds_ne (by omega)]; exact h.cpu k hk
    ·obtain rfl : k = 21 := by omega
     rw [Array.getElem?_setIfInBounds_self_of_lt (by rw [h.size]; omega), Array.getElem?_setIfInBounds_self_of_lt (by rw [hc]; omega)]
   cut := by rw [Array.getElem?_setIfInBounds_ne (by omega)]; exact h.cut
   gone := by rw [Array.getElem?_setIfInBounds_ne (by omega)]; exact h.gone
   st := by rw [Array.getElem?_setIfInBounds_ne (by omega)]; exact h.st }
/-- Many cells laid into a block. -/
theorem Blk.setCells {g : Nat} {t : TypeId} : ∀ (vs : List Value) (o : Nat) (w : World) (X : Array Value), Blk w g X t → o + vs.length ≤ X.size →
 ∃ X', Blk (w.setCells g o vs) g X' t ∧ X'.size = X.size ∧ ∀ j, X'[j]? = if o ≤ j ∧ j < o + vs.length then vs[j - o]? else X[j]?
 | [], o, w, X, h, _ => ⟨X, h, rfl, fun j => by rw [if_neg (by simp only [List.length_nil]; omega)]⟩
 | v :: vs, o, w, X, h, hl => by
  simp only [List.length_cons] at hl
  obtain ⟨X', h1, h2, h3⟩ := Blk.setCells vs (o + 1) (w.setCell ⟨g, o, none⟩ v) (X.setIfInBounds o v) (h.set o v) (by simp; omega)
  refine ⟨X', h1, by rw [h2]; simp, fun j => ?_⟩
  rw [h3 j]
  by_cases hj : o + 1 ≤ j ∧ j < o + 1 + vs.length
  ·rw [if_pos hj, if_pos (by simp; omega), show j - o = (j - (o + 1)) + 1 from by omega, List.getElem?_cons_succ]
  ·rw [if_neg hj]
   by_cases hj2 : j = o
   ·subst hj2
    rw [if_pos (by simp), Nat.sub_self, List.getElem?_cons_zero, Array.getElem?_setIfInBounds_self_of_lt (by omega)]
   ·rw [if_neg (by simp; omega), Array.getElem?_setIfInBounds_ne (by omega)]
theorem MRow.setCpu {R R' : Array Value} {b : Nat} {y : MC} (h : MRow R b y) {X : Array Value} (hX : X.size = 22) (hs : R'.size = R.size) (hr : ∀ j, R'[j]? = if 1 ≤ j ∧ j < 1 + X.toList.length then X.toList[j - 1]? else R[j]?) : MRow R' b { y with cs := X } := by
 have hl : X.toList.length = 22 := by simp [hX]
 rw [hl] at hr
 exact { size := by rw [hs]; exact h.size
         bus := by rw [hr, if_neg (by omega)]; exact h.bus
         cpu := fun k hk => by rw [hr, if_pos (by omega), show 1 + k - 1 = k from by omega, Array.getElem?_toList]
         cut := by rw [hr, if_neg (by omega)]; exact h.cut
         gone := by rw [hr, if_neg (by omega)]; exact h.gone
         st := by rw [hr, if_neg (by omega)]; exact h.st }
structure MachAt (w : World) (base m : Nat) (v : BV) (x : BS) (y : MC) : Prop where
 row : ∃ R, Blk w m R 89 ∧ MRow R v.b y
 ok : CpuOk y.cs
 bus : BusAt w base v x
 ap : m ∉ brow v
 lo : base ≤ m
/-- Of what was there, the machine's own blocks alone may have changed. -/
structure MMoves (w w' : World) (m : Nat) (v v' : BV) : Prop where
 t : Touch w w' (m :: brow v)
 n : ∀ g ∈ brow v', g ∈ brow v ∨ w.heap.size ≤ g
 k : v'.b = v.b ∧ v'.m = v.m ∧ v'.d = v.d ∧ v'.s = v.s
theorem MMoves.refl (w : World) (m : Nat) (v : BV) : MMoves w w m v v := ⟨Touch.refl _ _, fun g h => .inl h, ⟨rfl, rfl, rfl, rfl⟩⟩
theorem MMoves.trans {w w' w'' : World} {m : Nat} {v v' v'' : BV} (h : MMoves w w' m v v') (k : MMoves w' w'' m v' v'') : MMoves w w'' m v v'' :=
 ⟨h.t.trans k.t (fun g hg hl => by
  rcases List.mem_cons.1 hg with rfl | hg
  ·exact List.mem_cons_self
  ·rcases h.n g hg with h' | h'
   ·exact List.mem_cons_of_mem _ h'
   ·omega), fun g hg => (k.n g hg).elim (fun h' => h.n g h') (fun h' => .inr (Nat.le_trans h.t.size h')), ⟨k.k.1.trans h.k.1, k.k.2.1.trans h.k.2.1, k.k.2.2.1.trans h.k.2.2.1, k.k.2.2.2.trans h.k.2.2.2⟩⟩
theorem MMoves.of {w w' : World} {m : Nat} {v v' : BV} (h : Moves w w' v v') : MMoves w w' m v v' := ⟨h.t.mono (fun g hg => List.mem_cons_of_mem _ hg), h.n, h.k⟩
theorem MMoves.below {w w' : World} {m : Nat} {v : BV} (h : Below w.heap.size w w') : MMoves w w' m v v := .of (Moves.of_below v h)
theorem MMoves.set (w : World) (m j : Nat) (v : BV) (u : Value) : MMoves w (w.setCell ⟨m, j, none⟩ u) m v v := ⟨(Touch.set w ⟨m, j, none⟩ u).mono (by simp), fun g h => .inl h, ⟨rfl, rfl, rfl, rfl⟩⟩
theorem MMoves.setCells (w : World) (m o : Nat) (v : BV) (us : List Value) : MMoves w (w.setCells m o us) m v v := ⟨(Touch.setCells m us o w).mono (by simp), fun g h => .inl h, ⟨rfl, rfl, rfl, rfl⟩⟩
section
variable {w w' : World} {base m : Nat} {v v' : BV} {x x' : BS} {y : MC}
theorem MachAt.mlt (M : MachAt w base m v x y) : m < w.heap.size := by
 obtain ⟨R, h, _⟩ := M.row
 exact h.lt
/-- The bus moved. -/
theorem MachAt.moved (M : MachAt w base m v x y) (B : BusAt w' base v' x') (h : Moves w w' v v') : MachAt w' base m v' x' y := by
 obtain ⟨R, h1, h2⟩ := M.row
 refine ⟨⟨R, (h.t.block m M.mlt M.ap).trans h1, by rw [h.k.1]; exact h2⟩, M.ok, B, fun hm => ?_, M.lo⟩
 rcases h.n m hm with h3 | h3
 ·exact M.ap h3
 ·have := M.mlt; omega
theorem MachAt.step (M : MachAt w base m v x y) (h : Below w.heap.size w w') : MachAt w' base m v x y := M.moved (M.bus.below h) (Moves.of_below v h)
theorem MachAt.drew (M : MachAt w base m v x y) (n : Nat) : MachAt (w.drewN n) base m v x y := M.step ⟨rfl, rfl, rfl, Nat.le_refl _, fun _ _ => rfl⟩
/-- Elsewhere something changed. -/
theorem MachAt.touch (M : MachAt w base m v x y) {r : List Nat} (t : Touch w w' r) (h1 : m ∉ r) (h2 : ∀ g ∈ brow v, g ∉ r) : MachAt w' base m v x y := by
 obtain ⟨R, h3, h4⟩ := M.row
 exact ⟨⟨R, (t.block m M.mlt h1).trans h3, h4⟩, M.ok, M.bus.touch t h2, M.ap, M.lo⟩
theorem MachAt.far (M : MachAt w base m v x y) (g j : Nat) (u : Value) (h1 : g ≠ m) (h2 : g ∉ brow v) : MachAt (w.setCell ⟨g, j, none⟩ u) base m v x y :=
 M.touch (Touch.set w ⟨g, j, none⟩ u) (by simpa using fun h => h1 h.symm) (fun k hk hm => h2 ((show k = g by simpa using hm) ▸ hk))
/-- The machine's own cells. -/
theorem MachAt.cells (M : MachAt w base m v x y) : w.cell? ⟨m, 0, none⟩ = some (.pointer (some ⟨v.b, 0, none⟩)) ∧ w.cell? ⟨m, 23, none⟩ = some (.int .i64 y.cut) ∧ w.cell? ⟨m, 24, none⟩ = some (.bool y.gone) ∧ w.cell? ⟨m, 25, none⟩ = some (.int .i64 y.st) := by
 obtain ⟨R, h1, h2⟩ := M.row
 exact ⟨(h1.cell 0).trans h2.bus, (h1.cell 23).trans h2.cut, (h1.cell 24).trans h2.gone, (h1.cell 25).trans h2.st⟩
theorem MachAt.frozen (M : MachAt w base m v x y) (j : Nat) : w.frozen? ⟨m, j, none⟩ = false := by
 obtain ⟨R, h1, h2⟩ := M.row
 exact h1.frozen j
theorem MachAt.pcCell (M : MachAt w base m v x y) {p : Int} (hp : y.cs[21]? = some (.int .u32 p)) : w.cell? ⟨m, 22, none⟩ = some (.int .u32 p) := by
 obtain ⟨R, h1, h2⟩ := M.row
 exact (h1.cell 22).trans ((h2.cpu 21 (by omega)).trans hp)
theorem MachAt.cpuRange (M : MachAt w base m v x y) : w.rangeAt m 1 y.cs.toList := by
 obtain ⟨R, h1, h2⟩ := M.row
 intro j u hj
 have hl : j < 22 := by
  have := (List.getElem?_eq_some_iff.1 hj).1
  rw [Array.length_toList, M.ok.size] at this
  exact this
 rw [h1.cell (1 + j), h2.cpu j hl, ← Array.getElem?_toList]
 exact hj
theorem MachAt.cpuThere (M : MachAt w base m v x y) : w.there m 1 22 := by
 obtain ⟨R, h1, h2⟩ := M.row
 intro j hj
 refine ⟨?_, h1.frozen _⟩
 rw [h1.cell (1 + j), Array.getElem?_eq_getElem (by rw [h2.size]; omega)]
 rfl
theorem MachAt.loadCpu (M : MachAt w base m v x y) : (loadWhole 50 (.pointer (some ⟨m, 1, none⟩))).run Tryz.prog w = .ok (.agg y.cs) w := by
 have := run_loadAt_mid (P := Tryz.prog) w m 1 50 y.cs.toList _ M.cpuRange Tryz.underlying50 rfl (by rw [Array.length_toList, M.ok.size]; kernel_rfl)
 rw [Array.toArray_toList] at this
 exact this
theorem MachAt.storeCpu (M : MachAt w base m v x y) {X : Array Value} (hX : CpuOk X) : (storeWhole 50 (.pointer (some ⟨m, 1, none⟩)) (.agg X)).run Tryz.prog w = .ok () (w.setCells m 1 X.toList) :=
 run_storeAt_mid (P := Tryz.prog) w m 1 50 X (by rw [hX.size]; exact M.cpuThere) (by rw [hX.size]; kernel_rfl) (by rw [Array.all_eq_true_iff_forall_mem]; exact hX.one)
theorem MachAt.setCpu (M : MachAt w base m v x y) {X : Array Value} (hX : CpuOk X) : MachAt (w.setCells m 1 X.toList) base m v x { y with cs := X } := by
 obtain ⟨R, h1, h2⟩ := M.row
 obtain ⟨R', k1, k2, k3⟩ := Blk.setCells X.toList 1 w R h1 (by rw [h2.size, Array.length_toList, hX.size]; omega)
 exact ⟨⟨R', k1, h2.setCpu hX.size k2 k3⟩, hX, M.bus.touch (Touch.setCells m _ 1 w) (fun g hg hm => M.ap ((show g = m by simpa using hm) ▸ hg)), M.ap, M.lo⟩
theorem MachAt.own (M : MachAt w base m v x y) (j : Nat) (u : Value) {y' : MC} (ok : CpuOk y'.cs) (h : ∀ R b, MRow R b y → MRow (R.setIfInBounds j u) b y') : MachAt (w.setCell ⟨m, j, none⟩ u) base m v x y' := by
 obtain ⟨R, h1, h2⟩ := M.row
 exact ⟨⟨_, h1.set j u, h R _ h2⟩, ok, M.bus.touch (Touch.set w ⟨m, j, none⟩ u) (fun g hg hm => M.ap ((show g = m by simpa using hm) ▸ hg)), M.ap, M.lo⟩
theorem MachAt.setGone (M : MachAt w base m v x y) (g : Bool) : MachAt (w.setCell ⟨m, 24, none⟩ (.bool g)) base m v x { y with gone := g } := M.own 24 _ M.ok fun R b h => h.setGone g
theorem MachAt.setSt (M : MachAt w base m v x y) (g : Int) : MachAt (w.setCell ⟨m, 25, none⟩ (.int .i64 g)) base m v x { y with st := g } := M.own 25 _ M.ok fun R b h => h.setSt g
theorem MachAt.setCut (M : MachAt w base m v x y) (g : Int) : MachAt (w.setCell ⟨m, 23, none⟩ (.int .i64 g)) base m v x { y with cut := g } := M.own 23 _ M.ok fun R b h => h.setCut g
theorem ok_setPc {cs : Array Value} (h : CpuOk cs) (p : Int) (p0 : 0 ≤ p) (p1 : p < 4294967296) : CpuOk (cs.setIfInBounds 21 (.int .u32 p)) :=
 { size := by simp [h.size]
   one := h.one.set 21 rfl
   reg := fun k hk => by rw [Array.getElem?_setIfInBounds_ne (by omega)]; exact h.reg k hk
   h := by rw [Array.getElem?_setIfInBounds_ne (by omega)]; exact h.h
   n := by rw [Array.getElem?_setIfInBounds_ne (by omega)]; exact h.n
   z := by rw [Array.getElem?_setIfInBounds_ne (by omega)]; exact h.z
   c := by rw [Array.getElem?_setIfInBounds_ne (by omega)]; exact h.c
   v := by rw [Array.getElem?_setIfInBounds_ne (by omega)]; exact h.v
   pc := ⟨p, by rw [Array.getElem?_setIfInBounds_self_of_lt (by rw [h.size]; omega)], p0, p1⟩ }
theorem MachAt.setPc (M : MachAt w base m v x y) (p : Int) (p0 : 0 ≤ p) (p1 : p < 4294967296) : MachAt (w.setCell ⟨m, 22, none⟩ (.int .u32 p)) base m v x { y with cs := y.cs.setIfInBounds 21 (.int .u32 p) } :=
 M.own 22 _ (ok_setPc M.ok p p0 p1) fun R b h => h.setPc M.ok.size _
end
section
variable {w : World} {base m : Nat} {v : BV} {x : BS} {y : MC}
theorem bwrites_any (B : BusAt w base v x) :
 Calls Tryz.prog 30 #[.pointer (some ⟨v.d, 0, none⟩)] w fun e w' => ∃ a c, e = .returned (.slice a x.ws.length c) ∧ Below w.heap.size w w' := by
 refine (writes_any B.disk).mono ?_
 rintro e w' ⟨v', rfl, ho, hb'⟩
 rcases ho.2 with ⟨h1, h2⟩ | ⟨g, cap, cur, h1, _⟩
 ·exact ⟨none, 0, by rw [h1, h2], hb'⟩
 ·exact ⟨_, _, by rw [h1], hb'⟩
def lookV (cut : Int) (n : Nat) : Bool := decide (0 ≤ cut) && decide (cut ≤ (n : Int))
set_option maxRecDepth 100000 in
theorem mlook_off (M : MachAt w base m v x y) (hc : y.cut < 0) :
 Calls Tryz.prog 33 #[.pointer (some ⟨m, 0, none⟩)] w fun e w' => e = .returned (.tuple #[]) ∧ MachAt w' base m v x { y with gone := false } ∧ MMoves w w' m v v := by
 have HM := hid M
 have h0 : decide (0 ≤ y.cut) = false := decide_eq_false (by omega)
 clear M hc
 go_enter Tryz.func33, Tryz.ntmps33
 have JB : Hid (w.heap.size ≤ w.drew.heap.size) := hid (Nat.le_refl _)
 have JM : Hid (∃ g, MachAt w.drew base m v x { y with gone := g }) := hid (⟨y.gone, HM.out.drew 1⟩)
 have KM := hid (show MachAt w.drew base m v x y from HM.out.drew 1)
 have KW := hid (show MMoves w w.drew m v v from MMoves.below (Below.refl _ _).drew)
 refine wp_region_held_drew (S := (fun w' => Hid (w.heap.size ≤ w'.heap.size) ∧ Hid (∃ g, MachAt w' base m v x { y with gone := g }))) (by kernel_rfl) ⟨JB, JM⟩ (fun hHeld => ?_)
 clear hHeld
 generalize w.drew = wd at JB JM KM KW ⊢
 have hHeld : ((fun w' => Hid (w.heap.size ≤ w'.heap.size) ∧ Hid (∃ g, MachAt w' base m v x { y with gone := g })) wd) := ⟨JB, JM⟩
 refine tke 0 (v := ?v0_1) ?hy0_1 (by assumption) ?rest0_1
 case hy0_1 => rintro wq ⟨qB, qM⟩; obtain ⟨g9, bx⟩ := qM.out; have z0 := bx.cells.1; have z23 := bx.cells.2.1; clear bx; clear qB qM; go_simp; try with_reducible rfl
 refine tke 1 (v := ?v1_2) ?hy1_2 (by assumption) ?rest1_2
 case hy1_2 => rintro wq ⟨qB, qM⟩; obtain ⟨g9, bx⟩ := qM.out; have z0 := bx.cells.1; have z23 := bx.cells.2.1; clear bx; clear qB qM; go_simp; try with_reducible rfl
 refine tke 2 (v := ?v2_3) ?hy2_3 (by assumption) ?rest2_3
 case hy2_3 => rintro wq ⟨qB, qM⟩; obtain ⟨g9, bx⟩ := qM.out; have z0 := bx.cells.1; have z23 := bx.cells.2.1; clear bx; clear qB qM; go_simp; try with_reducible rfl
 refine tke 3 (v := ?v3_4) ?hy3_4 (by assumption) ?rest3_4
 case hy3_4 => rintro wq ⟨qB, qM⟩; obtain ⟨g9, bx⟩ := qM.out; have z0 := bx.cells.1; have z23 := bx.cells.2.1; clear bx; clear qB qM; go_simp; try with_reducible rfl
 refine tke 4 (v := ?v4_5) ?hy4_5 (by assumption) ?rest4_5
 case hy4_5 => rintro wq ⟨qB, qM⟩; obtain ⟨g9, bx⟩ := qM.out; have z0 := bx.cells.1; have z23 := bx.cells.2.1; clear bx; clear qB qM; go_simp; try with_reducible rfl
 refine tke 5 (v := ?v5_6) ?hy5_6 (by assumption) ?rest5_6
 case hy5_6 => rintro wq ⟨qB, qM⟩; obtain ⟨g9, bx⟩ := qM.out; have z0 := bx.cells.1; have z23 := bx.cells.2.1; clear bx; clear qB qM; go_simp; try with_reducible rfl
 refine tke 6 (v := ?v6_7) ?hy6_7 (by assumption) ?rest6_7
 case hy6_7 => rintro wq ⟨qB, qM⟩; obtain ⟨g9, bx⟩ := qM.out; have z0 := bx.cells.1; have z23 := bx.cells.2.1; clear bx; clear qB qM; go_simp; try with_reducible rfl
 refine wpAnyH_take (i := 7) (oi := _) (v := undef) rfl (by kernel_rfl) (by kernel_rfl) (by kernel_rfl) (fun _ _ _ h => h) (Or.inr ⟨by first | kernel_rfl | rfl, rfl⟩) (by assumption) ?_
 simp only [lA, lB, lC]
 refine wpAnyH_take (i := 8) (oi := _) (v := undef) rfl (by kernel_rfl) (by kernel_rfl) (by kernel_rfl) (fun _ _ _ h => h) (Or.inr ⟨by first | kernel_rfl | rfl, rfl⟩) (by assumption) ?_
 simp only [lA, lB, lC]
 refine wpAnyH_take (i := 9) (oi := _) (v := undef) rfl (by kernel_rfl) (by kernel_rfl) (by kernel_rfl) (fun _ _ _ h => h) (Or.inr ⟨by first | kernel_rfl | rfl, rfl⟩) (by assumption) ?_
 simp only [lA, lB, lC]
 refine wpAnyH_take (i := 10) (oi := _) (v := undef) rfl (by kernel_rfl) (by kernel_rfl) (by kernel_rfl) (fun _ _ _ h => h) (Or.inr ⟨by first | kernel_rfl | rfl, rfl⟩) (by assumption) ?_
 simp only [lA, lB, lC]
 refine wpAnyH_take (i := 11) (oi := _) (v := undef) rfl (by kernel_rfl) (by kernel_rfl) (by kernel_rfl) (fun _ _ _ h => h) (Or.inr ⟨by first | kernel_rfl | rfl, rfl⟩) (by assumption) ?_
 simp only [lA, lB, lC]
 refine wpAnyH_take (i := 12) (oi := _) (v := undef) rfl (by kernel_rfl) (by kernel_rfl) (by kernel_rfl) (fun _ _ _ h => h) (Or.inr ⟨by first | kernel_rfl | rfl, rfl⟩) (by assumption) ?_
 simp only [lA, lB, lC]
 refine wpAnyH_take (i := 13) (oi := _) (v := undef) rfl (by kernel_rfl) (by kernel_rfl) (by kernel_rfl) (fun _ _ _ h => h) (Or.inr ⟨by first | kernel_rfl | rfl, rfl⟩) (by assumption) ?_
 simp only [lA, lB, lC]
 refine wpAnyH_take (i := 14) (oi := _) (v := undef) rfl (by kernel_rfl) (by kernel_rfl) (by kernel_rfl) (fun _ _ _ h => h) (Or.inr ⟨by first | kernel_rfl | rfl, rfl⟩) (by assumption) ?_
 simp only [lA, lB, lC]
 refine wpAnyH_take (i := 15) (oi := _) (v := undef) rfl (by kernel_rfl) (by kernel_rfl) (by kernel_rfl) (fun _ _ _ h => h) (Or.inr ⟨by first | kernel_rfl | rfl, rfl⟩) (by assumption) ?_
 simp only [lA, lB, lC]
 refine wpAnyH_take (i := 16) (oi := _) (v := undef) rfl (by kernel_rfl) (by kernel_rfl) (by kernel_rfl) (fun _ _ _ h => h) (Or.inr ⟨by first | kernel_rfl | rfl, rfl⟩) (by assumption) ?_
 simp only [lA, lB, lC]
 refine wpAnyH_take (i := 17) (oi := _) (v := undef) rfl (by kernel_rfl) (by kernel_rfl) (by kernel_rfl) (fun _ _ _ h => h) (Or.inr ⟨by first | kernel_rfl | rfl, rfl⟩) (by assumption) ?_
 simp only [lA, lB, lC]
 refine wpAnyH_take (i := 18) (oi := _) (v := undef) rfl (by kernel_rfl) (by kernel_rfl) (by kernel_rfl) (fun _ _ _ h => h) (Or.inr ⟨by first | kernel_rfl | rfl, rfl⟩) (by assumption) ?_
 simp only [lA, lB, lC]
 refine tke 19 (v := ?v19_8) ?hy19_8 (by assumption) ?rest19_8
 case hy19_8 => rintro wq ⟨qB, qM⟩; obtain ⟨g9, bx⟩ := qM.out; have z0 := bx.cells.1; have z23 := bx.cells.2.1; clear bx; clear qB qM; go_simp; try with_reducible rfl
 refine tke 20 (v := ?v20_9) ?hy20_9 (by assumption) ?rest20_9
 case hy20_9 => rintro wq ⟨qB, qM⟩; obtain ⟨g9, bx⟩ := qM.out; have z0 := bx.cells.1; have z23 := bx.cells.2.1; clear bx; clear qB qM; go_simp; try with_reducible rfl
 refine tke 21 (v := ?v21_10) ?hy21_10 (by assumption) ?rest21_10
 case hy21_10 => rintro wq ⟨qB, qM⟩; obtain ⟨g9, bx⟩ := qM.out; have z0 := bx.cells.1; have z23 := bx.cells.2.1; clear bx; clear qB qM; go_simp; try with_reducible rfl
 have e24 := KM.out.cells.2.2.1
 have f24 := KM.out.frozen 24
 have LS := hid (KM.out.setGone false)
 refine wpAnyH_ready (rs := [22]) (by kernel_rfl) (by simp) ?_
 refine (AllReadyH.cons (o := _) rfl (fun K hK => ?_) AllReadyH.nil)
 try simp only [lA, lB, lC]
 go_simp
 refine hK.out _ _ (⟨hid (by rw [World.size_setCell]; exact JB.out), hid ⟨_, LS.out⟩⟩ : ((fun w' => Hid (w.heap.size ≤ w'.heap.size) ∧ Hid (∃ g, MachAt w' base m v x { y with gone := g })) _)) (fun _ => ?_)
 try simp only [lA, lB, lC]
 refine wpAnyH_done (by kernel_rfl) ?_ _
 go_wp2_with fail
 go_end0
 exact ⟨rfl, LS.out, KW.out.trans (MMoves.set _ _ _ _ _)⟩
set_option maxRecDepth 100000 in
theorem mlook_on (M : MachAt w base m v x y) (hc : 0 ≤ y.cut) :
 Calls Tryz.prog 33 #[.pointer (some ⟨m, 0, none⟩)] w fun e w' => e = .returned (.tuple #[]) ∧ MachAt w' base m v x { y with gone := decide (y.cut ≤ (x.ws.length : Int)) } ∧ MMoves w w' m v v := by
 have hl : x.ws.length ≤ 4096 := M.bus.disk.few
 have HM := hid M
 have h0 : decide (0 ≤ y.cut) = true := decide_eq_true hc
 clear M hc
 go_enter Tryz.func33, Tryz.ntmps33
 have JB : Hid (w.heap.size ≤ w.drew.heap.size) := hid (Nat.le_refl _)
 have JM : Hid (∃ g, MachAt w.drew base m v x { y with gone := g }) := hid (⟨y.gone, HM.out.drew 1⟩)
 have KM := hid (show MachAt w.drew base m v x y from HM.out.drew 1)
 have KW := hid (show MMoves w w.drew m v v from MMoves.below (Below.refl _ _).drew)
 refine wp_region_held_drew (S := (fun w' => Hid (w.heap.size ≤ w'.heap.size) ∧ Hid (∃ g, MachAt w' base m v x { y with gone := g }))) (by kernel_rfl) ⟨JB, JM⟩ (fun hHeld => ?_)
 clear hHeld
 generalize w.drew = wd at JB JM KM KW ⊢
 have hHeld : ((fun w' => Hid (w.heap.size ≤ w'.heap.size) ∧ Hid (∃ g, MachAt w' base m v x { y with gone := g })) wd) := ⟨JB, JM⟩
 refine tke 0 (v := ?v0_11) ?hy0_11 (by assumption) ?rest0_11
 case hy0_11 => rintro wq ⟨qB, qM⟩; obtain ⟨g9, bx⟩ := qM.out; have z0 := bx.cells.1; have z23 := bx.cells.2.1; clear bx; clear qB qM; go_simp; try with_reducible rfl
 refine tke 1 (v := ?v1_12) ?hy1_12 (by assumption) ?rest1_12
 case hy1_12 => rintro wq ⟨qB, qM⟩; obtain ⟨g9, bx⟩ := qM.out; have z0 := bx.cells.1; have z23 := bx.cells.2.1; clear bx; clear qB qM; go_simp; try with_reducible rfl
 refine tke 2 (v := ?v2_13) ?hy2_13 (by assumption) ?rest2_13
 case hy2_13 => rintro wq ⟨qB, qM⟩; obtain ⟨g9, bx⟩ := qM.out; have z0 := bx.cells.1; have z23 := bx.cells.2.1; clear bx; clear qB qM; go_simp; try with_reducible rfl
 refine tke 3 (v := ?v3_14) ?hy3_14 (by assumption) ?rest3_14
 case hy3_14 => rintro wq ⟨qB, qM⟩; obtain ⟨g9, bx⟩ := qM.out; have z0 := bx.cells.1; have z23 := bx.cells.2.1; clear bx; clear qB qM; go_simp; try with_reducible rfl
 refine tke 4 (v := ?v4_15) ?hy4_15 (by assumption) ?rest4_15
 case hy4_15 => rintro wq ⟨qB, qM⟩; obtain ⟨g9, bx⟩ := qM.out; have z0 := bx.cells.1; have z23 := bx.cells.2.1; clear bx; clear qB qM; go_simp; try with_reducible rfl
 refine tke 5 (v := ?v5_16) ?hy5_16 (by assumption) ?rest5_16
 case hy5_16 => rintro wq ⟨qB, qM⟩; obtain ⟨g9, bx⟩ := qM.out; have z0 := bx.cells.1; have z23 := bx.cells.2.1; clear bx; clear qB qM; go_simp; try with_reducible rfl
 refine tke 6 (v := ?v6_17) ?hy6_17 (by assumption) ?rest6_17
 case hy6_17 => rintro wq ⟨qB, qM⟩; obtain ⟨g9, bx⟩ := qM.out; have z0 := bx.cells.1; have z23 := bx.cells.2.1; clear bx; clear qB qM; go_simp; try with_reducible rfl
 refine tke 7 (v := ?v7_18) ?hy7_18 (by assumption) ?rest7_18
 case hy7_18 => rintro wq ⟨qB, qM⟩; obtain ⟨g9, bx⟩ := qM.out; have z0 := bx.cells.1; have z23 := bx.cells.2.1; clear bx; clear qB qM; go_simp; try with_reducible rfl
 refine tke 8 (v := ?v8_19) ?hy8_19 (by assumption) ?rest8_19
 case hy8_19 => rintro wq ⟨qB, qM⟩; obtain ⟨g9, bx⟩ := qM.out; have z0 := bx.cells.1; have z23 := bx.cells.2.1; clear bx; clear qB qM; go_simp; try with_reducible rfl
 refine tke 9 (v := ?v9_20) ?hy9_20 (by assumption) ?rest9_20
 case hy9_20 => rintro wq ⟨qB, qM⟩; obtain ⟨g9, bx⟩ := qM.out; have z0 := bx.cells.1; have z23 := bx.cells.2.1; clear bx; clear qB qM; go_simp; try with_reducible rfl
 refine tke 10 (v := ?v10_21) ?hy10_21 (by assumption) ?rest10_21
 case hy10_21 => rintro wq ⟨qB, qM⟩; obtain ⟨g9, bx⟩ := qM.out; have z0 := bx.cells.1; have z23 := bx.cells.2.1; clear bx; clear qB qM; go_simp; try with_reducible rfl
 refine tke 14 (v := ?v14_22) ?hy14_22 (by assumption) ?rest14_22
 case hy14_22 => rintro wq ⟨qB, qM⟩; obtain ⟨g9, bx⟩ := qM.out; have z0 := bx.cells.1; have z23 := bx.cells.2.1; clear bx; clear qB qM; go_simp; try with_reducible rfl
 refine tke 15 (v := ?v15_23) ?hy15_23 (by assumption) ?rest15_23
 case hy15_23 => rintro wq ⟨qB, qM⟩; obtain ⟨g9, bx⟩ := qM.out; have z0 := bx.cells.1; have z23 := bx.cells.2.1; clear bx; clear qB qM; go_simp; try with_reducible rfl
 refine tke 16 (v := ?v16_24) ?hy16_24 (by assumption) ?rest16_24
 case hy16_24 => rintro wq ⟨qB, qM⟩; obtain ⟨g9, bx⟩ := qM.out; have z0 := bx.cells.1; have z23 := bx.cells.2.1; clear bx; clear qB qM; go_simp; try with_reducible rfl
 refine tke 17 (v := ?v17_25) ?hy17_25 (by assumption) ?rest17_25
 case hy17_25 => rintro wq ⟨qB, qM⟩; obtain ⟨g9, bx⟩ := qM.out; have z0 := bx.cells.1; have z23 := bx.cells.2.1; clear bx; clear qB qM; go_simp; try with_reducible rfl
 refine wpAnyH_ready (rs := [11]) (by kernel_rfl) (by simp) ?_
 refine (AllReadyH.cons (o := _) rfl (fun K hK => ?_) AllReadyH.nil)
 try simp only [lA, lB, lC]
 go_simp
 go_at_call 48
 refine (bdisk_any KM.out.bus).mono ?_
 rintro e w1 ⟨rfl, rfl⟩
 refine hK.out _ _ hHeld (fun _ => ?_)
 try simp only [lA, lB, lC]
 refine wpAnyH_ready (rs := [12]) (by kernel_rfl) (by simp) ?_
 refine (AllReadyH.cons (o := _) rfl (fun K hK => ?_) AllReadyH.nil)
 try simp only [lA, lB, lC]
 go_simp
 go_at_call 30
 refine (bwrites_any KM.out.bus).mono ?_
 rintro e w1 ⟨a9, n9, rfl, hb1⟩
 have LB : Hid (w.heap.size ≤ w1.heap.size) := hid (Nat.le_trans JB.out hb1.size)
 have LM := hid (KM.out.step hb1)
 have LW := hid (KW.out.trans (MMoves.below (m := m) (v := v) hb1))
 have hHeld := (⟨LB, hid ⟨y.gone, LM.out⟩⟩ : ((fun w' => Hid (w.heap.size ≤ w'.heap.size) ∧ Hid (∃ g, MachAt w' base m v x { y with gone := g })) w1))
 clear hb1
 refine hK.out _ _ hHeld (fun _ => ?_)
 try simp only [lA, lB, lC]
 refine tke 13 (v := ?v13_26) ?hy13_26 (by assumption) ?rest13_26
 case hy13_26 => rintro wq ⟨qB, qM⟩; obtain ⟨g9, bx⟩ := qM.out; have z0 := bx.cells.1; have z23 := bx.cells.2.1; clear bx; clear qB qM; go_simp; try with_reducible rfl
 refine tke 18 (v := ?v18_27) ?hy18_27 (by assumption) ?rest18_27
 case hy18_27 => rintro wq ⟨qB, qM⟩; obtain ⟨g9, bx⟩ := qM.out; have z0 := bx.cells.1; have z23 := bx.cells.2.1; clear bx; clear qB qM; go_simp; try with_reducible rfl
 refine tke 19 (v := ?v19_28) ?hy19_28 (by assumption) ?rest19_28
 case hy19_28 => rintro wq ⟨qB, qM⟩; obtain ⟨g9, bx⟩ := qM.out; have z0 := bx.cells.1; have z23 := bx.cells.2.1; clear bx; clear qB qM; go_simp; try with_reducible rfl
 refine tke 20 (v := ?v20_29) ?hy20_29 (by assumption) ?rest20_29
 case hy20_29 => rintro wq ⟨qB, qM⟩; obtain ⟨g9, bx⟩ := qM.out; have z0 := bx.cells.1; have z23 := bx.cells.2.1; clear bx; clear qB qM; go_simp; try with_reducible rfl
 refine tke 21 (v := ?v21_30) ?hy21_30 (by assumption) ?rest21_30
 case hy21_30 => rintro wq ⟨qB, qM⟩; obtain ⟨g9, bx⟩ := qM.out; have z0 := bx.cells.1; have z23 := bx.cells.2.1; clear bx; clear qB qM; go_simp; try with_reducible rfl
 have e24 := LM.out.cells.2.2.1
 have f24 := LM.out.frozen 24
 have LS := hid (LM.out.setGone (decide (y.cut ≤ (x.ws.length : Int))))
 refine wpAnyH_ready (rs := [22]) (by kernel_rfl) (by simp) ?_
 refine (AllReadyH.cons (o := _) rfl (fun K hK => ?_) AllReadyH.nil)
 try simp only [lA, lB, lC]
 go_simp
 refine hK.out _ _ (⟨hid (by rw [World.size_setCell]; exact LB.out), hid ⟨_, LS.out⟩⟩ : ((fun w' => Hid (w.heap.size ≤ w'.heap.size) ∧ Hid (∃ g, MachAt w' base m v x { y with gone := g })) _)) (fun _ => ?_)
 try simp only [lA, lB, lC]
 refine wpAnyH_done (by kernel_rfl) ?_ _
 go_wp2_with fail
 go_end0
 exact ⟨rfl, LS.out, LW.out.trans (MMoves.set _ _ _ _ _)⟩
end
theorem exec_load_end (ρ : Operand → Value) (dst : Option Tmp) (x : Operand) (ty' : TypeId) (pos : String) (after : Array Edge) (guard : Option (Nat × Bool)) :
 execOp ρ ⟨dst, .load 46 x, ty', pos, after, guard⟩ = (do pure (.value (← loadWhole 46 (ρ x)))) := rfl
theorem exec_store_end (ρ : Operand → Value) (dst : Option Tmp) (x y : Operand) (ty' : TypeId) (pos : String) (after : Array Edge) (guard : Option (Nat × Bool)) :
 execOp ρ ⟨dst, .store 46 x y, ty', pos, after, guard⟩ = (do storeWhole 46 (ρ x) (ρ y); pure .skip) := rfl
def endA (k t a s : Int) : Array Value := #[.int .i64 k, .int .i64 t, .int .u32 a, .int .i64 s]
theorem endA_one (k t a s : Int) : OneRow (endA k t a s) := fun v hv => by
 simp only [endA, List.mem_toArray, List.mem_cons, List.not_mem_nil, or_false] at hv
 rcases hv with rfl | rfl | rfl | rfl <;> rfl
theorem load_end {w : World} {g : Nat} {k t a s : Int} {ty : TypeId} (h : Blk w g (endA k t a s) ty) : (loadWhole 46 (.pointer (some ⟨g, 0, none⟩))).run Tryz.prog w = .ok (.agg (endA k t a s)) w :=
 run_loadRow h _ _ Tryz.underlying46 rfl (by kernel_rfl)
theorem store_end {w : World} {g : Nat} {old : Array Value} {k t a s : Int} {ty : TypeId} (h : Blk w g old ty) (ho : old.size = 4) : (storeWhole 46 (.pointer (some ⟨g, 0, none⟩)) (.agg (endA k t a s))).run Tryz.prog w = .ok () (w.setRow g (endA k t a s)) :=
 run_storeRow h _ (by kernel_rfl) ho (endA_one _ _ _ _)
theorem loadVar_end {w : World} {g : Nat} {k t a s : Int} {ty : TypeId} (h : Blk w g (endA k t a s) ty) : (loadVar 46 ⟨g, 0, none⟩).run Tryz.prog w = .ok (.agg (endA k t a s)) w :=
 run_loadVarRow h _ _ Tryz.underlying46 rfl (by kernel_rfl)
attribute [local go_sem ↓] exec_load_end exec_store_end
section
variable {w : World} {base m : Nat} {v : BV} {x : BS} {y : MC}
theorem MMoves.newSet {w V : World} {m : Nat} {v v' : BV} (h : MMoves w V m v v') (g j : Nat) (u : Value) (hg : w.heap.size ≤ g) : MMoves w (V.setCell ⟨g, j, none⟩ u) m v v' :=
 ⟨h.t.trans (Touch.set V ⟨g, j, none⟩ u) (fun k hk hl => absurd hl (Nat.not_lt.2 ((show k = g by simpa using hk) ▸ hg))), h.n, h.k⟩
theorem mtouch_row (w : World) (g : Nat) (X : Array Value) : Touch w (w.setRow g X) [g] := ⟨rfl, rfl, rfl, by simp, fun k _ hk => setRow_other w g k X (by simpa using hk)⟩
theorem MMoves.newRow {w V : World} {m : Nat} {v v' : BV} (h : MMoves w V m v v') (g : Nat) (X : Array Value) (hg : w.heap.size ≤ g) : MMoves w (V.setRow g X) m v v' :=
 ⟨h.t.trans (mtouch_row V g X) (fun k hk hl => absurd hl (Nat.not_lt.2 ((show k = g by simpa using hk) ▸ hg))), h.n, h.k⟩
theorem MachAt.setRow (M : MachAt w base m v x y) (g : Nat) (X : Array Value) (h1 : g ≠ m) (h2 : g ∉ brow v) : MachAt (w.setRow g X) base m v x y ∧ ∀ k, k ≠ g → (w.setRow g X).heap[k]? = w.heap[k]? := by
 have T : Touch w (w.setRow g X) [g] := ⟨rfl, rfl, rfl, by simp, fun k _ hk => setRow_other w g k X (by simpa using hk)⟩
 exact ⟨M.touch T (by simpa using fun h => h1 h.symm) (fun k hk hm => h2 ((show k = g by simpa using hm) ▸ hk)), fun k hk => setRow_other w g k X hk⟩
set_option maxRecDepth 100000 in
theorem mends_any {bm bd : Nat} {d : Int} (M : MachAt w base m v x y) (kb : Blk w bm #[.pointer (some ⟨m, 0, none⟩)] 28) (kd : Blk w bd #[.int .i64 d] 2) (hm : bm ≠ m) (hd : bd ≠ m) (s0 : 0 ≤ y.st) (d0 : 0 ≤ d) (s1 : y.st + d ≤ 9223372036854775807) (k t a s : Int) :
 Calls Tryz.prog 32 #[.agg #[.int .i64 k, .int .i64 t, .int .u32 a, .int .i64 s], .pointer (some ⟨bm, 0, none⟩), .pointer (some ⟨bd, 0, none⟩)] w fun e w' => e = .returned (.agg #[.int .i64 k, .int .i64 t, .int .u32 a, .int .i64 d]) ∧ MachAt w' base m v x { y with st := y.st + d } ∧ MMoves w w' m v v := by
 have hw : IntKind.i64.wrap (y.st + d) = y.st + d := IntWalk.i64_in _ (by omega)
 go_enter Tryz.func32, Tryz.ntmps32
 go_upto_region 1 with fail
 have hB : Below w.heap.size w ((w.alloc (.cells #[.int .i64 k, .int .i64 t, .int .u32 a, .int .i64 s] 46)).alloc (.cells #[.int .i64 0, .int .i64 0, .int .u32 0, .int .i64 0] 46)) := ((Below.refl _ _).alloc (Nat.le_refl _) _).alloc (by simp) _
 have hs : w.heap.size + 2 ≤ ((w.alloc (.cells #[.int .i64 k, .int .i64 t, .int .u32 a, .int .i64 s] 46)).alloc (.cells #[.int .i64 0, .int .i64 0, .int .u32 0, .int .i64 0] 46)).heap.size := by simp
 have k1 := (Blk.new w #[.int .i64 k, .int .i64 t, .int .u32 a, .int .i64 s] 46).old (.cells #[.int .i64 0, .int .i64 0, .int .u32 0, .int .i64 0] 46)
 have k2 := Blk.new (w.alloc (.cells #[.int .i64 k, .int .i64 t, .int .u32 a, .int .i64 s] 46)) #[.int .i64 0, .int .i64 0, .int .u32 0, .int .i64 0] 46
 simp only [World.size_alloc] at k2
 have M1 := M.step hB
 have kb1 := kb.step hB
 have kd1 := kd.step hB
 have hmm := M.mlt
 have hbr := hid (fun g hg => (M.bus.lt g hg).2)
 have hbl := kb.lt
 have hdl := kd.lt
 generalize ((w.alloc (.cells #[.int .i64 k, .int .i64 t, .int .u32 a, .int .i64 s] 46)).alloc (.cells #[.int .i64 0, .int .i64 0, .int .u32 0, .int .i64 0] 46)) = W at *
 have em : W.cell? ⟨bm, 0, none⟩ = some (.pointer (some ⟨m, 0, none⟩)) := kb1.cell 0
 have ed : W.cell? ⟨bd, 0, none⟩ = some (.int .i64 d) := kd1.cell 0
 have e25 := M1.cells.2.2.2
 have f25 := M1.frozen 25
 have HB := hid hB
 have HM := hid M1
 have K1 := hid k1
 have K2 := hid k2
 have HMV := hid (show MMoves w W m v v from MMoves.below hB)
 clear hB k1 k2 kb kd M M1 kb1 kd1
 go_region
 all_goals
  have hn1 : w.heap.size ≠ m := by omega
  have hn2 : w.heap.size + 1 ≠ m := by omega
  have J1 := hid ((K1.out.far (p := ⟨m, 25, none⟩) hn1 (.int .i64 (y.st + d))).drew)
  have J2 := hid ((K2.out.far (p := ⟨m, 25, none⟩) hn2 (.int .i64 (y.st + d))).drew)
  have JM := hid (show MachAt (W.setCell ⟨m, 25, none⟩ (.int .i64 (y.st + d))).drew base m v x { y with st := y.st + d } from (HM.out.setSt (y.st + d)).drew 1)
  have JV := hid ((HMV.out.trans (MMoves.set W m 25 v (.int .i64 (y.st + d)))).trans (MMoves.below ((Below.refl _ _).drew)))
  have ed2 : (W.setCell ⟨m, 25, none⟩ (.int .i64 (y.st + d))).drew.cell? ⟨bd, 0, none⟩ = some (.int .i64 d) := by
   have := World.cell?_setCell_other W _ _ (.int .i64 (y.st + d)) (show (⟨m, 25, none⟩ : Addr) ≠ ⟨bd, 0, none⟩ by simp)
   exact this.trans ed
  have hsz : W.heap.size ≤ (W.setCell ⟨m, 25, none⟩ (.int .i64 (y.st + d))).drew.heap.size := by rw [show (W.setCell ⟨m, 25, none⟩ (.int .i64 (y.st + d))).drew.heap.size = (W.setCell ⟨m, 25, none⟩ (.int .i64 (y.st + d))).heap.size from rfl, World.size_setCell]; exact Nat.le_refl _
  clear em ed e25 f25 HB HM K1 K2 HMV
  generalize (W.setCell ⟨m, 25, none⟩ (.int .i64 (y.st + d))).drew = V at *
  have f3 := J1.out.frozen 3
  have c3 := J1.out.cell 3
  simp only [List.getElem?_toArray, List.getElem?_cons_zero, List.getElem?_cons_succ] at c3
  go_upto_region 3 with fail
  have P1 : Blk (V.setCell ⟨w.heap.size, 3, none⟩ (.int .i64 d)) w.heap.size (endA k t a d) 46 := J1.out.set 3 (.int .i64 d)
  have P2 := J2.out.far (p := ⟨w.heap.size, 3, none⟩) (by simp) (.int .i64 d)
  have hnb : w.heap.size ∉ brow v := fun hb => by have := hbr.out _ hb; omega
  have PM := JM.out.far w.heap.size 3 (.int .i64 d) hn1 hnb
  have PV := (JV.out.newSet w.heap.size 3 (.int .i64 d) (Nat.le_refl _)).newRow (w.heap.size + 1) (endA k t a d) (by omega)
  have QM := (PM.setRow (w.heap.size + 1) (endA k t a d) hn2 (fun hb => by have := hbr.out _ hb; omega)).1
  have hld := load_end P1
  have hst := store_end (k := k) (t := t) (a := a) (s := d) P2 rfl
  have hres := loadVar_end (P2.setRow (endA k t a d))
  have HQ := hid QM
  have HP := hid PV
  clear PM QM PV P1 P2 J1 J2 JM JV c3 f3 ed2
  go_wp2_with fail
  refine bodyPost_ret (v := .agg (endA k t a d)) ?_ rfl ⟨rfl, HQ.out, HP.out⟩
  simp [results, Tryz.results32, asAddr, hres]
end
end Go.Proofs.YtgcknekhimpfkaaGreatDoor
namespace Go.Proofs.YtgcknekhimpfkaaGreatDoor
open Go Go.RowKit Go.Lib Go.Proofs.YtgcknekhimpfkaaGreatDoor.Pl
set_option linter.unusedVariables false
set_option linter.unusedSimpArgs false
attribute [local go_sem ↓] exec_load_end exec_store_end
section
variable {w : World} {base m : Nat} {v : BV} {x : BS} {y : MC}
theorem mword (M : MachAt w base m v x y) (a : Int) (h0 : 0 ≤ a) (h1 : a < 1048576) (h4 : a % 4 = 0) {z : Int} (hz : getV x.M a.toNat = z) :
 Calls Tryz.prog 34 #[.pointer (some ⟨v.b, 0, none⟩), .int .u32 a] w fun e w' => e = .returned (.tuple #[.int .u32 z, .bool true]) ∧ w = w' := by subst hz; exact bword_yes M.bus a h0 h1 h4
def zEnd : Array Value := #[.int .i64 0, .int .i64 0, .int .u32 0, .int .i64 0]
set_option maxRecDepth 100000 in
theorem mtrap_halt (M : MachAt w base m v x y) :
 Calls Tryz.prog 39 #[.pointer (some ⟨m, 0, none⟩), .int .i64 0] w fun e w' => e = .returned (.tuple #[.agg (endA 3 0 0 0), .bool true]) ∧ MachAt w' base m v x y ∧ MMoves w w' m v v := by
 obtain ⟨z, hz⟩ : ∃ z, getV x.M (16 : Int).toNat = z := ⟨_, rfl⟩
 have HZ := hid hz
 clear hz
 go_enter Tryz.func39, Tryz.ntmps39
 go_upto_region 1 with fail
 have hB : Below w.heap.size w (w.alloc (.cells zEnd 46)) := (Below.refl _ _).alloc (Nat.le_refl _) _
 have hs : w.heap.size < (w.alloc (.cells zEnd 46)).heap.size := by simp
 have k1 := Blk.new w zEnd 46
 have M1 := M.step hB
 have hmm := M.mlt
 have hbr := hid (fun g hg => (M.bus.lt g hg).2)
 change Code.wp _ _ _ _ (w.alloc (.cells zEnd 46))
 generalize w.alloc (.cells zEnd 46) = W at *
 have c0 := M1.cells.1
 have HM := hid M1
 have K1 := hid k1
 have HV := hid (show MMoves w W m v v from MMoves.below hB)
 have hn2 : w.heap.size ≠ m := by omega
 have hnb : w.heap.size ∉ brow v := fun hb => by have := hbr.out _ hb; omega
 clear k1 M1 M hB
 have hst : (storeWhole 46 (.pointer (some ⟨w.heap.size, 0, none⟩)) (.agg #[.int .i64 3, .int .i64 0, .int .u32 0, .int .i64 0])).run Tryz.prog W = .ok () (W.setRow w.heap.size (endA 3 0 0 0)) := store_end (k := 3) (t := 0) (a := 0) (s := 0) K1.out rfl
 have hres := loadVar_end (K1.out.setRow (endA 3 0 0 0))
 have QM := hid (HM.out.setRow w.heap.size (endA 3 0 0 0) hn2 hnb).1
 have QV := hid (HV.out.newRow w.heap.size (endA 3 0 0 0) (Nat.le_refl _))
 go_wp2_with (go_at_call 34; refine (mword HM.out 16 (by decide) (by decide) (by decide) HZ.out).mono ?_; rintro e w1 ⟨rfl, rfl⟩)
 refine bodyPost_ret (v := .tuple #[.agg (endA 3 0 0 0), .bool true]) ?_ rfl ⟨rfl, QM.out, QV.out⟩
 simp [results, Tryz.results39, asAddr, hres]
set_option maxRecDepth 100000 in
theorem mtrap_stop (M : MachAt w base m v x y) (n : Int) (hn : n ≠ 0) (hz : getV x.M 16 = 0) {p : Int} (hp : y.cs[21]? = some (.int .u32 p)) :
 Calls Tryz.prog 39 #[.pointer (some ⟨m, 0, none⟩), .int .i64 n] w fun e w' => e = .returned (.tuple #[.agg (endA 4 n p 0), .bool true]) ∧ MachAt w' base m v x y ∧ MMoves w w' m v v := by
 have HZ : Hid (getV x.M (16 : Int).toNat = 0) := hid hz
 have hn1 : (n == 0) = false := by simpa using hn
 clear hz hn
 go_enter Tryz.func39, Tryz.ntmps39
 go_upto_region 1 with fail
 have hB : Below w.heap.size w (w.alloc (.cells zEnd 46)) := (Below.refl _ _).alloc (Nat.le_refl _) _
 have hs : w.heap.size < (w.alloc (.cells zEnd 46)).heap.size := by simp
 have k1 := Blk.new w zEnd 46
 have M1 := M.step hB
 have hmm := M.mlt
 have hbr := hid (fun g hg => (M.bus.lt g hg).2)
 change Code.wp _ _ _ _ (w.alloc (.cells zEnd 46))
 generalize w.alloc (.cells zEnd 46) = W at *
 have c0 := M1.cells.1
 have HM := hid M1
 have K1 := hid k1
 have HV := hid (show MMoves w W m v v from MMoves.below hB)
 have hn2 : w.heap.size ≠ m := by omega
 have hnb : w.heap.size ∉ brow v := fun hb => by have := hbr.out _ hb; omega
 clear k1 M1 M hB
 have c22 := HM.out.pcCell hp
 have hst : (storeWhole 46 (.pointer (some ⟨w.heap.size, 0, none⟩)) (.agg #[.int .i64 4, .int .i64 n, .int .u32 p, .int .i64 0])).run Tryz.prog W = .ok () (W.setRow w.heap.size (endA 4 n p 0)) := store_end (k := 4) (t := n) (a := p) (s := 0) K1.out rfl
 have hres := loadVar_end (K1.out.setRow (endA 4 n p 0))
 have QM := hid (HM.out.setRow w.heap.size (endA 4 n p 0) hn2 hnb).1
 have QV := hid (HV.out.newRow w.heap.size (endA 4 n p 0) (Nat.le_refl _))
 go_wp2_with (go_at_call 34; refine (mword HM.out 16 (by decide) (by decide) (by decide) HZ.out).mono ?_; rintro e w1 ⟨rfl, rfl⟩)
 refine bodyPost_ret (v := .tuple #[.agg (endA 4 n p 0), .bool true]) ?_ rfl ⟨rfl, QM.out, QV.out⟩
 simp [results, Tryz.results39, asAddr, hres]
set_option maxRecDepth 100000 in
theorem mtrap_go (M : MachAt w base m v x y) (n : Int) (hn : n ≠ 0) {z : Int} (hz : getV x.M 16 = z) (hz0 : z ≠ 0) (z0 : 0 ≤ z) (z1 : z < 4294967296) {p : Int} (hp : y.cs[21]? = some (.int .u32 p)) (p0 : 0 ≤ p) (p1 : p < 4294967296) :
 Calls Tryz.prog 39 #[.pointer (some ⟨m, 0, none⟩), .int .i64 n] w fun e w' => e = .returned (.tuple #[.agg (endA 0 0 0 0), .bool false]) ∧ MachAt w' base m v { x with M := laid4 (laid4 x.M 20 (n % 4294967296)) 24 p } { y with cs := y.cs.setIfInBounds 21 (.int .u32 z) } ∧ MMoves w w' m v v := by
 have HZ : Hid (getV x.M (16 : Int).toNat = z) := hid hz
 have hn1 : (n == 0) = false := by simpa using hn
 have hz1 : (z == 0) = false := by simpa using hz0
 have HP := hid hp
 clear hz hn hz0 hp
 go_enter Tryz.func39, Tryz.ntmps39
 go_upto_region 1 with fail
 have hB : Below w.heap.size w (w.alloc (.cells zEnd 46)) := (Below.refl _ _).alloc (Nat.le_refl _) _
 have hs : w.heap.size < (w.alloc (.cells zEnd 46)).heap.size := by simp
 have k1 := Blk.new w zEnd 46
 have M1 := M.step hB
 have hmm := M.mlt
 have hbr := hid (fun g hg => (M.bus.lt g hg).2)
 change Code.wp _ _ _ _ (w.alloc (.cells zEnd 46))
 generalize w.alloc (.cells zEnd 46) = W at *
 have c0 := M1.cells.1
 have HM := hid M1
 have K1 := hid k1
 have HV := hid (show MMoves w W m v v from MMoves.below hB)
 have hn2 : w.heap.size ≠ m := by omega
 have hnb : w.heap.size ∉ brow v := fun hb => by have := hbr.out _ hb; omega
 clear k1 M1 M hB
 have c22 := HM.out.pcCell HP.out
 have nb0 : 0 ≤ n % 4294967296 := by omega
 have nb1 : n % 4294967296 < 4294967296 := by omega
 go_upto_region 7 with (first | (go_at_call 34; refine (mword HM.out 16 (by decide) (by decide) (by decide) HZ.out).mono ?_; rintro e w1 ⟨rfl, rfl⟩) | (go_at_call 54; refine (bpoke_yes HM.out.bus 20 (n % 4294967296) (by decide) (by decide) (by decide) nb0 nb1).mono ?_; rintro e w2 ⟨rfl, B2, V2⟩; have M2 := hid (HM.out.moved B2 V2); have W2 := hid (HV.out.trans (MMoves.of (m := m) V2)); have K2 : Hid (Blk w2 w.heap.size zEnd 46) := hid ((V2.t.block _ hs hnb).trans K1.out); have hs2 : w.heap.size < w2.heap.size := Nat.lt_of_lt_of_le hs V2.t.size; clear B2 V2))
 have JM : Hid (∃ x', MachAt w2.drew base m v x' y) := hid (⟨_, M2.out.drew 1⟩)
 have JB : Hid (w2.heap.size ≤ w2.drew.heap.size) := hid (Nat.le_refl _)
 have KM := hid (show MachAt w2.drew base m v _ y from M2.out.drew 1)
 have KW := hid (W2.out.trans (show MMoves w2 w2.drew m v v from MMoves.below (Below.refl _ _).drew))
 have KK := hid (show Blk w2.drew w.heap.size zEnd 46 from K2.out)
 refine wp_region_held_drew (S := (fun w' => Hid (∃ x', MachAt w' base m v x' y) ∧ Hid (w2.heap.size ≤ w'.heap.size))) (by kernel_rfl) ⟨JM, JB⟩ (fun hHeld => ?_)
 clear hHeld
 generalize w2.drew = wd at JM JB KM KW KK ⊢
 have hHeld : ((fun w' => Hid (∃ x', MachAt w' base m v x' y) ∧ Hid (w2.heap.size ≤ w'.heap.size)) wd) := ⟨JM, JB⟩
 refine tke 0 (v := ?v0_1) ?hy0_1 (by assumption) ?rest0_1
 case hy0_1 => rintro wq ⟨qM, qB⟩; obtain ⟨x9, bx⟩ := qM.out; have z0 := bx.cells.1; have z22 := bx.pcCell HP.out; clear bx; clear qM qB; go_simp; try with_reducible rfl
 refine tke 1 (v := ?v1_2) ?hy1_2 (by assumption) ?rest1_2
 case hy1_2 => rintro wq ⟨qM, qB⟩; obtain ⟨x9, bx⟩ := qM.out; have z0 := bx.cells.1; have z22 := bx.pcCell HP.out; clear bx; clear qM qB; go_simp; try with_reducible rfl
 refine tke 2 (v := ?v2_3) ?hy2_3 (by assumption) ?rest2_3
 case hy2_3 => rintro wq ⟨qM, qB⟩; obtain ⟨x9, bx⟩ := qM.out; have z0 := bx.cells.1; have z22 := bx.pcCell HP.out; clear bx; clear qM qB; go_simp; try with_reducible rfl
 refine tke 3 (v := ?v3_4) ?hy3_4 (by assumption) ?rest3_4
 case hy3_4 => rintro wq ⟨qM, qB⟩; obtain ⟨x9, bx⟩ := qM.out; have z0 := bx.cells.1; have z22 := bx.pcCell HP.out; clear bx; clear qM qB; go_simp; try with_reducible rfl
 refine tke 4 (v := ?v4_5) ?hy4_5 (by assumption) ?rest4_5
 case hy4_5 => rintro wq ⟨qM, qB⟩; obtain ⟨x9, bx⟩ := qM.out; have z0 := bx.cells.1; have z22 := bx.pcCell HP.out; clear bx; clear qM qB; go_simp; try with_reducible rfl
 refine tke 5 (v := ?v5_6) ?hy5_6 (by assumption) ?rest5_6
 case hy5_6 => rintro wq ⟨qM, qB⟩; obtain ⟨x9, bx⟩ := qM.out; have z0 := bx.cells.1; have z22 := bx.pcCell HP.out; clear bx; clear qM qB; go_simp; try with_reducible rfl
 refine tke 6 (v := ?v6_7) ?hy6_7 (by assumption) ?rest6_7
 case hy6_7 => rintro wq ⟨qM, qB⟩; obtain ⟨x9, bx⟩ := qM.out; have z0 := bx.cells.1; have z22 := bx.pcCell HP.out; clear bx; clear qM qB; go_simp; try with_reducible rfl
 refine tke 7 (v := ?v7_8) ?hy7_8 (by assumption) ?rest7_8
 case hy7_8 => rintro wq ⟨qM, qB⟩; obtain ⟨x9, bx⟩ := qM.out; have z0 := bx.cells.1; have z22 := bx.pcCell HP.out; clear bx; clear qM qB; go_simp; try with_reducible rfl
 refine tke 8 (v := ?v8_9) ?hy8_9 (by assumption) ?rest8_9
 case hy8_9 => rintro wq ⟨qM, qB⟩; obtain ⟨x9, bx⟩ := qM.out; have z0 := bx.cells.1; have z22 := bx.pcCell HP.out; clear bx; clear qM qB; go_simp; try with_reducible rfl
 refine wpAnyH_ready (rs := [9]) (by kernel_rfl) (by simp) ?_
 refine (AllReadyH.cons (o := _) rfl (fun K hK => ?_) AllReadyH.nil)
 try simp only [lA, lB, lC]
 go_simp
 go_at_call 54
 refine (bpoke_yes KM.out.bus 24 p (by decide) (by decide) (by decide) p0 p1).mono ?_
 rintro e w3 ⟨rfl, B3, V3⟩
 have M3 := hid (KM.out.moved B3 V3)
 have W3 := hid (KW.out.trans (MMoves.of (m := m) V3))
 have hs3 : w.heap.size < wd.heap.size := Nat.lt_of_lt_of_le hs2 JB.out
 have K3 : Hid (Blk w3 w.heap.size zEnd 46) := hid ((V3.t.block _ hs3 hnb).trans KK.out)
 have hHeld := (⟨hid ⟨_, M3.out⟩, hid (Nat.le_trans JB.out V3.t.size)⟩ : ((fun w' => Hid (∃ x', MachAt w' base m v x' y) ∧ Hid (w2.heap.size ≤ w'.heap.size)) w3))
 clear B3 V3
 refine hK.out _ _ hHeld (fun _ => ?_)
 try simp only [lA, lB, lC]
 refine wpAnyH_done (by kernel_rfl) ?_ _
 clear hHeld
 have c0' := M3.out.cells.1
 have f22 := M3.out.frozen 22
 have c22' := M3.out.pcCell HP.out
 have M4 := hid (M3.out.setPc z z0 z1)
 have K4 : Hid (Blk (w3.setCell ⟨m, 22, none⟩ (.int .u32 z)) w.heap.size zEnd 46) := hid (K3.out.far (by simpa using hn2) _)
 have hst : (storeWhole 46 (.pointer (some ⟨w.heap.size, 0, none⟩)) (.agg #[.int .i64 0, .int .i64 0, .int .u32 0, .int .i64 0])).run Tryz.prog (w3.setCell ⟨m, 22, none⟩ (.int .u32 z)) = .ok () ((w3.setCell ⟨m, 22, none⟩ (.int .u32 z)).setRow w.heap.size (endA 0 0 0 0)) := store_end (k := 0) (t := 0) (a := 0) (s := 0) K4.out rfl
 have hres := loadVar_end (K4.out.setRow (endA 0 0 0 0))
 have QM := hid (M4.out.setRow w.heap.size (endA 0 0 0 0) hn2 hnb).1
 have QV := hid ((W3.out.trans (MMoves.set _ m 22 v (.int .u32 z))).newRow w.heap.size (endA 0 0 0 0) (Nat.le_refl _))
 go_wp2_with fail
 refine bodyPost_ret (v := .tuple #[.agg (endA 0 0 0 0), .bool false]) ?_ rfl ⟨rfl, QM.out, QV.out⟩
 simp [results, Tryz.results39, asAddr, hres]
end
end Go.Proofs.YtgcknekhimpfkaaGreatDoor
namespace Go.Proofs.YtgcknekhimpfkaaGreatDoor
open Go Go.RowKit Go.Lib Go.Proofs.YtgcknekhimpfkaaGreatDoor.Pl
set_option linter.unusedVariables false
set_option linter.unusedSimpArgs false
/-- The parts of a word's instruction. -/
structure In8 where
 f : Int
 u : Bool
 v : Bool
 a : Int
 b : Int
 op : Int
 c : Int
 n : Int
def In8.arr (i : In8) : Array Value := #[.int .i64 i.f, .bool i.u, .bool i.v, .int .i64 i.a, .int .i64 i.b, .int .i64 i.op, .int .i64 i.c, .int .i64 i.n]
def inOf (x : Int) : In8 := if decOk x then ⟨decF x, decU x, decV x, decA x, decB x, decO x, decC x, decN x⟩ else ⟨0, false, false, 0, 0, 0, 0, 0⟩
theorem decRes_is (x : Int) : decRes x = .agg (inOf x).arr := by
 unfold decRes inOf
 cases decOk x <;> rfl
def In8.r (i : In8) : Bool := rightB i.f i.u i.v i.a i.b i.op i.c i.n
def In8.k (i : In8) : Int := accK i.f i.u i.v i.r
def In8.ad (i : In8) (cs : Array Value) : Int := accA cs i.f i.b i.n i.r
def In8.val (i : In8) (cs : Array Value) : Int := accX cs i.f i.u i.v i.a i.r
def In8.ex (i : In8) (cs : Array Value) (l : Int) : Array Value × Int × Bool := exV cs i.f i.u i.v i.a i.b i.op i.c i.n l
def accB (k a x : Int) : Array Value := #[.int .i64 k, .int .u32 a, .int .u32 x]
theorem mdec {x : Int} {i : In8} {q : Bool} (hi : inOf x = i) (hq : decOk x = q) (h0 : 0 ≤ x) (h1 : x < 4294967296) (w : World) (hT : Tab w) :
 Calls Tryz.prog 35 #[.int .u32 x] w fun e w' => e = .returned (.tuple #[.agg i.arr, .bool q]) ∧ Below w.heap.size w w' := by
 have := dec_any x h0 h1 w hT
 rw [decRes_is, hi, hq] at this
 exact this
theorem mdec8 {x : Int} {f : Int} {u v : Bool} {a b op c n : Int} {q : Bool} (hi : inOf x = ⟨f, u, v, a, b, op, c, n⟩) (hq : decOk x = q) (h0 : 0 ≤ x) (h1 : x < 4294967296) (w : World) (hT : Tab w) :
 Calls Tryz.prog 35 #[.int .u32 x] w fun e w' => e = .returned (.tuple #[.agg #[.int .i64 f, .bool u, .bool v, .int .i64 a, .int .i64 b, .int .i64 op, .int .i64 c, .int .i64 n], .bool q]) ∧ Below w.heap.size w w' := mdec hi hq h0 h1 w hT
theorem macc {cs : Array Value} (hc : CpuOk cs) (i : In8) {k a z : Int} (hk : i.k = k) (ha : i.ad cs = a) (hz : i.val cs = z) (w : World) (hT : Tab w) :
 Calls Tryz.prog 36 #[.agg cs, .agg i.arr] w fun e w' => e = .returned (.agg (accB k a z)) ∧ Below w.heap.size w w' := by
 subst hk ha hz
 exact acc_any cs hc i.f i.u i.v i.a i.b i.op i.c i.n w hT
theorem macc8 {cs : Array Value} (hc : CpuOk cs) {f : Int} {u v : Bool} {a b op c n : Int} {k d z : Int} (hk : (⟨f, u, v, a, b, op, c, n⟩ : In8).k = k) (ha : (⟨f, u, v, a, b, op, c, n⟩ : In8).ad cs = d) (hz : (⟨f, u, v, a, b, op, c, n⟩ : In8).val cs = z) (w : World) (hT : Tab w) :
 Calls Tryz.prog 36 #[.agg cs, .agg #[.int .i64 f, .bool u, .bool v, .int .i64 a, .int .i64 b, .int .i64 op, .int .i64 c, .int .i64 n]] w fun e w' => e = .returned (.agg #[.int .i64 k, .int .u32 d, .int .u32 z]) ∧ Below w.heap.size w w' := macc hc ⟨f, u, v, a, b, op, c, n⟩ hk ha hz w hT
theorem mexec {cs : Array Value} (hc : CpuOk cs) (i : In8) {l : Int} (h0 : 0 ≤ l) (h1 : l < 4294967296) {X : Array Value} {n : Int} {t : Bool} (hx : i.ex cs l = (X, n, t)) (w : World) (hT : Tab w) :
 Calls Tryz.prog 38 #[.agg cs, .agg i.arr, .int .u32 l] w fun e w' => e = .returned (.tuple #[.agg X, .int .i64 n, .bool t]) ∧ Below w.heap.size w w' := by
 have := exec_any cs hc i.f i.u i.v i.a i.b i.op i.c i.n l h0 h1 w hT
 unfold ExecIs at this
 unfold In8.ex at hx
 rw [hx] at this
 exact this
theorem mexec8 {cs : Array Value} (hc : CpuOk cs) {f : Int} {u v : Bool} {a b op c n : Int} {l : Int} (h0 : 0 ≤ l) (h1 : l < 4294967296) {X : Array Value} {k : Int} {t : Bool} (hx : (⟨f, u, v, a, b, op, c, n⟩ : In8).ex cs l = (X, k, t)) (w : World) (hT : Tab w) :
 Calls Tryz.prog 38 #[.agg cs, .agg #[.int .i64 f, .bool u, .bool v, .int .i64 a, .int .i64 b, .int .i64 op, .int .i64 c, .int .i64 n], .int .u32 l] w fun e w' => e = .returned (.tuple #[.agg X, .int .i64 k, .bool t]) ∧ Below w.heap.size w w' := mexec hc ⟨f, u, v, a, b, op, c, n⟩ h0 h1 hx w hT
theorem ex_ok {cs : Array Value} (hc : CpuOk cs) (i : In8) {l : Int} (h0 : 0 ≤ l) (h1 : l < 4294967296) {X : Array Value} {n : Int} {t : Bool} (hx : i.ex cs l = (X, n, t)) : CpuOk X := by
 have := exV_ok hc i.f i.u i.v i.a i.b i.op i.c i.n l h0 h1
 unfold In8.ex at hx
 rw [hx] at this
 exact this
/-- Where the processor is. -/
def pcOf (cs : Array Value) : Int := rgV cs 21
theorem pc_is {cs : Array Value} (hc : CpuOk cs) : cs[21]? = some (.int .u32 (pcOf cs)) ∧ 0 ≤ pcOf cs ∧ pcOf cs < 4294967296 := hc.pcV
theorem zb : (0 : Int) ≤ 0 ∧ (0 : Int) < 4294967296 := ⟨by decide, by decide⟩
theorem zb2 : (0 : Int) ≤ 2 ∧ (2 : Int) < 4294967296 := ⟨by decide, by decide⟩
theorem zb3 : (0 : Int) ≤ 3 ∧ (3 : Int) < 4294967296 := ⟨by decide, by decide⟩
inductive MOut where
 | stop (k t a : Int) (did : Nat) (x : BS)
 | go (cs : Array Value) (x : BS) (lk : Bool)
/-- A step: what ends it, or the machine behind it and whether the power is looked at. -/
def trapM (cs : Array Value) (x : BS) (n : Int) : MOut :=
 if n = 0 then .stop 3 0 0 1 x
 else if getV x.M 16 = 0 then .stop 4 n (pcOf cs) 1 x
 else .go (cs.setIfInBounds 21 (.int .u32 (getV x.M 16))) { x with M := laid4 (laid4 x.M 20 (n % 4294967296)) 24 (pcOf cs) } false
def doneM (cs : Array Value) (i : In8) (q : Int × Int × BS) : MOut :=
 if q.2.1 = 1 then .stop 6 0 (pcOf cs) 0 q.2.2
 else if q.2.1 = 2 then .stop 2 0 0 0 q.2.2
 else if (i.ex cs q.1).2.2 then trapM cs q.2.2 (i.ex cs q.1).2.1
 else .go (i.ex cs q.1).1 q.2.2 (decide (i.k = 3) && decide (i.ad cs = 4294967252))
def stepM (cs : Array Value) (x : BS) : MOut :=
 if pcOf cs < 1048576 ∧ pcOf cs % 4 = 0 then
  if decOk (getV x.M (pcOf cs).toNat) then doneM cs (inOf (getV x.M (pcOf cs).toNat)) (x.act (inOf (getV x.M (pcOf cs).toNat)).k ((inOf (getV x.M (pcOf cs).toNat)).ad cs) ((inOf (getV x.M (pcOf cs).toNat)).val cs))
  else .stop 5 0 (pcOf cs) 0 x
 else .stop 6 0 (pcOf cs) 0 x
structure MRes where
 k : Int
 t : Int
 a : Int
 did : Nat
 cs : Array Value
 x : BS
 gone : Bool
def runM (cut : Int) : Nat → Array Value → BS → Bool → Nat → MRes
 | _, cs, x, true, did => ⟨7, 0, 0, did, cs, x, true⟩
 | 0, cs, x, false, did => ⟨1, 0, 0, did, cs, x, false⟩
 | n + 1, cs, x, false, did => match stepM cs x with
  | .stop k t a s x' => ⟨k, t, a, did + s, cs, x', false⟩
  | .go cs' x' lk => runM cut n cs' x' (lk && lookV cut x'.ws.length) (did + 1)
/-! What an access gives is a word. -/
theorem getV_bd {M : Nat → Int} (h : ∀ i, 0 ≤ M i ∧ M i ≤ 255) (k : Nat) : 0 ≤ getV M k ∧ getV M k < 4294967296 := by
 unfold getV
 have h0 := h k
 have h1 := h (k + 1)
 have h2 := h (k + 2)
 have h3 := h (k + 3)
 omega
theorem act_bd {w : World} {base : Nat} {v : BV} {x : BS} (B : BusAt w base v x) (k a y : Int) : 0 ≤ (x.act k a y).1 ∧ (x.act k a y).1 < 4294967296 := by
 have hm := B.mb
 have h1 := B.tkb
 have h2 := B.seb
 have h3 := B.adb
 have h4 := B.flb
 have h5 := B.disk.ge
 unfold BS.act
 split
 ·exact zb
 split
 ·have := hm a.toNat; simp only; omega
 split
 ·exact zb
 split
 ·split
  ·exact getV_bd hm _
  ·exact zb
 split
 ·split <;> exact zb
 split
 ·unfold BS.load
  split
  ·exact h1
  split
  ·split
   ·exact zb
   ·rename_i c r _; have := c.toNat_lt; simp only; omega
  split
  ·split
   ·exact zb2
   ·exact zb3
  split
  ·exact h2
  split
  ·exact h3
  split
  ·exact h4
  split
  ·simp only; omega
  ·exact zb
 split
 ·unfold BS.store
  split
  ·exact zb
  split
  ·exact zb
  split
  ·exact zb
  split <;> exact zb
 ·exact zb
theorem rgV_bd' {cs : Array Value} (hc : CpuOk cs) (i : In8) : 0 ≤ i.ad cs ∧ i.ad cs < 4294967296 := by
 unfold In8.ad accA
 split
 ·omega
 ·exact zb
end Go.Proofs.YtgcknekhimpfkaaGreatDoor
namespace Go.Proofs.YtgcknekhimpfkaaGreatDoor
open Go Go.RowKit Go.Lib Go.Proofs.YtgcknekhimpfkaaGreatDoor.Pl
set_option linter.unusedVariables false
set_option linter.unusedSimpArgs false
theorem val_bd {cs : Array Value} (hc : CpuOk cs) (i : In8) : 0 ≤ i.val cs ∧ i.val cs < 4294967296 := by
 unfold In8.val accX
 split
 ·rename_i h
  have hr := right_inv h.2.1
  obtain ⟨_, h0, h1⟩ := hc.rg (k := i.a.toNat) (by omega)
  unfold accLow
  split <;> omega
 ·exact zb
structure RunW (w0 w : World) (base m bm bd be : Nat) (v0 v : BV) (x : BS) (y : MC) (did : Nat) : Prop where
 mach : MachAt w base m v x y
 kb : Blk w bm #[.pointer (some ⟨m, 0, none⟩)] 28
 kd : Blk w bd #[.int .i64 (did : Int)] 2
 ke : ∃ z : Array Value, z.size = 4 ∧ Blk w be z 46
 fb : bm ∉ m :: brow v
 fd : bd ∉ m :: brow v
 fe : be ∉ m :: brow v
 nb : w0.heap.size ≤ bm
 nd : w0.heap.size ≤ bd
 ne : w0.heap.size ≤ be
 ap : bd ≠ bm ∧ bd ≠ be ∧ bm ≠ be
 mv : MMoves w0 w m v0 v
 tab : Tab w
 pos : 0 < base
 wpos : 0 < w0.heap.size
section
variable {w0 w w' : World} {base m bm bd be : Nat} {v0 v v' : BV} {x x' : BS} {y y' : MC} {did : Nat}
theorem MMoves.free {m g : Nat} (h : MMoves w w' m v v') (hg : g < w.heap.size) (hn : g ∉ m :: brow v) : g ∉ m :: brow v' := fun hm => by
 rcases List.mem_cons.1 hm with rfl | hm
 ·exact hn List.mem_cons_self
 ·rcases h.n g hm with h1 | h1
  ·exact hn (List.mem_cons_of_mem _ h1)
  ·omega
theorem RunW.mm (R : RunW w0 w base m bm bd be v0 v x y did) (M : MachAt w' base m v' x' y') (h : MMoves w w' m v v') : RunW w0 w' base m bm bd be v0 v' x' y' did := by
 obtain ⟨z, hz, ke⟩ := R.ke
 refine ⟨M, (h.t.block _ R.kb.lt R.fb).trans R.kb, (h.t.block _ R.kd.lt R.fd).trans R.kd, ⟨z, hz, (h.t.block _ ke.lt R.fe).trans ke⟩, h.free R.kb.lt R.fb, h.free R.kd.lt R.fd, h.free ke.lt R.fe, R.nb, R.nd, R.ne, R.ap, R.mv.trans h, ?_, R.pos, R.wpos⟩
 intro k hk
 refine (h.t.cell (R.tab k hk) (fun hm => ?_))
 have hpos := R.pos
 rcases List.mem_cons.1 hm with h0 | h0
 ·have := R.mach.lo
  have h9 : (0 : Nat) = m := h0
  omega
 ·have h9 : base ≤ 0 := (R.mach.bus.lt _ h0).1
  omega
theorem RunW.step (R : RunW w0 w base m bm bd be v0 v x y did) (h : Below w.heap.size w w') : RunW w0 w' base m bm bd be v0 v x y did := R.mm (R.mach.step h) (MMoves.below h)
theorem RunW.drew (R : RunW w0 w base m bm bd be v0 v x y did) : RunW w0 w.drew base m bm bd be v0 v x y did := R.step (Below.refl _ _).drew
theorem RunW.alloc (R : RunW w0 w base m bm bd be v0 v x y did) (o : Obj) : RunW w0 (w.alloc o) base m bm bd be v0 v x y did := R.step ((Below.refl _ _).alloc (Nat.le_refl _) o)
/-- A block beside all of them. -/
theorem RunW.own (R : RunW w0 w base m bm bd be v0 v x y did) {g : Nat} (T : Touch w w' [g]) (h1 : g ∉ m :: brow v) (h2 : g ≠ bm) (h3 : g ≠ bd) (h4 : g ≠ be) (hg : w0.heap.size ≤ g) (h0 : g ≠ 0) : RunW w0 w' base m bm bd be v0 v x y did := by
 obtain ⟨z, hz, ke⟩ := R.ke
 have M' : MachAt w' base m v x y := R.mach.touch T (fun hm => h1 ((show m = g by simpa using hm) ▸ List.mem_cons_self)) (fun k hk hm => h1 (List.mem_cons_of_mem _ ((show k = g by simpa using hm) ▸ hk)))
 refine ⟨M', (T.block _ R.kb.lt (by simpa using fun h => h2 h.symm)).trans R.kb, (T.block _ R.kd.lt (by simpa using fun h => h3 h.symm)).trans R.kd, ⟨z, hz, (T.block _ ke.lt (by simpa using fun h => h4 h.symm)).trans ke⟩, R.fb, R.fd, R.fe, R.nb, R.nd, R.ne, R.ap, ⟨R.mv.t.trans T (fun k hk hl => absurd hl (Nat.not_lt.2 ((show k = g by simpa using hk) ▸ hg))), R.mv.n, R.mv.k⟩, ?_, R.pos, R.wpos⟩
 intro k hk
 exact T.cell (R.tab k hk) (by simpa using fun h => h0 h.symm)
theorem RunW.setDid (R : RunW w0 w base m bm bd be v0 v x y did) (d : Nat) : RunW w0 (w.setCell ⟨bd, 0, none⟩ (.int .i64 (d : Int))) base m bm bd be v0 v x y d := by
 obtain ⟨z, hz, ke⟩ := R.ke
 have T := Touch.set w ⟨bd, 0, none⟩ (.int .i64 (d : Int))
 have M' : MachAt (w.setCell ⟨bd, 0, none⟩ (.int .i64 (d : Int))) base m v x y := R.mach.touch T (fun hm => R.fd ((show m = bd by simpa using hm) ▸ List.mem_cons_self)) (fun k hk hm => R.fd (List.mem_cons_of_mem _ ((show k = bd by simpa using hm) ▸ hk)))
 have hp : bd ≠ 0 := by have := R.nd; have := R.wpos; omega
 refine ⟨M', (T.block _ R.kb.lt (by simpa using fun h => R.ap.1 h.symm)).trans R.kb, R.kd.set 0 _, ⟨z, hz, (T.block _ ke.lt (by simpa using fun h => R.ap.2.1 h.symm)).trans ke⟩, R.fb, R.fd, R.fe, R.nb, R.nd, R.ne, R.ap, ⟨R.mv.t.trans T (fun k hk hl => absurd hl (Nat.not_lt.2 ((show k = bd by simpa using hk) ▸ R.nd))), R.mv.n, R.mv.k⟩, ?_, R.pos, R.wpos⟩
 intro k hk
 exact T.cell (R.tab k hk) (by simpa using fun h => hp h.symm)
theorem RunW.cells (R : RunW w0 w base m bm bd be v0 v x y did) : w.cell? ⟨bm, 0, none⟩ = some (.pointer (some ⟨m, 0, none⟩)) ∧ w.cell? ⟨bd, 0, none⟩ = some (.int .i64 (did : Int)) ∧ w.frozen? ⟨bd, 0, none⟩ = false := ⟨R.kb.cell 0, R.kd.cell 0, R.kd.frozen 0⟩
/-- The run's end is told. -/
theorem RunW.ends (R : RunW w0 w base m bm bd be v0 v x y did) (s0 : 0 ≤ y.st) (s1 : y.st + (did : Int) ≤ 9223372036854775807) (k t a : Int) :
 Calls Tryz.prog 32 #[.agg #[.int .i64 k, .int .i64 t, .int .u32 a, .int .i64 0], .pointer (some ⟨bm, 0, none⟩), .pointer (some ⟨bd, 0, none⟩)] w fun e w' => e = .returned (.agg (endA k t a did)) ∧ RunW w0 w' base m bm bd be v0 v x { y with st := y.st + did } did := by
 refine (mends_any R.mach R.kb R.kd (fun h => R.fb (h ▸ List.mem_cons_self)) (fun h => R.fd (h ▸ List.mem_cons_self)) s0 (by omega) s1 k t a 0).mono ?_
 rintro e w' ⟨rfl, M, h⟩
 exact ⟨rfl, R.mm M h⟩
theorem RunW.fin (R : RunW w0 w base m bm bd be v0 v x y did) (k t a s : Int) :
 (storeWhole 46 (.pointer (some ⟨be, 0, none⟩)) (.agg (endA k t a s))).run Tryz.prog w = .ok () (w.setRow be (endA k t a s)) ∧ (loadVar 46 ⟨be, 0, none⟩).run Tryz.prog (w.setRow be (endA k t a s)) = .ok (.agg (endA k t a s)) (w.setRow be (endA k t a s)) ∧
  MachAt (w.setRow be (endA k t a s)) base m v x y ∧ MMoves w0 (w.setRow be (endA k t a s)) m v0 v := by
 obtain ⟨z, hz, ke⟩ := R.ke
 exact ⟨store_end ke hz, loadVar_end (ke.setRow _), (R.mach.setRow be _ (fun h => R.fe (h ▸ List.mem_cons_self)) (fun h => R.fe (List.mem_cons_of_mem _ h))).1, R.mv.newRow be _ R.ne⟩
/-- A block of the run's own beside them. -/
structure Side (w0 w : World) (m bm bd be : Nat) (v : BV) (g : Nat) (X : Array Value) (t : TypeId) : Prop where
 blk : Blk w g X t
 fr : g ∉ m :: brow v
 b : g ≠ bm
 d : g ≠ bd
 e : g ≠ be
 lo : w0.heap.size ≤ g
theorem RunW.lts (R : RunW w0 w base m bm bd be v0 v x y did) : (∀ g ∈ m :: brow v, g < w.heap.size) ∧ bm < w.heap.size ∧ bd < w.heap.size ∧ be < w.heap.size ∧ w0.heap.size ≤ w.heap.size := by
 obtain ⟨z, hz, ke⟩ := R.ke
 refine ⟨fun g hg => ?_, R.kb.lt, R.kd.lt, ke.lt, R.mv.t.size⟩
 rcases List.mem_cons.1 hg with rfl | hg
 ·exact R.mach.mlt
 ·exact (R.mach.bus.lt g hg).2
theorem Side.new (R : RunW w0 w base m bm bd be v0 v x y did) (X : Array Value) (t : TypeId) : Side w0 (w.alloc (.cells X t)) m bm bd be v w.heap.size X t := by
 obtain ⟨h1, h2, h3, h4, h5⟩ := R.lts
 exact ⟨Blk.new w X t, fun hg => absurd (h1 _ hg) (Nat.lt_irrefl _), by omega, by omega, by omega, h5⟩
theorem Side.mm {g : Nat} {X : Array Value} {t : TypeId} (S : Side w0 w m bm bd be v g X t) (h : MMoves w w' m v v') : Side w0 w' m bm bd be v' g X t :=
 ⟨(h.t.block g S.blk.lt S.fr).trans S.blk, h.free S.blk.lt S.fr, S.b, S.d, S.e, S.lo⟩
theorem Side.step {g : Nat} {X : Array Value} {t : TypeId} (S : Side w0 w m bm bd be v g X t) (h : Below w.heap.size w w') : Side w0 w' m bm bd be v g X t := S.mm (MMoves.below h)
theorem Side.alloc {g : Nat} {X : Array Value} {t : TypeId} (S : Side w0 w m bm bd be v g X t) (o : Obj) : Side w0 (w.alloc o) m bm bd be v g X t := S.step ((Below.refl _ _).alloc (Nat.le_refl _) o)
theorem Side.drew {g : Nat} {X : Array Value} {t : TypeId} (S : Side w0 w m bm bd be v g X t) : Side w0 w.drew m bm bd be v g X t := S.step (Below.refl _ _).drew
theorem Side.setDid {g : Nat} {X : Array Value} {t : TypeId} (S : Side w0 w m bm bd be v g X t) (u : Value) : Side w0 (w.setCell ⟨bd, 0, none⟩ u) m bm bd be v g X t := ⟨S.blk.far (by simpa using S.d) u, S.fr, S.b, S.d, S.e, S.lo⟩
theorem Side.setRow {g : Nat} {X : Array Value} {t : TypeId} (S : Side w0 w m bm bd be v g X t) (X' : Array Value) : Side w0 (w.setRow g X') m bm bd be v g X' t := ⟨S.blk.setRow X', S.fr, S.b, S.d, S.e, S.lo⟩
theorem Side.farRow {g k : Nat} {X : Array Value} {t : TypeId} (S : Side w0 w m bm bd be v g X t) (h : g ≠ k) (X' : Array Value) : Side w0 (w.setRow k X') m bm bd be v g X t := ⟨S.blk.farRow h X', S.fr, S.b, S.d, S.e, S.lo⟩
theorem RunW.sideRow {g : Nat} {X : Array Value} {t : TypeId} (R : RunW w0 w base m bm bd be v0 v x y did) (S : Side w0 w m bm bd be v g X t) (X' : Array Value) : RunW w0 (w.setRow g X') base m bm bd be v0 v x y did :=
 R.own (mtouch_row w g X') S.fr S.b S.d S.e S.lo (by have := S.lo; have := R.wpos; omega)
theorem RunW.act (R : RunW w0 w base m bm bd be v0 v x y did) {k a z l h : Int} {x' : BS} (hq : x.act k a z = (l, h, x')) (a0 : 0 ≤ a) (a1 : a < 4294967296) (z0 : 0 ≤ z) (z1 : z < 4294967296) :
 Calls Tryz.prog 37 #[.pointer (some ⟨v.b, 0, none⟩), .agg #[.int .i64 k, .int .u32 a, .int .u32 z]] w fun e w' => e = .returned (.tuple #[.int .u32 l, .int .i64 h]) ∧ ∃ v', RunW w0 w' base m bm bd be v0 v' x' y did ∧ MMoves w w' m v v' := by
 have := bdo_any R.mach.bus k a z a0 a1 z0 z1
 rw [hq] at this
 refine this.mono ?_
 rintro e w' ⟨rfl, v', B, h⟩
 exact ⟨rfl, v', R.mm (R.mach.moved B h) (.of h), .of h⟩
theorem RunW.ends' (R : RunW w0 w base m bm bd be v0 v x y did) {d : Int} (hd : (did : Int) = d) (s0 : 0 ≤ y.st) (s1 : y.st + d ≤ 9223372036854775807) (k t a : Int) :
 Calls Tryz.prog 32 #[.agg #[.int .i64 k, .int .i64 t, .int .u32 a, .int .i64 0], .pointer (some ⟨bm, 0, none⟩), .pointer (some ⟨bd, 0, none⟩)] w fun e w' => e = .returned (.agg (endA k t a d)) ∧ RunW w0 w' base m bm bd be v0 v x { y with st := y.st + d } did := by
 subst hd
 exact R.ends s0 s1 k t a
end
end Go.Proofs.YtgcknekhimpfkaaGreatDoor
