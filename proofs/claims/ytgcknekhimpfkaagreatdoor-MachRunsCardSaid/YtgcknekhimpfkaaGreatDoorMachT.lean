/- Two machines side by side. -/
import Derived.Test.YtgcknekhimpfkaaGreatDoorQH
namespace Go.Proofs.YtgcknekhimpfkaaGreatDoor
open Go Go.RowKit Go.Lib Go.Proofs.YtgcknekhimpfkaaGreatDoor.Pl
set_option linter.unusedVariables false
set_option linter.unusedSimpArgs false
/-- A machine that was made since w0, at a base of its own. -/
structure Own1 (w0 w : World) (b m : Nat) (v : BV) (x : BS) (y : MC) : Prop where
 a : MachAt w b m v x y
 below : Below w0.heap.size w0 w
 lo : w0.heap.size ≤ b
structure Two (w0 w : World) (b m : Nat) (v : BV) (x : BS) (y : MC) (c n : Nat) (u : BV) (z : BS) (t : MC) : Prop where
 ma : MachAt w b m v x y
 mb : MachAt w c n u z t
 below : Below w0.heap.size w0 w
 la : w0.heap.size ≤ b
 lb : w0.heap.size ≤ c
 ap : ∀ g ∈ m :: brow v, g ∉ n :: brow u
section
variable {w0 w w' : World} {b c m n : Nat} {v v' u u' : BV} {x x' z z' : BS} {y y' t t' : MC}
theorem MachAt.rows (M : MachAt w b m v x y) : ∀ g ∈ m :: brow v, b ≤ g ∧ g < w.heap.size := fun g hg => by
 rcases List.mem_cons.1 hg with rfl | hg
 ·exact ⟨M.lo, M.mlt⟩
 ·exact M.bus.lt g hg
theorem Own1.op (O : Own1 w0 w b m v x y) (M : MachAt w' b m v' x' y') (h : MMoves w w' m v v') : Own1 w0 w' b m v' x' y' :=
 ⟨M, O.below.trans (h.t.below O.below.size (fun g hg => Nat.le_trans O.lo (O.a.rows g hg).1)), O.lo⟩
theorem Own1.step (O : Own1 w0 w b m v x y) (h : Below w.heap.size w w') : Own1 w0 w' b m v x y := O.op (O.a.step h) (MMoves.below h)
theorem Own1.cpu (O : Own1 w0 w b m v x y) : Calls Tryz.prog 12 #[.pointer (some ⟨m, 0, none⟩)] w fun e w' => e = .returned (.agg y.cs) ∧ Own1 w0 w' b m v x y ∧ Below w.heap.size w w' :=
 (mCpu_any O.a).mono fun e w' ⟨h1, h2⟩ => ⟨h1, O.step h2, h2⟩
theorem Own1.run (O : Own1 w0 w b m v x y) (hT : Tab w0) (most : Int) (n : Nat) (hn : min (max most 0) 10000000 = (n : Int)) (s0 : 0 ≤ y.st) (s1 : y.st ≤ 9000000000000000000)
 {k t a dI : Int} {d : Nat} {cs : Array Value} {x' : BS} {g : Bool} (hZ : runM y.cut n y.cs x (lookV y.cut x.ws.length) 0 = ⟨k, t, a, d, cs, x', g⟩) (hd : (d : Int) = dI) :
 Calls Tryz.prog 11 #[.pointer (some ⟨m, 0, none⟩), .int .i64 most] w fun e w' => e = .returned (.agg (endA k t a dI)) ∧ ∃ v', Own1 w0 w' b m v' x' { y with cs := cs, gone := g, st := y.st + dI } ∧ MMoves w w' m v v' := by
 refine (mrun_as O.a (hT.below O.below hT.lt) (Nat.lt_of_lt_of_le hT.lt O.lo) most n hn s0 s1 hZ hd).mono ?_
 rintro e w' ⟨rfl, v', M, V⟩
 exact ⟨rfl, v', O.op M V, V⟩
theorem Own1.steps (O : Own1 w0 w b m v x y) : Calls Tryz.prog 24 #[.pointer (some ⟨m, 0, none⟩)] w fun e w' => e = .returned (.int .i64 y.st) ∧ w = w' := mSteps_any O.a
theorem Two.opA (T : Two w0 w b m v x y c n u z t) (M : MachAt w' b m v' x' y') (h : MMoves w w' m v v') : Two w0 w' b m v' x' y' c n u z t :=
 ⟨M, T.mb.touch h.t (fun hm => T.ap n hm List.mem_cons_self) (fun g hg hm => T.ap g hm (List.mem_cons_of_mem _ hg)),
  T.below.trans (h.t.below T.below.size (fun g hg => Nat.le_trans T.la (T.ma.rows g hg).1)), T.la, T.lb, fun g hg hn => by
   rcases List.mem_cons.1 hg with rfl | hg
   ·exact T.ap g List.mem_cons_self hn
   ·rcases h.n g hg with h1 | h1
    ·exact T.ap g (List.mem_cons_of_mem _ h1) hn
    ·have := (T.mb.rows g hn).2; omega⟩
theorem Two.step (T : Two w0 w b m v x y c n u z t) (h : Below w.heap.size w w') : Two w0 w' b m v x y c n u z t := T.opA (T.ma.step h) (MMoves.below h)
theorem Two.one (T : Two w0 w b m v x y c n u z t) : Own1 w0 w b m v x y := ⟨T.ma, T.below, T.la⟩
theorem Two.cpuA (T : Two w0 w b m v x y c n u z t) : Calls Tryz.prog 12 #[.pointer (some ⟨m, 0, none⟩)] w fun e w' => e = .returned (.agg y.cs) ∧ Two w0 w' b m v x y c n u z t ∧ Below w.heap.size w w' :=
 (mCpu_any T.ma).mono fun e w' ⟨h1, h2⟩ => ⟨h1, T.step h2, h2⟩
end
end Go.Proofs.YtgcknekhimpfkaaGreatDoor
