/- Two machines side by side. -/
import Derived.Test.YtgcknekhimpfkaaDoorQH
namespace Go.Proofs.YtgcknekhimpfkaaDoor
open Go Go.RowKit Go.Lib Go.Proofs.YtgcknekhimpfkaaDoor.Pl
set_option linter.unusedVariables false
set_option linter.unusedSimpArgs false
/-- A machine that was made since w0, at a base of its own. -/
structure Own1 (w0 w : World) (b m : Nat) (v : BV) (x : BS) (y : MC) : Prop where
  a : MachAt w b m v x y
  below : Below w0.heap.size w0 w
  lo : w0.heap.size ≤ b
structure Two (w0 w : World) (b m : Nat) (v : BV) (x : BS) (y : MC) (c n : Nat) (u : BV) (z : BS) (t : MC) : Prop where
  ma : MachAt w b m v x y
  mb : MachAt w c n u z t
  below : Below w0.heap.size w0 w
  la : w0.heap.size ≤ b
  lb : w0.heap.size ≤ c
  ap : ∀ g ∈ m :: brow v, g ∉ n :: brow u
section
variable {w0 w w' : World} {b c m n : Nat} {v v' u u' : BV} {x x' z z' : BS} {y y' t t' : MC}
theorem MachAt.rows (M : MachAt w b m v x y) : ∀ g ∈ m :: brow v, b ≤ g ∧ g < w.heap.size := fun g hg => by
  rcases List.mem_cons.1 hg with rfl | hg
  · exact ⟨M.lo, M.mlt⟩
  · exact M.bus.lt g hg
theorem Own1.op (O : Own1 w0 w b m v x y) (M : MachAt w' b m v' x' y') (h : MMoves w w' m v v') : Own1 w0 w' b m v' x' y' :=
  ⟨M, O.below.trans (h.t.below O.below.size (fun g hg => Nat.le_trans O.lo (O.a.rows g hg).1)), O.lo⟩
theorem Own1.step (O : Own1 w0 w b m v x y) (h : Below w.heap.size w w') : Own1 w0 w' b m v x y := O.op (O.a.step h) (MMoves.below h)
theorem Own1.cpu (O : Own1 w0 w b m v x y) : Calls Tryd.prog 12 #[.pointer (some ⟨m, 0, none⟩)] w fun e w' => e = .returned (.agg y.cs) ∧ Own1 w0 w' b m v x y ∧ Below w.heap.size w w' :=
  (mCpu_any O.a).mono fun e w' ⟨h1, h2⟩ => ⟨h1, O.step h2, h2⟩
/-- What waits behind a Feed. -/
def fedQ (q : List UInt8) (s : ByteArray) : List UInt8 := if q.length + s.size ≤ 65536 then q ++ s.data.toList else q
theorem mfeed_q (M : MachAt w b m v x y) (s : ByteArray) (hs : s.size ≤ 140737488351232) : Calls Tryd.prog 15 #[.pointer (some ⟨m, 0, none⟩), .string s] w fun e w' => ∃ k : Int, e = .returned (.int .i64 k) ∧ ∃ v', MachAt w' b m v' { x with q := fedQ x.q s } y ∧ MMoves w w' m v v' := by
  unfold fedQ
  by_cases h : x.q.length + s.size ≤ 65536
  · rw [if_pos h]
    exact (mFeed_any M s h).mono fun e w' ⟨h1, h2⟩ => ⟨0, h1, h2⟩
  · rw [if_neg h]
    exact (mFeed_no M s (by omega) hs).mono fun e w' ⟨h1, h2⟩ => ⟨40, h1, v, by subst h2; exact M, by subst h2; exact MMoves.refl _ _ _⟩
theorem Own1.feed (O : Own1 w0 w b m v x y) (s : ByteArray) (hs : s.size ≤ 140737488351232) : Calls Tryd.prog 15 #[.pointer (some ⟨m, 0, none⟩), .string s] w fun e w' => ∃ k : Int, e = .returned (.int .i64 k) ∧ ∃ v', Own1 w0 w' b m v' { x with q := fedQ x.q s } y ∧ MMoves w w' m v v' :=
  (mfeed_q O.a s hs).mono fun e w' ⟨k, h1, v', h2, h3⟩ => ⟨k, h1, v', O.op h2 h3, h3⟩
theorem Own1.run (O : Own1 w0 w b m v x y) (hT : Tab w0) (most : Int) (n : Nat) (hn : min (max most 0) 10000000 = (n : Int)) (s0 : 0 ≤ y.st) (s1 : y.st ≤ 9000000000000000000)
    {k t a dI : Int} {d : Nat} {cs : Array Value} {x' : BS} {g : Bool} (hZ : runM y.cut n y.cs x (lookV y.cut x.ws.length) 0 = ⟨k, t, a, d, cs, x', g⟩) (hd : (d : Int) = dI) :
    Calls Tryd.prog 11 #[.pointer (some ⟨m, 0, none⟩), .int .i64 most] w fun e w' => e = .returned (.agg (endA k t a dI)) ∧ ∃ v', Own1 w0 w' b m v' x' { y with cs := cs, gone := g, st := y.st + dI } ∧ MMoves w w' m v v' := by
  refine (mrun_as O.a (hT.below O.below hT.lt) (Nat.lt_of_lt_of_le hT.lt O.lo) most n hn s0 s1 hZ hd).mono ?_
  rintro e w' ⟨rfl, v', M, V⟩
  exact ⟨rfl, v', O.op M V, V⟩
theorem Own1.steps (O : Own1 w0 w b m v x y) : Calls Tryd.prog 17 #[.pointer (some ⟨m, 0, none⟩)] w fun e w' => e = .returned (.int .i64 y.st) ∧ w = w' := mSteps_any O.a
theorem Two.swap (T : Two w0 w b m v x y c n u z t) : Two w0 w c n u z t b m v x y := ⟨T.mb, T.ma, T.below, T.lb, T.la, fun g hg hn => T.ap g hn hg⟩
theorem Two.opA (T : Two w0 w b m v x y c n u z t) (M : MachAt w' b m v' x' y') (h : MMoves w w' m v v') : Two w0 w' b m v' x' y' c n u z t :=
  ⟨M, T.mb.touch h.t (fun hm => T.ap n hm List.mem_cons_self) (fun g hg hm => T.ap g hm (List.mem_cons_of_mem _ hg)),
   T.below.trans (h.t.below T.below.size (fun g hg => Nat.le_trans T.la (T.ma.rows g hg).1)), T.la, T.lb, fun g hg hn => by
    rcases List.mem_cons.1 hg with rfl | hg
    · exact T.ap g List.mem_cons_self hn
    · rcases h.n g hg with h1 | h1
      · exact T.ap g (List.mem_cons_of_mem _ h1) hn
      · have := (T.mb.rows g hn).2; omega⟩
theorem Two.step (T : Two w0 w b m v x y c n u z t) (h : Below w.heap.size w w') : Two w0 w' b m v x y c n u z t := T.opA (T.ma.step h) (MMoves.below h)
theorem Two.one (T : Two w0 w b m v x y c n u z t) : Own1 w0 w b m v x y := ⟨T.ma, T.below, T.la⟩
theorem Two.cpuA (T : Two w0 w b m v x y c n u z t) : Calls Tryd.prog 12 #[.pointer (some ⟨m, 0, none⟩)] w fun e w' => e = .returned (.agg y.cs) ∧ Two w0 w' b m v x y c n u z t ∧ Below w.heap.size w w' :=
  (mCpu_any T.ma).mono fun e w' ⟨h1, h2⟩ => ⟨h1, T.step h2, h2⟩
theorem Two.feedA (T : Two w0 w b m v x y c n u z t) (s : ByteArray) (hs : s.size ≤ 140737488351232) : Calls Tryd.prog 15 #[.pointer (some ⟨m, 0, none⟩), .string s] w fun e w' => ∃ k : Int, e = .returned (.int .i64 k) ∧ ∃ v', Two w0 w' b m v' { x with q := fedQ x.q s } y c n u z t ∧ MMoves w w' m v v' :=
  (mfeed_q T.ma s hs).mono fun e w' ⟨k, h1, v', h2, h3⟩ => ⟨k, h1, v', T.opA h2 h3, h3⟩
theorem Two.runA (T : Two w0 w b m v x y c n u z t) (hT : Tab w0) (most : Int) (j : Nat) (hn : min (max most 0) 10000000 = (j : Int)) (s0 : 0 ≤ y.st) (s1 : y.st ≤ 9000000000000000000)
    {k tr a dI : Int} {d : Nat} {cs : Array Value} {x' : BS} {g : Bool} (hZ : runM y.cut j y.cs x (lookV y.cut x.ws.length) 0 = ⟨k, tr, a, d, cs, x', g⟩) (hd : (d : Int) = dI) :
    Calls Tryd.prog 11 #[.pointer (some ⟨m, 0, none⟩), .int .i64 most] w fun e w' => e = .returned (.agg (endA k tr a dI)) ∧ ∃ v', Two w0 w' b m v' x' { y with cs := cs, gone := g, st := y.st + dI } c n u z t ∧ MMoves w w' m v v' := by
  refine (mrun_as T.ma (hT.below T.below hT.lt) (Nat.lt_of_lt_of_le hT.lt T.la) most j hn s0 s1 hZ hd).mono ?_
  rintro e w' ⟨rfl, v', M, V⟩
  exact ⟨rfl, v', T.opA M V, V⟩
theorem Two.cutA (T : Two w0 w b m v x y c n u z t) (a : Int) (h0 : 0 ≤ a) : Calls Tryd.prog 18 #[.pointer (some ⟨m, 0, none⟩), .int .i64 a] w fun e w' => e = .returned (.tuple #[]) ∧ Two w0 w' b m v x { y with cut := a } c n u z t ∧ MMoves w w' m v v :=
  (mCutAt_any T.ma a h0).mono fun e w' ⟨h1, h2, h3⟩ => ⟨h1, T.opA h2 h3, h3⟩
theorem Two.diskA (T : Two w0 w b m v x y c n u z t) : Calls Tryd.prog 19 #[.pointer (some ⟨m, 0, none⟩)] w fun e w' => e = .returned (.pointer (some ⟨v.d, 0, none⟩)) ∧ w = w' := mDisk_any T.ma
theorem Two.outA (T : Two w0 w b m v x y c n u z t) : Calls Tryd.prog 22 #[.pointer (some ⟨m, 0, none⟩)] w fun e w' => e = .returned (.string (ofBs x.o)) ∧ w = w' := mOut_any T.ma
theorem Two.stepsA (T : Two w0 w b m v x y c n u z t) : Calls Tryd.prog 17 #[.pointer (some ⟨m, 0, none⟩)] w fun e w' => e = .returned (.int .i64 y.st) ∧ w = w' := mSteps_any T.ma
end
end Go.Proofs.YtgcknekhimpfkaaDoor
