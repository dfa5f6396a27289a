/- A machine, and the document's, made of words: carrellaw05.made. -/
import Derived.Test.YtgcknekhimpfkaaGreatDoorMachM
import Derived.Test.YtgcknekhimpfkaaGreatDoorMachT
import Derived.Deep.RegionLaw
import Derived.Lib.JoinLaws
import Derived.BigRegion
import Derived.Deep.Cut
import Derived.WalkSpells
namespace Go.Proofs.YtgcknekhimpfkaaGreatDoor
open Go Go.RowKit Go.Lib Go.Proofs.YtgcknekhimpfkaaGreatDoor.Pl
set_option linter.unusedVariables false
set_option linter.unusedSimpArgs false
theorem u32_zinfo : (Tryz.prog.info? 23).map (fun i => (i.zero, i.size, i.bytes)) = some (some (.int .u32 0), 1, 4) := by kernel_rfl
theorem mk_room (c : Nat) (hc : c ≤ 1000000) (w : World) : (Instr.makeSlice 22 (.int .i64 0) (.int .i64 (c : Int))).run Tryz.prog w = .ok (.slice (some ⟨w.heap.size, 0, none⟩) 0 c) (w.alloc (.cells (madeCells #[.int .u32 0] c) 23)) :=
 run_make_room 22 23 (.int .u32 0) 4 Tryz.underlying22 u32_zinfo rfl .i64 .i64 c (by omega) (by omega) w
def secN (s : Int) : Nat := if 8 ≤ s ∧ s ≤ 64 then s.toNat else 8
theorem secN_bd (s : Int) : 8 ≤ secN s ∧ secN s ≤ 64 := by unfold secN; split <;> omega
def rstart (n c : Nat) (A : Option Addr) (ent s : Int) : Array Value := #[.slice A n c, .int .u32 ent, .int .i64 s]
/-- How many sectors. -/
theorem sec_ways (s : Int) : (decide (s < 8) = true ∧ s < 8 ∧ secN s = 8) ∨ (decide (s < 8) = false ∧ decide (64 < s) = true ∧ 64 < s ∧ secN s = 8) ∨ (decide (s < 8) = false ∧ decide (64 < s) = false ∧ 8 ≤ s ∧ s ≤ 64 ∧ (secN s : Int) = s) := by
 unfold secN
 by_cases h1 : s < 8
 ·exact .inl ⟨decide_eq_true h1, h1, if_neg (by omega)⟩
 ·by_cases h2 : 64 < s
  ·exact .inr (.inl ⟨decide_eq_false h1, decide_eq_true h2, h2, if_neg (by omega)⟩)
  ·exact .inr (.inr ⟨decide_eq_false h1, decide_eq_false h2, by omega, by omega, by rw [if_pos (by omega)]; omega⟩)
/-- Words behind none, where there is room. -/
theorem run_fill (w : World) (g n : Nat) (c : Nat) (A : Option Addr) (f : Nat → Int) (ty : TypeId) (hsrc : 0 < n → ∃ b off, A = some ⟨b, off, none⟩ ∧ ∀ i, i < n → w.cell? ⟨b, off + i, none⟩ = some (.int .u32 (f i))) (hth : ∀ j, j < n → (w.cell? ⟨g, j, none⟩).isSome = true ∧ w.frozen? ⟨g, j, none⟩ = false) :
 (Builtin.append_ #[22, 22] ty #[.slice (some ⟨g, 0, none⟩) 0 (n + 2), .slice A n c]).run Tryz.prog w = .ok (.slice (some ⟨g, 0, none⟩) n (n + 2)) (w.setCells g 0 (icells f n)) := by
 obtain ⟨i0, hi, hz0, hz1, hz2⟩ := u32_info
 rcases Nat.eq_zero_or_pos n with rfl | hn
 ·have e : w.setCells g 0 (icells f 0) = w := rfl
  rw [e]
  cases A <;> simp [Builtin.append_, run_underlying Tryz.underlying22, sizeOf, typeInfo, hi, hz1, Builtin.lenOf, Builtin.firstCells, loadCells, loadCellsFrom, storeCells, Result.andThen]
 ·obtain ⟨b, off, rfl, hc⟩ := hsrc hn
  have hadd : ∀ j, (⟨b, off, none⟩ : Addr).add j = ⟨b, off + j, none⟩ := fun j => by unfold Addr.add; split <;> simp_all
  have := run_append_room_cells (P := Tryz.prog) w 22 ty 23 i0 Tryz.underlying22 hi g 0 0 (n + 2) ⟨b, off, none⟩ n c (icells f n) (by rw [icells_length, hz1, Nat.mul_one]) (fun j u hj => by
   have hl : j < n := by have := (List.getElem?_eq_some_iff.1 hj).1; rwa [icells_length] at this
   rw [hadd, hc j hl, ← hj, icells_get f n j hl]) (icells_one f n) (by omega) (fun j hj => by
   rw [icells_length] at hj
   simpa using (hth j hj).1) (fun j hj => by
   rw [icells_length] at hj
   simpa using (hth j hj).2)
  simpa using this
theorem step_fill {ops : Array Oper} {o : Oper} {a : Act} {w : World} {K : Act → World → Prop} {Q : Exit → Act → World → Prop} {E : Prop}
 (hg : o.guard = none) (s x : Operand) (hop : o.op = Op.call { callee := Callee.builtin Builtin.append, args := #[s, x], argTypes := #[22, 22] }) (g n c : Nat) (A : Option Addr) (f : Nat → Int)
 (hs : a.eval s = .slice (some ⟨g, 0, none⟩) 0 (n + 2)) (hx : a.eval x = .slice A n c)
 (hsrc : 0 < n → ∃ b off, A = some ⟨b, off, none⟩ ∧ ∀ i, i < n → w.cell? ⟨b, off + i, none⟩ = some (.int .u32 (f i))) (hth : ∀ j, j < n → (w.cell? ⟨g, j, none⟩).isSome = true ∧ w.frozen? ⟨g, j, none⟩ = false)
 (hK : K (a.put o.dst (.slice (some ⟨g, 0, none⟩) n (n + 2))) (w.setCells g 0 (icells f n))) :
 if Region.wanted o (yielded ops a.tmps) = true then Oper.wp Tryz.prog o a w K Q else E := by
 have hw : Region.wanted o (yielded ops a.tmps) = true := by simp [Region.wanted, hg]
 rw [if_pos hw]
 have hrun := run_fill w g n c A f o.type hsrc hth
 unfold Oper.wp
 simp [execOp, hop, resolve, invoke, builtin, hs, hx, hrun, Result.andThen]
 exact hK
theorem own_fill (W : World) (g n : Nat) (f : Nat → Int) (h : W.heap[g]? = some (.cells (madeCells #[.int .u32 0] (n + 2)) 23 (0, 0))) : OwnI .u32 (W.setCells g 0 (icells f n)) g (n + 2) 23 (fun i => if i < n then f i else 0) :=
 rmem_made ⟨_, h, size_madeCells _ _, fun i hi => made_u32 (n + 2) i hi⟩ f n (by omega)
theorem fill_below {w W : World} {g : Nat} (h : Below w.heap.size w W) (hg : w.heap.size ≤ g) (us : List Value) : Below w.heap.size w (W.setCells g 0 us) :=
 h.trans ((Touch.setCells g us 0 W).below h.size (fun k hk => by rw [show k = g from by simpa using hk]; exact hg))
theorem RdI.congr {k : IntKind} {w : World} {A : Option Addr} {n : Nat} {f g : Nat → Int} (h : RdI k w A n f) (e : ∀ i, i < n → f i = g i) : RdI k w A n g := fun hn => by
 obtain ⟨b, off, h1, h2, h3⟩ := h hn
 exact ⟨b, off, h1, h2, fun i hi => by rw [h3 i hi, e i hi]⟩
theorem RdI.keep {k : IntKind} {w w' : World} {A : Option Addr} {n : Nat} {f : Nat → Int} (h : RdI k w A n f) (hb : Below w.heap.size w w') : RdI k w' A n f := fun hn => by
 obtain ⟨b, off, h1, h2, h3⟩ := h hn
 exact ⟨b, off, h1, Nat.lt_of_lt_of_le h2 hb.size, fun i hi => (hb.cell (p := ⟨b, off + i, none⟩) h2).trans (h3 i hi)⟩
/-- The machine stands while the words that were lent are spoilt. -/
structure Lent (w0 wr : World) (b m : Nat) (v : BV) (x : BS) (y : MC) (g n : Nat) : Prop where
 a : MachAt wr b m v x y
 below : Below w0.heap.size w0 wr
 lent : ∃ Z, Blk wr g Z 23 ∧ n ≤ Z.size
 gm : g ≠ m
 gb : g ∉ brow v
 lo : w0.heap.size ≤ g
theorem Lent.set {w0 wr : World} {b m : Nat} {v : BV} {x : BS} {y : MC} {g n : Nat} (L : Lent w0 wr b m v x y g n) (j : Nat) (u : Value) : Lent w0 (wr.setCell ⟨g, j, none⟩ u) b m v x y g n := by
 obtain ⟨Z, h1, h2⟩ := L.lent
 exact ⟨L.a.far g j u L.gm L.gb, L.below.setCell L.lo u, ⟨_, h1.set j u, by simpa using h2⟩, L.gm, L.gb, L.lo⟩
theorem Lent.cell {w0 wr : World} {b m : Nat} {v : BV} {x : BS} {y : MC} {g n : Nat} (L : Lent w0 wr b m v x y g n) (j : Nat) (hj : j < n) : (∃ u, wr.cell? ⟨g, j, none⟩ = some u) ∧ wr.frozen? ⟨g, j, none⟩ = false := by
 obtain ⟨Z, h1, h2⟩ := L.lent
 exact ⟨⟨Z[j]'(by omega), by rw [h1.cell j, Array.getElem?_eq_getElem (by omega)]⟩, h1.frozen j⟩
end Go.Proofs.YtgcknekhimpfkaaGreatDoor
