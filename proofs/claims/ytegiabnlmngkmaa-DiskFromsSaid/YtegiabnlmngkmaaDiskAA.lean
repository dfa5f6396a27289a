/- Bytes that were lent, and a string's own bytes; a copy. -/
import Derived.Test.YtegiabnlmngkmaaDiskV
import Derived.Lib.ConvBytes
import Derived.Laws.IdiomCopy
import Derived.Deep.Cut
import Derived.WalkSpells
namespace Go.Proofs.Ytegiabnlmngkmaa
open Go Go.RowKit Go.Lib
set_option linter.unusedVariables false
set_option linter.unusedSimpArgs false
/-- A slice that is the bytes l. -/
def Bs (w : World) (A : Option Addr) (l : List UInt8) : Prop := 0 < l.length → ∃ b off, A = some ⟨b, off, none⟩ ∧ w.rangeAt b off (strCells (ofL l))
theorem Bs.below {w w' : World} {A : Option Addr} {l : List UInt8} (h : Bs w A l) (b : Below w.heap.size w w') : Bs w' A l := fun hl => by
  obtain ⟨g, off, h1, h2⟩ := h hl
  exact ⟨g, off, h1, (Touch.of_below b []).range h2 (by simp)⟩
theorem conv_zero (w : World) (p : Option Addr) (c : Nat) : (convert 30 9 (.slice p 0 c)).run Try.prog w = .ok (.string (ofL [])) w := by
  rw [run_convert_bytes_string w 30 9 5 _ 0 c Try.underlying30 Try.underlying5 Try.underlying9]
  cases p <;> simp [Conv.bytesToString, loadCells]
  all_goals rfl
theorem Bs.conv {w : World} {A : Option Addr} {l : List UInt8} (h : Bs w A l) (c : Nat) : (convert 30 9 (.slice A l.length c)).run Try.prog w = .ok (.string (ofL l)) w := by
  by_cases h0 : 0 < l.length
  · obtain ⟨b, off, rfl, hr⟩ := h h0
    exact conv_range w b off l.length c (ofL l) (ofL_size l) hr
  · obtain rfl : l = [] := List.length_eq_zero_iff.1 (by omega)
    exact conv_zero w A c
theorem bytes_world_below (w : World) (s : ByteArray) : Below w.heap.size w (bytesWorld w 5 s) :=
  ⟨rfl, rfl, rfl, by rw [bytesWorld_size]; omega, fun k hk => bytesWorld_at_old w _ s k hk⟩
theorem bytes_world_range (w : World) (l : List UInt8) : (bytesWorld w 5 (ofL l)).rangeAt w.heap.size 0 (strCells (ofL l)) := fun j v hj => by
  have hjl : j < l.length := by have := (List.getElem?_eq_some_iff.1 hj).1; rw [strCells_length, ofL_size] at this; exact this
  rw [Nat.zero_add, bytesWorld_cell w _ _ j (by rw [ofL_size]; exact hjl)]
  rw [strCells_ofL, List.getElem?_map, List.getElem?_eq_getElem hjl] at hj
  simp only [Option.map_some, Option.some.injEq] at hj
  rw [← hj]
  have : (ofL l).data.toList = l := by simp [ofL]
  rw [this, List.getD_eq_getElem?_getD, List.getElem?_eq_getElem hjl]; rfl
theorem bytes_world_there (w : World) (l : List UInt8) : (bytesWorld w 5 (ofL l)).there w.heap.size 0 l.length := fun j hj => by
  refine ⟨?_, ?_⟩
  · rw [Nat.zero_add, bytesWorld_cell w _ _ j (by rw [ofL_size]; exact hj)]; rfl
  · unfold World.frozen?
    rw [bytesWorld_at_new]
    have hs : (bytesCells w 5 (ofL l)).size = l.length + (grownCap w (ofL l).size 0 5 - (ofL l).size) := by simp [bytesCells, ofL]
    simp only [Nat.zero_add, hs]
    simp
    omega
theorem conv_bytes_of (w : World) (s : ByteArray) : (convert 9 30 (.string s)).run Try.prog w = .ok (.slice (some ⟨w.heap.size, 0, none⟩) s.size (grownCap w s.size 0 5)) (bytesWorld w 5 s) :=
  Go.Lib.run_convert_string_bytes w 9 30 5 s Try.underlying9 Try.underlying30 Try.underlying5
/-- A copy into cells that are there, as one step of a region. -/
theorem step_copy_cells {P : Program} {ops : Array Oper} {o : Oper} {a : Act} {w : World} {K : Act → World → Prop} {Q : Exit → Act → World → Prop} {E : Prop} (hgd : o.guard = none) (d s : Operand) (dT sT : TypeId)
    (ho : o.op = .call { callee := .builtin .copy, args := #[d, s], argTypes := #[dT, sT] }) (elem : TypeId) (hu : P.underlying dT = some (.slice elem)) (hsz : (P.info? elem).map (·.size) = some 1)
    (b off dLen dCap : Nat) (sp : Addr) (sLen sCap : Nat) (hd : a.eval d = .slice (some ⟨b, off, none⟩) dLen dCap) (hs : a.eval s = .slice (some sp) sLen sCap)
    (cs : List Value) (hn : cs.length = Nat.min sLen dLen) (hsrc : ∀ j v, cs[j]? = some v → w.cell? (sp.add j) = some v)
    (ht : w.there b off cs.length) (h1 : ∀ v ∈ cs, v.oneCell' = true)
    (h : K (a.put o.dst (goInt cs.length)) (w.setCells b off cs)) :
    if Region.wanted o (yielded ops a.tmps) = true then Oper.wp P o a w K Q else E := by
  have hw : Region.wanted o (yielded ops a.tmps) = true := by simp [Region.wanted, hgd]
  rw [if_pos hw]
  have hrun := run_copy_cells (P := P) w dT sT o.type elem b off dLen dCap sp sLen sCap cs hu hsz hn hsrc (fun j hj => (ht j hj).1) (fun j hj => (ht j hj).2) h1
  unfold Oper.wp
  simp [execOp, ho, resolve, invoke, builtin, hd, hs, hrun, Result.andThen]
  exact h
/-- A sector of a list. -/
def secL (l : List UInt8) (i : Nat) : ByteArray := ofL ((l.drop (i * 1024)).take 1024)
theorem secL_size (l : List UInt8) (N i : Nat) (hl : l.length = N * 1024) (hi : i < N) : (secL l i).size = 1024 := by
  unfold secL; rw [ofL_size, List.length_take, List.length_drop, hl]
  have : (i + 1) * 1024 ≤ N * 1024 := Nat.mul_le_mul_right _ hi
  omega
theorem imgL_secL (l : List UInt8) (N : Nat) (hl : l.length = N * 1024) (sec : Nat → ByteArray) (hs : ∀ i, i < N → sec i = secL l i) : imgL sec N = l := by
  have key : ∀ k, k ≤ N → imgL sec k = l.take (k * 1024) := by
    intro k
    induction k with
    | zero => intro _; simp [imgL]
    | succ k ih =>
      intro hk
      rw [imgL_succ, ih (by omega), hs k (by omega)]
      have e : (secL l k).data.toList = (l.drop (k * 1024)).take 1024 := by simp [secL, ofL]
      rw [e, show (k + 1) * 1024 = k * 1024 + 1024 from by omega, List.take_add]
  rw [key N (Nat.le_refl _), ← hl, List.take_length]
theorem secL_range {w : World} {b off : Nat} {l : List UInt8} (h : w.rangeAt b off (strCells (ofL l))) (N i : Nat) (hl : l.length = N * 1024) (hi : i < N) : w.rangeAt b (off + i * 1024) (strCells (secL l i)) := fun j v hj => by
  have hj2 : j < 1024 := by have := (List.getElem?_eq_some_iff.1 hj).1; rw [strCells_length, secL_size l N i hl hi] at this; exact this
  rw [Nat.add_assoc]
  refine h (i * 1024 + j) v ?_
  unfold secL at hj
  rw [strCells_ofL, List.getElem?_map, List.getElem?_take, if_pos hj2, List.getElem?_drop] at hj
  rw [strCells_ofL, List.getElem?_map]
  exact hj
end Go.Proofs.Ytegiabnlmngkmaa
