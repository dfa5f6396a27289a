/- Cut. -/
import Derived.Test.YtegiabnlmngkmaaDiskV
import Derived.DeepKeys
import Derived.Laws.StructEq
import Derived.Handy
namespace Go.Proofs.Ytegiabnlmngkmaa
open Go Go.RowKit Go.Lib
set_option linter.unusedVariables false
set_option linter.unusedSimpArgs false
/-! ### Two sectors, compared -/
def lits (s : ByteArray) : List Lit := s.data.toList.map fun b => Lit.int .u8 b.toNat
theorem lits_inj {a b : ByteArray} (h : lits a = lits b) : a = b := by
  have : a.data.toList = b.data.toList := by
    refine List.map_inj_right (f := fun b : UInt8 => Lit.int .u8 (b.toNat : Int)) ?_ |>.1 h
    intro x y hxy
    simp only [Lit.int.injEq, true_and] at hxy
    exact UInt8.toNat_inj.1 (by omega)
  cases a; cases b
  simp only [ByteArray.mk.injEq]
  exact Array.toList_inj.1 this
theorem mapM_some_map {α β : Type} (f : α → Option β) (g : α → β) : ∀ (l : List α), (∀ x ∈ l, f x = some (g x)) → l.mapM f = some (l.map g)
  | [], _ => rfl
  | x :: l, h => by
    rw [List.mapM_cons, h x (by simp), mapM_some_map f g l (fun y hy => h y (by simp [hy]))]
    rfl
theorem cells_sector : Try.prog.cellsOf 63 = 1024 := by kernel_rfl
theorem cells_u8 : Try.prog.cellsOf 5 = 1 := by kernel_rfl
theorem wf_byte (b : UInt8) : (Lit.int .u8 (b.toNat : Int)).wf = true := WalkArith.wf_u8 (by have := b.toNat_lt; omega)
theorem lits_sector (s : ByteArray) (hs : s.size = 1024) : Try.prog.keyLits 2 63 (strCells s) = some (lits s) := by
  have hl : (strCells s).length = 1024 := by rw [strCells_length, hs]
  unfold Program.keyLits
  simp only [Try.underlying63]
  rw [cells_sector, if_pos hl, cells_u8]
  rw [mapM_some_map _ (fun i => [Lit.int .u8 ((s.data.toList.getD i 0).toNat : Int)])]
  · simp only [Option.map_some, Option.some.injEq]
    have hd : s.data.toList.length = 1024 := by rw [Array.length_toList]; exact hs
    have : ∀ (l : List UInt8), ((List.range l.length).map fun i => [Lit.int .u8 ((l.getD i 0).toNat : Int)]).flatten = l.map fun b => Lit.int .u8 (b.toNat : Int) := by
      intro l
      apply List.ext_getElem?
      intro j
      rw [← List.flatMap_def]
      have e : (List.range l.length).flatMap (fun i => [Lit.int .u8 ((l.getD i 0).toNat : Int)]) = (List.range l.length).map fun i => Lit.int .u8 ((l.getD i 0).toNat : Int) := by
        induction List.range l.length with
        | nil => rfl
        | cons x xs ih => rw [List.flatMap_cons, List.map_cons, ih]; rfl
      rw [e, List.getElem?_map, List.getElem?_map]
      by_cases hj : j < l.length
      · rw [List.getElem?_range hj]; simp [hj]
      · rw [List.getElem?_eq_none (by simpa using hj), List.getElem?_eq_none (by simpa using hj)]; rfl
    have h2 := this s.data.toList
    rw [hd] at h2
    exact h2
  · intro i hi
    have hi' : i < 1024 := by simpa using hi
    have hd : i < s.data.size := by have : s.data.size = s.size := rfl; omega
    have h1 : ((strCells s).drop (i * 1)).take 1 = [.int .u8 ((s.data.toList.getD i 0).toNat : Int)] := by
      apply List.ext_getElem?
      intro j
      rw [List.getElem?_take]
      match j with
      | 0 => simp [strCells, List.getD, Array.getElem?_eq_getElem hd]
      | j + 1 => simp
    rw [h1]
    unfold Program.keyLits
    simp only [Try.underlying5]
    simp [wf_byte]
theorem eq_sector (a b : ByteArray) (ha : a.size = 1024) (hb : b.size = 1024) (w : World) : (Op.equalIn 10000 63 (.agg (strCells a).toArray) (.agg (strCells b).toArray)).run Try.prog w = .ok (decide (a = b)) w := by
  have hk : Try.prog.keyTypeAt 2 63 = true := by kernel_rfl
  have form : ∀ s : ByteArray, s.size = 1024 → (Value.agg (strCells s).toArray).formed Try.prog 63 = true := fun s hs => by
    simp only [Value.formed, Try.underlying63]
    rw [List.size_toArray, strCells_length, hs, cells_sector]; rfl
  obtain ⟨r, h1, h2⟩ := run_equalIn_deep (P := Try.prog) 9998 2 63 hk w 2 2 _ _ (lits a) (lits b) (form a ha) (form b hb) (by simpa [Value.cells] using lits_sector a ha) (by simpa [Value.cells] using lits_sector b hb)
  rw [h1]
  congr 1
  by_cases e : a = b
  · subst e; rw [h2.2 rfl]; simp
  · rw [decide_eq_false e]
    cases r
    · rfl
    · exact absurd (lits_inj (h2.1 rfl)) e
theorem guard_sector : Try.prog.eqGuardType Try.prog.depth 63 = false := by kernel_rfl
end Go.Proofs.Ytegiabnlmngkmaa
