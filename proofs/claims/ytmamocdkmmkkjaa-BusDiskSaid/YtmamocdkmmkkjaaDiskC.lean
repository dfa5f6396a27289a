/- Write. -/
import Derived.Test.YtmamocdkmmkkjaaDiskB
import Derived.Great.BuildSlice
import Derived.Great.FillDense
import Derived.Deep.RegionLaw
import Derived.Deep.DrawnRows
import Derived.BigRegion
namespace Go.Proofs.Ytmamocdkmmkkjaa
open Go Go.RowKit Go.Lib
set_option linter.unusedVariables false
theorem foldl_place (off : Nat) (v cells : Array Value) (h : off + v.size ≤ cells.size) :
    (v.zipIdx.foldl (fun cs (x : Value × Nat) => cs.setIfInBounds (off + x.2) x.1) cells).size = cells.size ∧
    ∀ k, (v.zipIdx.foldl (fun cs (x : Value × Nat) => cs.setIfInBounds (off + x.2) x.1) cells)[k]? = if off ≤ k ∧ k < off + v.size then v[k - off]? else cells[k]? := by
  have := Great.foldl_set off v.toList 0 cells
  rw [← Array.foldl_toList, Array.toList_zipIdx]
  refine ⟨this.1, fun k => ?_⟩
  rw [this.2 k]
  simp only [Nat.add_zero, Array.length_toList, Array.getElem?_toList]
  by_cases hk : off ≤ k ∧ k < off + v.size
  · rw [if_pos hk, if_pos ⟨hk.1, hk.2, by omega⟩]
  · rw [if_neg hk, if_neg (fun h2 => hk ⟨h2.1, h2.2.1⟩)]
theorem fill_two (place : Nat → Option (Nat × Nat)) (cells : Array Value) (a b : Value) (h0 : place 0 = some (0, a.cells.size)) (h1 : place 1 = some (a.cells.size, b.cells.size)) (hs : cells.size = a.cells.size + b.cells.size) :
    Instr.fill place cells [(0, a), (1, b)] = some (a.cells ++ b.cells) := by
  have p1 := foldl_place 0 a.cells cells (by omega)
  have p2 := foldl_place a.cells.size b.cells _ (Nat.le_of_eq (by rw [p1.1]; exact hs.symm))
  simp only [Instr.fill, h0, h1]
  rw [if_neg (by simp only [ne_eq, not_true_eq_false, decide_false, Bool.false_or, decide_eq_true_eq]; omega), if_neg (by simp only [ne_eq, not_true_eq_false, decide_false, Bool.false_or, decide_eq_true_eq, p1.1]; omega)]
  congr 1
  apply Array.ext_getElem?
  intro k
  rw [p2.2 k, p1.2 k, Array.getElem?_append]
  by_cases ha : k < a.cells.size
  · rw [if_neg (by omega), if_pos ⟨Nat.zero_le _, by omega⟩, if_pos ha]; rfl
  · rw [if_neg ha]
    by_cases hb : k < a.cells.size + b.cells.size
    · rw [if_pos ⟨by omega, hb⟩]
    · rw [if_neg (by omega), if_neg (by omega), Array.getElem?_eq_none (by omega), Array.getElem?_eq_none (by omega)]
theorem info_write : ∃ (i : TypeInfo) (z : Value), Try.prog.info? 85 = some i ∧ i.zero = some z ∧ i.size = 1025 ∧ i.bytes = 1032 ∧ z.cells.size = 1025 := by
  have h : (Try.prog.info? 85).map (fun i => (i.zero.map (·.cells.size), i.size, i.bytes)) = some (some 1025, 1025, 1032) := by kernel_rfl
  obtain ⟨i, hi, hzz⟩ := Option.map_eq_some_iff.1 h
  simp only [Prod.mk.injEq] at hzz
  obtain ⟨z, hz, hs⟩ := Option.map_eq_some_iff.1 hzz.1
  exact ⟨i, z, hi, hz, hzz.2.1, hzz.2.2, hs⟩
theorem places_write : (match Try.prog.underlying 85 with | some (.struct fields) => fields.toList.mapM (fun f => (Try.prog.info? f.type).map fun i => (f.offset, i.size)) | _ => none) = some [(0, 1), (1, 1024)] := by kernel_rfl
def buildBig (t : TypeId) (parts : Array (Nat × Value)) : Sem Value := Instr.build t parts
def sliceBig (t : TypeId) (n : Nat) (parts : Array (Nat × Value)) : Sem Value := Instr.buildSlice t n parts
theorem exec_build_write (ρ : Operand → Value) (dst : Option Tmp) (parts : Array (Nat × Operand)) (ty' : TypeId) (pos : String) (after : Array Edge) (guard : Option (Nat × Bool)) :
    execOp ρ ⟨dst, .build 85 parts, ty', pos, after, guard⟩ = (do pure (.value (← buildBig 85 (parts.map fun (i, x) => (i, ρ x))))) := rfl
theorem exec_slice_write (ρ : Operand → Value) (dst : Option Tmp) (n : Nat) (parts : Array (Nat × Operand)) (ty' : TypeId) (pos : String) (after : Array Edge) (guard : Option (Nat × Bool)) :
    execOp ρ ⟨dst, .buildSlice 70 n parts, ty', pos, after, guard⟩ = (do pure (.value (← sliceBig 70 n (parts.map fun (i, x) => (i, ρ x))))) := rfl
theorem build_write (w : World) (n : Int) (cs : List Value) (hl : cs.length = 1024) : (buildBig 85 #[(0, .int .i64 n), (1, .agg cs.toArray)]).run Try.prog w = .ok (.agg (.int .i64 n :: cs).toArray) w := by
  obtain ⟨i, z, hi, hz, h1, h2, h3⟩ := info_write
  refine run_build w _ _ _ ?_
  have hp := places_write
  unfold Program.built
  cases hu : Try.prog.underlying 85 with
  | none => rw [hu] at hp; cases hp
  | some d =>
    cases d with
    | struct fields =>
      rw [hu] at hp
      simp only [hi, hz]
      simp only at hp
      rw [hp]
      simp only
      rw [fill_two _ _ _ _ rfl (by simp [Value.cells, hl]) (by rw [h3]; simp [Value.cells, hl])]
      simp [Value.cells]
    | _ => rw [hu] at hp; cases hp
/-- The same, reckoned out (where a great seat gives the zero value by name). -/
theorem fold_write (n : Int) (cs : List Value) (hl : cs.length = 1024) (Z : Array Value) (hZ : Z.size = 1025) : List.foldl (fun (cs : Array Value) (x : Value × Nat) => cs.setIfInBounds (1 + x.2) x.1) (Z.setIfInBounds 0 (.int .i64 n)) cs.zipIdx = (Value.int .i64 n :: cs).toArray := by
  have h := foldl_place 1 cs.toArray (Z.setIfInBounds 0 (.int .i64 n)) (by simp [hl, hZ])
  rw [← Array.foldl_toList, Array.toList_zipIdx] at h
  simp only [Array.size_setIfInBounds, hZ] at h
  apply Array.ext_getElem?
  intro k
  rw [h.2 k]
  simp only [List.size_toArray, hl]
  cases k with
  | zero => rw [if_neg (by omega)]; simp [hZ]
  | succ k =>
    by_cases hk : k < 1024
    · rw [if_pos (by omega)]; simp
    · rw [if_neg (by omega), Array.getElem?_eq_none (by simp [hZ]; omega), Array.getElem?_eq_none (by simp [hl]; omega)]
theorem slice_write (w : World) (xs : List Value) (hl : xs.length = 1025) : (sliceBig 70 1 #[(0, .agg xs.toArray)]).run Try.prog w = .ok (.slice (some ⟨w.heap.size, 0, none⟩) 1 1) (w.alloc (.cells xs.toArray 85)) := by
  obtain ⟨i, z, hi, hz, h1, h2, h3⟩ := info_write
  refine run_buildSlice w _ _ 1 _ _ i z Try.underlying70 hi hz (by rw [h1]; decide) (by rw [h1]; decide) ?_
  have := Great.fill_whole (s := 1025) (by decide) [.agg xs.toArray] ((Array.range (1 * i.size)).map (z.cells[· % z.cells.size]!)) (by simp [Value.cells, hl]) (by simp [h1])
  simpa [h1, Value.cells] using this
def upd (sec : Nat → ByteArray) (n : Nat) (b : ByteArray) : Nat → ByteArray := fun i => if i = n then b else sec i
section
variable {w w1 : World} {base d s : Nat} {v v' : Value} {N : Nat} {sec : Nat → ByteArray} {ws : List (Nat × ByteArray)}
/-- Behind the write's own row. -/
theorem mid_disk (D : DiskAt w base d s v N sec ws) (T1 : Touch w w1 v.ownBlock.toList) (n : Nat) (hn : n < N) (few : ws.length < 4096) (g : Nat) (hg : v'.ownBlock = some g) (hown : w1.ownsRow base 85 1025 v' (ws.length + 1) (wcells ws ++ .int .i64 n :: strCells (sec n)))
    (hat : v.ownBlock = some g ∨ w.heap.size ≤ g) : DiskAt (w1.setCell ⟨d, 1, none⟩ v') base d s v' N sec (ws ++ [(n, sec n)]) ∧ Touch w (w1.setCell ⟨d, 1, none⟩ v') (drow d s v) := by
  have hd := D.dlt
  have hs := D.slt
  have hdv : d ∉ v.ownBlock.toList := fun hm => D.vd (by simpa using hm)
  have hsv : s ∉ v.ownBlock.toList := fun hm => D.vs (by simpa using hm)
  have T2 := Touch.set w1 ⟨d, 1, none⟩ v'
  have hgd : g ≠ d := fun e => by subst e; rcases hat with h | h; exact D.vd h; omega
  have hgs : g ≠ s := fun e => by subst e; rcases hat with h | h; exact D.vs h; omega
  have hds := D.ds
  refine ⟨{ D with
    c0 := D.c0.elim fun c h0 => ⟨c, by rw [World.cell?_setCell_other _ _ _ _ (by simp)]; exact T1.cell h0 hdv⟩
    c1 := World.cell?_setCell_same _ _ _ (T1.cell D.c1 hdv)
    f1 := by rw [World.frozen?_setCell, T1.frozen D.c1 hdv]; exact D.f1
    secs := fun i hi => T2.range (T1.range (D.secs i hi) hsv) (by simpa using hds.symm)
    there := fun i hi => T2.there (T1.there (D.there i hi) hsv) (by simpa using hds.symm)
    wlen := fun p hp => by
      rcases List.mem_append.1 hp with hp | hp
      · exact D.wlen p hp
      · obtain rfl : p = (n, sec n) := by simpa using hp
        exact D.slen n hn
    win := fun p hp => by
      rcases List.mem_append.1 hp with hp | hp
      · exact D.win p hp
      · obtain rfl : p = (n, sec n) := by simpa using hp
        exact hn
    writes := by
      rw [wcells_append, List.length_append]
      have := T2.owns hown (fun g' hg' => by rw [hg] at hg'; cases hg'; simpa using hgd)
      simpa [wcells] using this
    few := by rw [List.length_append]; simp; omega
    vd := by rw [hg]; simpa using hgd
    vs := by rw [hg]; simpa using hgs }, ?_⟩
  refine (T1.mono (fun g hg => ?_)).trans T2 (fun g hg _ => ?_)
  · simp [drow]; right; right; simpa using hg
  · simp [drow]; left; simpa using hg
/-- Behind the sector's bytes. -/
theorem store_disk (D : DiskAt w base d s v N sec ws) (n : Nat) (hn : n < N) (b : ByteArray) (hb : b.size = 1024) : DiskAt (w.setCells s (n * 1024) (strCells b)) base d s v N (upd sec n b) ws := by
  have T := Touch.setCells s (strCells b) (n * 1024) w
  have hds := D.ds
  have hl : (strCells b).length = 1024 := by rw [strCells_length, hb]
  exact { D with
    c0 := D.c0.elim fun c h0 => ⟨c, T.cell h0 (by simpa using hds)⟩
    c1 := T.cell D.c1 (by simpa using hds)
    f1 := by rw [T.frozen D.c1 (by simpa using hds)]; exact D.f1
    secs := fun i hi => by
      unfold upd
      by_cases e : i = n
      · subst e
        rw [if_pos rfl]
        exact World.rangeAt_setCells_same _ _ _ _ (by rw [hl]; exact D.there i hi)
      · rw [if_neg e]
        have hli : (strCells (sec i)).length = 1024 := by rw [strCells_length, D.slen i hi]
        refine World.rangeAt_setCells_apart (D.secs i hi) _ _ _ (.inr ?_)
        rw [hli, hl]
        rcases Nat.lt_or_ge i n with h | h
        · left; have : (i + 1) * 1024 ≤ n * 1024 := Nat.mul_le_mul_right _ h; omega
        · right; have : (n + 1) * 1024 ≤ i * 1024 := Nat.mul_le_mul_right _ (by omega); omega
    there := fun i hi => World.there_setCells (D.there i hi) _ _ _
    slen := fun i hi => by
      unfold upd
      split
      · exact hb
      · exact D.slen i hi
    writes := T.owns D.writes (fun g hg => by simp; intro e; subst e; exact D.vs hg) }
end
end Go.Proofs.Ytmamocdkmmkkjaa
