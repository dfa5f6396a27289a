/- What is fed is appended behind input that waits, at whatever place its head is. -/
import Derived.Test.YtmamocdkmmkkjaaBusB
import Derived.Lib.AppendStr
namespace Go.Proofs.Ytmamocdkmmkkjaa
open Go Go.RowKit Go.Lib Go.Proofs.Ytmamocdkmmkkjaa.Pl
set_option linter.unusedVariables false
section
variable {P : Program} {w : World}
theorem run_append_room_off (t u ty e : TypeId) (i : TypeInfo) (ht : P.underlying t = some (.slice e)) (hu : P.underlying u = some .string) (hi : P.info? e = some i) (hs1 : i.size = 1)
    (g off sLen sCap : Nat) (cur : Array Value) (hg : w.heap[g]? = some (.cells cur e (0, 0))) (s : ByteArray)
    (hroom : sLen + s.size ≤ sCap) (hfit : off + sLen + s.size ≤ cur.size) :
    (Builtin.append_ #[t, u] ty #[.slice (some ⟨g, off, none⟩) sLen sCap, .string s]).run P w =
      .ok (.slice (some ⟨g, off, none⟩) (sLen + s.size) sCap) (w.setRow g (cur.toList.take (off + sLen) ++ strCells s ++ cur.toList.drop (off + sLen + s.size)).toArray) := by
  have hf := run_firstCells_string (P := P) w 1 s
  have hst := run_storeCells_at P g (off + sLen) e (strCells s) 0 cur w hg (by simpa [strCells_length] using hfit) (strCells_oneCell s)
  simp only [Nat.add_zero, strCells_length] at hst
  have hadd : (⟨g, off, none⟩ : Addr).add sLen = ⟨g, off + sLen, none⟩ := by unfold Addr.add; split <;> simp_all
  simp [Builtin.append_, run_underlying ht, run_underlying hu, sizeOf, typeInfo, hi, hs1, Builtin.lenOf, hroom, hf, hadd, hst]
theorem run_append_in (base : Nat) (t u ty : TypeId) (i : TypeInfo) (ht : P.underlying t = some (.slice 5)) (hu : P.underlying u = some .string) (hi : P.info? 5 = some i) (hz : i.zero = some (.int .u8 0))
    (hsize : i.size = 1) (hby : i.bytes = 1) (v : Value) (q : List UInt8) (h : InAt w base v q) (s : ByteArray) (hle : q.length + s.size ≤ 140737488351232) (hbase : base ≤ w.heap.size) :
    ∃ v' w', (Builtin.append_ #[t, u] ty #[v, .string s]).run P w = .ok v' w' ∧ InAt w' base v' (q ++ s.data.toList) ∧ w.grownBy w' v.ownBlock ∧ (∀ g, v'.ownBlock = some g → v.ownBlock = some g ∨ w.heap.size ≤ g) := by
  have hsl : s.data.toList.length = s.size := by rw [Array.length_toList]; rfl
  rcases h with ⟨rfl, rfl⟩ | ⟨g, off, cap, cur, rfl, hb, hh, h1, h2, h3, h4⟩
  · obtain ⟨v', w', k1, k2, k3, k4⟩ := run_append_own_string (P := P) w w.heap.size t u ty 5 i ht hu hi hz hsize hby (.slice none 0 0) 0 [] (World.ownsRow_nil w w.heap.size 5 1) s (by rw [List.length_nil, Nat.zero_add] at hle; unfold maxLen; omega) (by rw [List.length_nil, Nat.zero_add] at hle; omega) (Nat.le_refl _)
    refine ⟨v', w', k1, ?_, k3, fun g hg => ?_⟩
    · rcases k2.2 with ⟨e1, e2⟩ | ⟨g, cap, cur, e1, e2, e3, e4, e5, e6, e7⟩
      · have : s.size = 0 := (k4.1 e1).2
        exact .inl ⟨e1, by rw [List.nil_append]; exact List.eq_nil_of_length_eq_zero (by rw [hsl]; exact this)⟩
      · refine .inr ⟨g, 0, cap, cur, by rw [e1]; simp [hsl], Nat.le_trans hbase e2, e3, by simp [hsl]; omega, e5, by omega, fun j hj => ?_⟩
        simp only [List.nil_append, Nat.zero_add, Nat.mul_one] at e7 hj ⊢
        rw [bcells_str, ← e7]
        simp only [List.getElem?_take, Array.getElem?_toList]
        rw [if_pos (by omega)]
    · exact .inr (k2.lt g hg).1
  · by_cases hroom : q.length + s.size ≤ cap
    · have hr := run_append_room_off (P := P) t u ty 5 i ht hu hi hsize g off q.length cap cur hh s hroom (by omega)
      refine ⟨_, _, hr, .inr ⟨g, off, cap, _, by simp [hsl], hb, setRow_heap w g cur _ _ _ hh, by simp [hsl]; omega, h2, ?_, fun j hj => ?_⟩, ⟨rfl, rfl, rfl, by simp, fun k _ hk => setRow_other w g k _ (fun e => hk (by simp [Value.ownBlock, e]))⟩, fun g' hg' => .inl (by simpa [Value.ownBlock] using hg')⟩
      · simp only [List.size_toArray, List.length_append, List.length_take, List.length_drop, Array.length_toList, strCells_length]
        omega
      · simp only [List.length_append, hsl] at hj
        rw [bcells_append, bcells_str, List.getElem?_toArray, List.append_assoc]
        by_cases hjq : j < q.length
        · rw [List.getElem?_append_left (by simp; omega), List.getElem?_append_left (by rw [bcells_length]; exact hjq), ← h4 j hjq, List.getElem?_take, if_pos (by omega), Array.getElem?_toList]
        · have e1 : (bcells q ++ strCells s)[j]? = (strCells s)[j - q.length]? := by rw [List.getElem?_append_right (by rw [bcells_length]; omega), bcells_length]
          have e2 : (List.take (off + q.length) cur.toList).length = off + q.length := by rw [List.length_take, show cur.toList.length = cur.size from Array.length_toList]; omega
          have e3 : off + j - (off + q.length) = j - q.length := by omega
          have e4 : j - q.length < (strCells s).length := by rw [strCells_length]; omega
          rw [e1, List.getElem?_append_right (by rw [e2]; omega), e2, e3, List.getElem?_append_left e4]
    · have hlo : (bcells q).length = q.length * i.size := by rw [bcells_length, hsize, Nat.mul_one]
      have hadd : ∀ j, (⟨g, off, none⟩ : Addr).add j = ⟨g, off + j, none⟩ := fun j => by unfold Addr.add; split <;> simp_all
      have holds : ∀ j u, (bcells q)[j]? = some u → w.cell? ((⟨g, off, none⟩ : Addr).add j) = some u := fun j u hj => by
        have hl : j < q.length := by have := (List.getElem?_eq_some_iff.1 hj).1; rwa [bcells_length] at this
        rw [hadd, cell_of_row w g _ cur _ (0, 0) hh, h4 j hl]; exact hj
      have hr := run_append_grow_string (P := P) w t u ty 5 i (.int .u8 0) ht hu hi hz ⟨g, off, none⟩ q.length cap (bcells q) hlo holds s (by omega) (by omega) (by rw [hby]; exact growslice_fits (by omega) (by omega))
      have hge := grownCap_ge w (q.length + s.size) cap 5
      have hcm : grownCap w (q.length + s.size) cap 5 ≤ maxLen := grownCap_le_maxLen w (q.length + s.size) cap 5 (by unfold maxLen; omega)
      refine ⟨_, _, hr, .inr ⟨w.heap.size, 0, _, _, by simp [hsl], hbase, heap_alloc_new w.drew _, by simp [hsl]; exact hge, hcm, ?_, fun j hj => ?_⟩, ⟨rfl, rfl, rfl, by simp, fun k hk _ => Below.heap_alloc w.drew _ k hk⟩, fun g' hg' => .inr (by have h9 : w.heap.size = g' := (by simpa [Value.ownBlock] using hg'); omega)⟩
      · have hz1 : (Value.int IntKind.u8 0).cells.size = 1 := rfl
        simp only [Array.size_append, List.size_toArray, size_zeroCells, hz1, bcells_length, strCells_length]
        omega
      · simp only [List.length_append, hsl] at hj
        rw [bcells_append, bcells_str, Nat.zero_add, Array.getElem?_append_left (by simp [bcells_length, strCells_length]; omega)]
        simp
end
end Go.Proofs.Ytmamocdkmmkkjaa
