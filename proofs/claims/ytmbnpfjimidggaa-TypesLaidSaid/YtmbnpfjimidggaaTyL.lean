/- The first eight types. -/
import Derived.Test.YtmbnpfjimidggaaTyK
import Derived.Deep.RegionHeld3
namespace Go.Proofs.Ytmbnpfjimidggaa
open Go Go.RowKit Go.Lib Go.Proofs.Ytmbnpfjimidggaa.Ty
set_option linter.unusedVariables false
set_option linter.unusedSimpArgs false
attribute [local go_sem ↓] exec_load_type exec_store_type exec_load_field exec_store_field
attribute [local go_sem] tcells fcells
theorem tke {P : Program} {md : Region.Mode} {ops : Array Oper} {Q : Exit → Act → World → Prop} {S : World → Prop} (i : Nat) {oi : Oper} {v : Value} {fuel : Nat} {listed : Array Bool} {a : Act} {w : World}
    (hy : ∀ w, S w → (execOp a.eval oi).run P w = .ok (.value v) w) (hS : S w)
    (h : wpAnyH P md ops Q S fuel (listed.setIfInBounds i true) (a.put oi.dst v) w)
    (hi : ops[i]? = some oi := by rfl) (hs : Region.noSelect ops = true := by kernel_rfl) (hf : Region.free md ops listed i = true := by kernel_rfl) (hr : (Region.ready md ops listed).contains i = true := by kernel_rfl)
    (hQ : ∀ c a w, Q (.panic c) (a.put oi.dst v) w → Q (.panic c) a w := by exact fun _ _ _ h => h) (hg : Region.wanted oi (yielded ops a.tmps) = true := by first | kernel_rfl | rfl) : wpAnyH P md ops Q S (fuel + 1) listed a w :=
  wpAnyH_take hi hs hf hr hQ (.inl ⟨hg, hy⟩) hS h
theorem info_type : (Try.prog.info? 27).map (fun i => (i.zero, i.size, i.bytes)) = some (some (.agg zType), 7, 72) := by kernel_rfl
/-- Types, each with its fields' list, as they lie behind one another. -/
def flatT (l : List (Typ × Value)) : List Value := l.flatMap fun p => (tcells p.1 p.2).toList
theorem flatT_length (l : List (Typ × Value)) : (flatT l).length = l.length * 7 := by
  induction l with
  | nil => rfl
  | cons f l ih => unfold flatT at ih ⊢; rw [List.flatMap_cons, List.length_append, ih]; simp; omega
theorem flatT_get : ∀ (l : List (Typ × Value)) (k : Nat) (p : Typ × Value), l[k]? = some p → ∀ (j : Nat) (u : Value), (tcells p.1 p.2).toList[j]? = some u → (flatT l)[k * 7 + j]? = some u
  | [], k, f, h, _, _, _ => by simp at h
  | g :: l, 0, f, h, j, u, hu => by
    simp only [List.getElem?_cons_zero, Option.some.injEq] at h; subst h
    have hj : j < (tcells g.1 g.2).toList.length := (List.getElem?_eq_some_iff.1 hu).1
    unfold flatT
    rw [List.flatMap_cons, Nat.zero_mul, Nat.zero_add, List.getElem?_append_left hj]; exact hu
  | g :: l, k + 1, f, h, j, u, hu => by
    simp only [List.getElem?_cons_succ] at h
    unfold flatT
    rw [List.flatMap_cons, List.getElem?_append_right (by simp; omega), show (k + 1) * 7 + j - (tcells g.1 g.2).toList.length = k * 7 + j from by simp; omega]
    exact flatT_get l k f h j u hu
theorem flatT_snoc (l : List (Typ × Value)) (p : Typ × Value) : flatT (l ++ [p]) = flatT l ++ (tcells p.1 p.2).toList := by unfold flatT; simp
/-- A row of the call's own reads as types. -/
theorem own_tys {wr : World} {B : Nat} {rv : Value} {l : List (Typ × Value)} (h : wr.ownsRow B 27 7 rv l.length (flatT l)) (hok : ∀ p ∈ l, TOk p.1 ∧ FldsAt wr p.2 p.1.fields) :
    ∃ A cap, rv = .slice A l.length cap ∧ TysAt wr A cap (l.map Prod.fst) := by
  rcases h.2 with ⟨rfl, h1⟩ | ⟨g, cp, cur, rfl, h1, h2, h3, h4, h5, h6⟩
  · have : l = [] := List.length_eq_zero_iff.1 h1
    subst this
    exact ⟨none, 0, rfl, ⟨Nat.le_refl _, Nat.zero_le _, (fun t ht => by cases ht), fun k t ht => by cases ht⟩⟩
  · refine ⟨_, cp, rfl, ⟨by rw [List.length_map]; exact h3, h4, fun t ht => ?_, fun k t ht => ?_⟩⟩
    · obtain ⟨p, hp, rfl⟩ := List.mem_map.1 ht; exact (hok p hp).1
    · rw [List.getElem?_map, Option.map_eq_some_iff] at ht
      obtain ⟨p, hp, rfl⟩ := ht
      refine ⟨g, 0, p.2, rfl, (Array.getElem?_eq_some_iff.1 h2).1, fun j u hu => ?_, (hok p (List.mem_of_getElem? hp)).2⟩
      rw [cell_of_row wr g _ cur 27 (0, 0) h2]
      have := flatT_get l k p hp j u hu
      rw [← h6] at this
      rw [List.getElem?_take] at this
      split at this
      · simpa using this
      · cases this
def basicP (k : Nat) : List (Typ × Value) := (List.range k).map fun i => (basicT i, .slice none 0 0)
theorem basicP_length (k : Nat) : (basicP k).length = k := by unfold basicP; simp
theorem basicP_succ (k : Nat) : basicP (k + 1) = basicP k ++ [(basicT k, .slice none 0 0)] := by unfold basicP; rw [List.range_succ, List.map_append]; rfl
theorem basicP_fst : (basicP 8).map Prod.fst = basicL := by unfold basicP basicL; rw [List.map_map]; rfl
/-- The first eight types lie behind one another. -/
def BasicPost (w : World) (e : Ending) (w' : World) : Prop := ∃ A cap, e = .returned (.slice A 8 cap) ∧ TysAt w' A cap basicL ∧ Below w.heap.size w w'
section
variable {w : World}
set_option maxHeartbeats 4000000 in
theorem basic_any : Calls Try.prog 11 #[] w (BasicPost w) := by
  obtain ⟨i0, hi, hz0, hz1, hz2⟩ := info_parts info_type
  have HI := Lib.hid hi
  have HZ0 := Lib.hid hz0
  have HZ1 := Lib.hid hz1
  have HZ2 := Lib.hid hz2
  clear hi hz0 hz1 hz2
  go_enter Try.func11, Try.ntmps11
  go_wp2_with fail
  have hb0 := Lib.hid (Blk.new w #[.int .i64 0, .int .i64 4, .int .i64 1, .int .i64 1, .int .i64 1, .int .i64 4, .int .i64 4, .int .i64 0] 3)
  have hB0 := Lib.hid ((Below.refl w.heap.size w).alloc (Nat.le_refl _) (.cells #[.int .i64 0, .int .i64 4, .int .i64 1, .int .i64 1, .int .i64 1, .int .i64 4, .int .i64 4, .int .i64 0] 3))
  go_loopw [1, 6] (fun v i wr => ∃ k : Nat, k ≤ 8 ∧ i = .int .i64 k ∧ Hid (wr.ownsRow (w.heap.size + 1) 27 7 v (basicP k).length (flatT (basicP k))) ∧ Hid (Blk wr w.heap.size #[.int .i64 0, .int .i64 4, .int .i64 1, .int .i64 1, .int .i64 1, .int .i64 4, .int .i64 4, .int .i64 0] 3) ∧ Hid (Below w.heap.size w wr)) (fun _ i _ => 8 - (intOf i).toNat)
  case atStart => exact ⟨0, by omega, rfl, World.ownsRow_nil _ _ _ _, hb0, hB0⟩
  case round =>
    obtain ⟨k, hk, rfl, OWN, KB, HB⟩ := hrel
    clear hb0 hB0
    by_cases hlt : k < 8
    · have hc : wr.cell? ⟨w.heap.size, k, none⟩ = some (.int .i64 (basicSz.getD k 0)) := by
        rw [KB.out.cell k]
        match k, hlt with
        | 0, _ => rfl
        | 1, _ => rfl
        | 2, _ => rfl
        | 3, _ => rfl
        | 4, _ => rfl
        | 5, _ => rfl
        | 6, _ => rfl
        | 7, _ => rfl
      obtain ⟨z, hz⟩ : ∃ z, basicSz.getD k 0 = z := ⟨_, rfl⟩
      rw [hz] at hc
      have HZE := Lib.hid hz
      clear hz
      have hlt2 : (k : Int) < 8 := by omega
      go_wp2_with (at_builtin; refine wpList_append_own _ rfl _ _ 22 rfl (w.heap.size + 1) 27 i0 (.agg zType) 7 72 Try.underlying22 HI.out HZ0.out HZ1.out HZ2.out rfl (by decide) _ _ _ rfl (OWN.out.alloc _) ⟨wr.heap.size, 0, none⟩ 1 1 (tcells ⟨k, 0, 0, 0, [], z, 0⟩ (.slice none 0 0)).toList rfl rfl ?c1 ?c2 ?c3 ?c4 ?c5 ?_)
      case c2 => exact ⟨rfl, rfl, rfl, rfl, rfl⟩
      case c3 => rw [basicP_length]; unfold maxLen; omega
      case c4 => rw [basicP_length]; omega
      case c5 => have := KB.out.lt; simp; omega
      intro v' w8 hown8 hgrow8 _
      have hno : w.heap.size ∉ u1.ownBlock.toList := fun hm => by
        simp only [Option.mem_toList, Option.mem_def] at hm
        have := own_lt OWN.out _ hm
        omega
      have T8 := ((Touch.of_below ((Below.refl _ wr).alloc (Nat.le_refl _) _) u1.ownBlock.toList).trans (Touch.of_grown hgrow8) (fun g hg _ => hg))
      have KB8 := Lib.hid (T8.blk KB.out hno)
      have HB8 := Lib.hid (HB.out.trans (T8.below HB.out.size (fun g hg => by
        simp only [Option.mem_toList, Option.mem_def] at hg
        have := own_lt OWN.out _ hg
        omega)))
      have OWN8 := Lib.hid (show w8.ownsRow (w.heap.size + 1) 27 7 v' (basicP (k + 1)).length (flatT (basicP (k + 1))) by
        rw [basicP_succ, List.length_append, flatT_snoc]
        unfold basicT
        rw [HZE.out]
        exact hown8)
      clear hown8 hgrow8 T8 hno OWN KB HB HZE
      go_wp2_with fail
      go_roundw
      case rel => exact ⟨k + 1, by omega, by go_num, OWN8, KB8, HB8⟩
      case measure => simp [intOf]; omega
    · obtain rfl : k = 8 := by omega
      have hT := own_tys OWN.out (fun p hp => by
        unfold basicP at hp
        obtain ⟨i, hi, rfl⟩ := List.mem_map.1 hp
        have hi := List.mem_range.1 hi
        refine ⟨?_, FldsAt.none_ _⟩
        match i, hi with
        | 0, _ => exact ⟨rfl, rfl, rfl, rfl, rfl, rfl⟩
        | 1, _ => exact ⟨rfl, rfl, rfl, rfl, rfl, rfl⟩
        | 2, _ => exact ⟨rfl, rfl, rfl, rfl, rfl, rfl⟩
        | 3, _ => exact ⟨rfl, rfl, rfl, rfl, rfl, rfl⟩
        | 4, _ => exact ⟨rfl, rfl, rfl, rfl, rfl, rfl⟩
        | 5, _ => exact ⟨rfl, rfl, rfl, rfl, rfl, rfl⟩
        | 6, _ => exact ⟨rfl, rfl, rfl, rfl, rfl, rfl⟩
        | 7, _ => exact ⟨rfl, rfl, rfl, rfl, rfl, rfl⟩)
      obtain ⟨A, cp, rfl, hTT⟩ := hT
      rw [basicP_length, basicP_fst] at *
      have HT := Lib.hid hTT
      clear hTT
      go_wp2_with fail
      go_ret
      exact ⟨A, cp, rfl, HT.out, HB.out⟩
end
end Go.Proofs.Ytmbnpfjimidggaa
