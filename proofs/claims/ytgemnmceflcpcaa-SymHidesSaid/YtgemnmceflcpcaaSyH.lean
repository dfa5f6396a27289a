/- May a variable be. -/
import Derived.Test.YtgemnmceflcpcaaQC
import Derived.Deep.CutBlock
import Derived.Deep.RegionHeld3
import Derived.RegionTactic
namespace Go.Proofs.Ytgemnmceflcpcaa
open Go Go.RowKit Go.Lib Go.Proofs.Ytgemnmceflcpcaa.Sy
set_option linter.unusedVariables false
set_option linter.unusedSimpArgs false
attribute [local go_sem ↓] exec_load_const exec_store_const exec_load_var exec_store_var exec_load_proc exec_store_proc
attribute [local go_sem] ccells vcells pcells
theorem tke {P : Program} {md : Region.Mode} {ops : Array Oper} {Q : Exit → Act → World → Prop} {S : World → Prop} (i : Nat) {oi : Oper} {v : Value} {fuel : Nat} {listed : Array Bool} {a : Act} {w : World}
    (hy : ∀ w, S w → (execOp a.eval oi).run P w = .ok (.value v) w) (hS : S w)
    (h : wpAnyH P md ops Q S fuel (listed.setIfInBounds i true) (a.put oi.dst v) w)
    (hi : ops[i]? = some oi := by rfl) (hs : Region.noSelect ops = true := by kernel_rfl) (hf : Region.free md ops listed i = true := by kernel_rfl) (hr : (Region.ready md ops listed).contains i = true := by kernel_rfl)
    (hQ : ∀ c a w, Q (.panic c) (a.put oi.dst v) w → Q (.panic c) a w := by exact fun _ _ _ h => h) (hg : Region.wanted oi (yielded ops a.tmps) = true := by first | kernel_rfl | rfl) : wpAnyH P md ops Q S (fuel + 1) listed a w :=
  wpAnyH_take hi hs hf hr hQ (.inl ⟨hg, hy⟩) hS h
/-- An operation whose guard fails. -/
theorem tku {P : Program} {md : Region.Mode} {ops : Array Oper} {Q : Exit → Act → World → Prop} {S : World → Prop} (i : Nat) {oi : Oper} {fuel : Nat} {listed : Array Bool} {a : Act} {w : World}
    (hS : S w)
    (h : wpAnyH P md ops Q S fuel (listed.setIfInBounds i true) (a.put oi.dst undef) w)
    (hi : ops[i]? = some oi := by rfl) (hs : Region.noSelect ops = true := by kernel_rfl) (hf : Region.free md ops listed i = true := by kernel_rfl) (hr : (Region.ready md ops listed).contains i = true := by kernel_rfl)
    (hQ : ∀ c a w, Q (.panic c) (a.put oi.dst undef) w → Q (.panic c) a w := by exact fun _ _ _ h => h) (hg : Region.wanted oi (yielded ops a.tmps) = false := by first | kernel_rfl | rfl) : wpAnyH P md ops Q S (fuel + 1) listed a w :=
  wpAnyH_take hi hs hf hr hQ (.inr ⟨hg, rfl⟩) hS h
section
variable {w : World}
set_option maxHeartbeats 4000000 in
set_option maxRecDepth 100000 in
theorem variable_any (v : Vr) {k : Bool} (hf : VFit v) (hc : IsB k (vrOk v)) : Calls Try.prog 26 #[.agg (vcells v)] w fun e w' => e = .returned (.bool k) ∧ Below w.heap.size w w' := by
  have HC := Lib.hid hc
  have HF := Lib.hid hf
  clear hc hf
  obtain ⟨nm, fm, ln, op, rf⟩ := v
  by_cases p1 : plainF fm
  · obtain ⟨n, rfl⟩ : ∃ n : Nat, fm = n := ⟨fm.toNat, by have := p1.1; omega⟩
    have h1 : 1 ≤ n := by have := p1.1; omega
    have h5 : n ≤ 5 := by have := p1.2; omega
    have HQ := Lib.hid (show IsB true (plainF (n : Int)) from ⟨fun _ => p1, fun _ => rfl⟩)
    have HB0 := Lib.hid ((Below.refl w.heap.size w).alloc (Nat.le_refl _) (.cells (vcells ⟨nm, (n : Int), ln, op, rf⟩) 73))
    have KX := Lib.hid (Blk.new w (vcells ⟨nm, (n : Int), ln, op, rf⟩) 73)
    obtain ⟨q, hz⟩ : ∃ q : Int, Hid ((szF (n : Int) = 4 ∧ q = 4096) ∨ (szF (n : Int) = 1 ∧ q = 16384)) := by
      unfold szF
      split
      · exact ⟨4096, Lib.hid (.inl ⟨rfl, rfl⟩)⟩
      · exact ⟨16384, Lib.hid (.inr ⟨rfl, rfl⟩)⟩
    have hle : ln * szF (n : Int) ≤ 16384 ↔ ln ≤ q := by
      rcases hz.out with ⟨z, rfl⟩ | ⟨z, rfl⟩ <;> rw [z] <;> omega
    have hok : vrOk ⟨nm, (n : Int), ln, op, rf⟩ ↔ (0 ≤ ln ∧ ln ≤ q ∧ op = false ∧ rf = false) := by
      unfold vrOk
      simp only [hle]
      exact ⟨fun h => h.2, fun h => ⟨p1, h⟩⟩
    have HO := Lib.hid hok
    clear hok hle
    go_enter Try.func26, Try.ntmps26
    go_upto_region 1 with fail
    rename_i K0 Q0 hK0
    generalize w.alloc (.cells (vcells ⟨nm, (n : Int), ln, op, rf⟩) 73) = W1 at KX HB0 ⊢
    by_cases p2 : ln < 0
    · obtain rfl := HC.out.no (fun g => by have := HO.out.1 g; omega)
      clear p1
      refine wp_region_held_drew (S := (fun w' => Hid (Blk w' w.heap.size (vcells ⟨nm, (n : Int), ln, op, rf⟩) 73) ∧ Hid (Below w.heap.size w w'))) (by kernel_rfl) ⟨KX, Lib.hid HB0.out.drew⟩ (fun hHeld0 => ?_)
      clear hHeld0
      have KTd : Hid (Blk W1.drew w.heap.size (vcells ⟨nm, (n : Int), ln, op, rf⟩) 73) := KX
      have HBd : Hid (Below w.heap.size w W1.drew) := Lib.hid HB0.out.drew
      generalize W1.drew = wd at KTd HBd ⊢
      have hHeld : (fun w' => Hid (Blk w' w.heap.size (vcells ⟨nm, (n : Int), ln, op, rf⟩) 73) ∧ Hid (Below w.heap.size w w')) wd := ⟨KTd, HBd⟩
      refine tke 0 (v := ?v0b) ?hy0b hHeld ?rest0b
      case hy0b => rintro wq ⟨qT, qB⟩; clear qT qB; simp only [List.getElem_toArray, List.getElem_cons_zero, List.getElem_cons_succ]; go_simp; try with_reducible rfl
      refine tke 1 (v := ?v1b) ?hy1b hHeld ?rest1b
      case hy1b => rintro wq ⟨qT, qB⟩; have l1 := qT.out.cell 1; clear qT qB; simp only [List.getElem_toArray, List.getElem_cons_zero, List.getElem_cons_succ]; go_simp; try with_reducible rfl
      refine wpAnyH_ready (rs := [2]) (by kernel_rfl) (by simp) ?_
      refine AllReadyH.cons (o := _) rfl (fun K hK => ?_) AllReadyH.nil
      try simp only [List.getElem_toArray, List.getElem_cons_zero, List.getElem_cons_succ]
      go_simp
      go_at_call 56
      refine (plain_any (n : Int) HQ.out).mono ?_
      rintro e w5 ⟨rfl, rfl⟩
      refine hK.out _ _ hHeld (fun _ => ?_)
      clear hK
      try simp only [List.getElem_toArray, List.getElem_cons_zero, List.getElem_cons_succ]
      refine tke 3 (v := ?v3b) ?hy3b hHeld ?rest3b
      case hy3b => rintro wq ⟨qT, qB⟩; clear qT qB; simp only [List.getElem_toArray, List.getElem_cons_zero, List.getElem_cons_succ]; go_simp; try with_reducible rfl
      refine tke 4 (v := ?v4b) ?hy4b hHeld ?rest4b
      case hy4b => rintro wq ⟨qT, qB⟩; clear qT qB; simp only [List.getElem_toArray, List.getElem_cons_zero, List.getElem_cons_succ]; go_simp; try with_reducible rfl
      refine tke 5 (v := ?v5b) ?hy5b hHeld ?rest5b
      case hy5b => rintro wq ⟨qT, qB⟩; have l1 := qT.out.cell 2; clear qT qB; simp only [List.getElem_toArray, List.getElem_cons_zero, List.getElem_cons_succ]; go_simp; try with_reducible rfl
      refine tke 6 (v := .bool false) ?hy6b hHeld ?rest6b
      case hy6b => rintro wq ⟨qT, qB⟩; clear qT qB; simp only [List.getElem_toArray, List.getElem_cons_zero, List.getElem_cons_succ]; go_simp; all_goals (try simp); all_goals (try omega)
      refine tke 7 (v := ?v7b) ?hy7b hHeld ?rest7b
      case hy7b => rintro wq ⟨qT, qB⟩; clear qT qB; simp only [List.getElem_toArray, List.getElem_cons_zero, List.getElem_cons_succ]; go_simp; try with_reducible rfl
      refine tke 8 (v := ?v8b) ?hy8b hHeld ?rest8b
      case hy8b => rintro wq ⟨qT, qB⟩; clear qT qB; simp only [List.getElem_toArray, List.getElem_cons_zero, List.getElem_cons_succ]; go_simp; try with_reducible rfl
      refine tku 9 hHeld ?_
      refine tku 10 hHeld ?_
      refine tku 11 hHeld ?_
      refine tku 12 hHeld ?_
      refine tku 13 hHeld ?_
      refine tku 14 hHeld ?_
      refine tku 15 hHeld ?_
      refine tke 16 (v := ?v16b) ?hy16b hHeld ?rest16b
      case hy16b => rintro wq ⟨qT, qB⟩; clear qT qB; simp only [List.getElem_toArray, List.getElem_cons_zero, List.getElem_cons_succ]; go_simp; try with_reducible rfl
      refine tke 17 (v := ?v17b) ?hy17b hHeld ?rest17b
      case hy17b => rintro wq ⟨qT, qB⟩; clear qT qB; simp only [List.getElem_toArray, List.getElem_cons_zero, List.getElem_cons_succ]; go_simp; try with_reducible rfl
      refine tku 18 hHeld ?_
      refine tku 19 hHeld ?_
      refine tku 20 hHeld ?_
      refine tke 21 (v := ?v21b) ?hy21b hHeld ?rest21b
      case hy21b => rintro wq ⟨qT, qB⟩; clear qT qB; simp only [List.getElem_toArray, List.getElem_cons_zero, List.getElem_cons_succ]; go_simp; try with_reducible rfl
      refine tke 22 (v := ?v22b) ?hy22b hHeld ?rest22b
      case hy22b => rintro wq ⟨qT, qB⟩; clear qT qB; simp only [List.getElem_toArray, List.getElem_cons_zero, List.getElem_cons_succ]; go_simp; try with_reducible rfl
      refine tku 23 hHeld ?_
      refine tku 24 hHeld ?_
      refine tku 25 hHeld ?_
      refine tke 26 (v := ?v26b) ?hy26b hHeld ?rest26b
      case hy26b => rintro wq ⟨qT, qB⟩; clear qT qB; simp only [List.getElem_toArray, List.getElem_cons_zero, List.getElem_cons_succ]; go_simp; try with_reducible rfl
      refine tke 27 (v := ?v27b) ?hy27b hHeld ?rest27b
      case hy27b => rintro wq ⟨qT, qB⟩; clear qT qB; simp only [List.getElem_toArray, List.getElem_cons_zero, List.getElem_cons_succ]; go_simp; try with_reducible rfl
      refine wpAnyH_done (by kernel_rfl) ?_ _
      clear hHeld
      refine hK0 _ _ (wp_ret ?_)
      change bodyPost Try.prog _ _ _ _ _
      refine bodyPost_ret (v := .bool false) ((results_tmp (by rfl) _ _ _).trans (by kernel_rfl)) (by kernel_rfl) ?_
      exact ⟨rfl, HBd.out⟩
    by_cases p3 : q < ln
    · obtain rfl := HC.out.no (fun g => by have := HO.out.1 g; omega)
      clear p1
      refine wp_region_held_drew (S := (fun w' => Hid (Blk w' w.heap.size (vcells ⟨nm, (n : Int), ln, op, rf⟩) 73) ∧ Hid (Below w.heap.size w w'))) (by kernel_rfl) ⟨KX, Lib.hid HB0.out.drew⟩ (fun hHeld0 => ?_)
      clear hHeld0
      have KTd : Hid (Blk W1.drew w.heap.size (vcells ⟨nm, (n : Int), ln, op, rf⟩) 73) := KX
      have HBd : Hid (Below w.heap.size w W1.drew) := Lib.hid HB0.out.drew
      generalize W1.drew = wd at KTd HBd ⊢
      have hHeld : (fun w' => Hid (Blk w' w.heap.size (vcells ⟨nm, (n : Int), ln, op, rf⟩) 73) ∧ Hid (Below w.heap.size w w')) wd := ⟨KTd, HBd⟩
      refine tke 0 (v := ?v0c) ?hy0c hHeld ?rest0c
      case hy0c => rintro wq ⟨qT, qB⟩; clear qT qB; simp only [List.getElem_toArray, List.getElem_cons_zero, List.getElem_cons_succ]; go_simp; try with_reducible rfl
      refine tke 1 (v := ?v1c) ?hy1c hHeld ?rest1c
      case hy1c => rintro wq ⟨qT, qB⟩; have l1 := qT.out.cell 1; clear qT qB; simp only [List.getElem_toArray, List.getElem_cons_zero, List.getElem_cons_succ]; go_simp; try with_reducible rfl
      refine wpAnyH_ready (rs := [2]) (by kernel_rfl) (by simp) ?_
      refine AllReadyH.cons (o := _) rfl (fun K hK => ?_) AllReadyH.nil
      try simp only [List.getElem_toArray, List.getElem_cons_zero, List.getElem_cons_succ]
      go_simp
      go_at_call 56
      refine (plain_any (n : Int) HQ.out).mono ?_
      rintro e w5 ⟨rfl, rfl⟩
      refine hK.out _ _ hHeld (fun _ => ?_)
      clear hK
      try simp only [List.getElem_toArray, List.getElem_cons_zero, List.getElem_cons_succ]
      refine tke 3 (v := ?v3c) ?hy3c hHeld ?rest3c
      case hy3c => rintro wq ⟨qT, qB⟩; clear qT qB; simp only [List.getElem_toArray, List.getElem_cons_zero, List.getElem_cons_succ]; go_simp; try with_reducible rfl
      refine tke 4 (v := ?v4c) ?hy4c hHeld ?rest4c
      case hy4c => rintro wq ⟨qT, qB⟩; clear qT qB; simp only [List.getElem_toArray, List.getElem_cons_zero, List.getElem_cons_succ]; go_simp; try with_reducible rfl
      refine tke 5 (v := ?v5c) ?hy5c hHeld ?rest5c
      case hy5c => rintro wq ⟨qT, qB⟩; have l1 := qT.out.cell 2; clear qT qB; simp only [List.getElem_toArray, List.getElem_cons_zero, List.getElem_cons_succ]; go_simp; try with_reducible rfl
      refine tke 6 (v := .bool true) ?hy6c hHeld ?rest6c
      case hy6c => rintro wq ⟨qT, qB⟩; clear qT qB; simp only [List.getElem_toArray, List.getElem_cons_zero, List.getElem_cons_succ]; go_simp; all_goals (try simp); all_goals (try omega)
      refine tke 7 (v := ?v7c) ?hy7c hHeld ?rest7c
      case hy7c => rintro wq ⟨qT, qB⟩; clear qT qB; simp only [List.getElem_toArray, List.getElem_cons_zero, List.getElem_cons_succ]; go_simp; try with_reducible rfl
      refine tke 8 (v := ?v8c) ?hy8c hHeld ?rest8c
      case hy8c => rintro wq ⟨qT, qB⟩; clear qT qB; simp only [List.getElem_toArray, List.getElem_cons_zero, List.getElem_cons_succ]; go_simp; try with_reducible rfl
      refine tke 9 (v := ?v9c) ?hy9c hHeld ?rest9c
      case hy9c => rintro wq ⟨qT, qB⟩; clear qT qB; simp only [List.getElem_toArray, List.getElem_cons_zero, List.getElem_cons_succ]; go_simp; try with_reducible rfl
      refine tke 10 (v := ?v10c) ?hy10c hHeld ?rest10c
      case hy10c => rintro wq ⟨qT, qB⟩; have l1 := qT.out.cell 2; clear qT qB; simp only [List.getElem_toArray, List.getElem_cons_zero, List.getElem_cons_succ]; go_simp; try with_reducible rfl
      refine tke 11 (v := ?v11c) ?hy11c hHeld ?rest11c
      case hy11c => rintro wq ⟨qT, qB⟩; clear qT qB; simp only [List.getElem_toArray, List.getElem_cons_zero, List.getElem_cons_succ]; go_simp; try with_reducible rfl
      refine tke 12 (v := ?v12c) ?hy12c hHeld ?rest12c
      case hy12c => rintro wq ⟨qT, qB⟩; have l1 := qT.out.cell 1; clear qT qB; simp only [List.getElem_toArray, List.getElem_cons_zero, List.getElem_cons_succ]; go_simp; try with_reducible rfl
      refine wpAnyH_ready (rs := [13]) (by kernel_rfl) (by simp) ?_
      refine AllReadyH.cons (o := _) rfl (fun K hK => ?_) AllReadyH.nil
      try simp only [List.getElem_toArray, List.getElem_cons_zero, List.getElem_cons_succ]
      go_simp
      go_at_call 72
      refine (bytes_any n h1 h5).mono ?_
      rintro e w5 ⟨rfl, hb5⟩
      have KT5 := Lib.hid (KTd.out.step hb5)
      have HB5 := Lib.hid (HBd.out.trans (hb5.mono HBd.out.size))
      clear hb5 hHeld
      refine hK.out _ _ ⟨KT5, HB5⟩ (fun _ => ?_)
      clear hK KTd HBd
      have hHeld : (fun w' => Hid (Blk w' w.heap.size (vcells ⟨nm, (n : Int), ln, op, rf⟩) 73) ∧ Hid (Below w.heap.size w w')) w5 := ⟨KT5, HB5⟩
      try simp only [List.getElem_toArray, List.getElem_cons_zero, List.getElem_cons_succ]
      refine tke 14 (v := .int .i64 q) ?hy14c hHeld ?rest14c
      case hy14c => rintro wq ⟨qT, qB⟩; clear qT qB; simp only [List.getElem_toArray, List.getElem_cons_zero, List.getElem_cons_succ]; rcases hz.out with ⟨z1, rfl⟩ | ⟨z1, rfl⟩ <;> (rw [z1]; go_simp; all_goals (try rfl))
      refine tke 15 (v := .bool false) ?hy15c hHeld ?rest15c
      case hy15c => rintro wq ⟨qT, qB⟩; clear qT qB; simp only [List.getElem_toArray, List.getElem_cons_zero, List.getElem_cons_succ]; go_simp; all_goals (try simp); all_goals (try omega)
      refine tke 16 (v := ?v16c) ?hy16c hHeld ?rest16c
      case hy16c => rintro wq ⟨qT, qB⟩; clear qT qB; simp only [List.getElem_toArray, List.getElem_cons_zero, List.getElem_cons_succ]; go_simp; try with_reducible rfl
      refine tke 17 (v := ?v17c) ?hy17c hHeld ?rest17c
      case hy17c => rintro wq ⟨qT, qB⟩; clear qT qB; simp only [List.getElem_toArray, List.getElem_cons_zero, List.getElem_cons_succ]; go_simp; try with_reducible rfl
      refine tku 18 hHeld ?_
      refine tku 19 hHeld ?_
      refine tku 20 hHeld ?_
      refine tke 21 (v := ?v21c) ?hy21c hHeld ?rest21c
      case hy21c => rintro wq ⟨qT, qB⟩; clear qT qB; simp only [List.getElem_toArray, List.getElem_cons_zero, List.getElem_cons_succ]; go_simp; try with_reducible rfl
      refine tke 22 (v := ?v22c) ?hy22c hHeld ?rest22c
      case hy22c => rintro wq ⟨qT, qB⟩; clear qT qB; simp only [List.getElem_toArray, List.getElem_cons_zero, List.getElem_cons_succ]; go_simp; try with_reducible rfl
      refine tku 23 hHeld ?_
      refine tku 24 hHeld ?_
      refine tku 25 hHeld ?_
      refine tke 26 (v := ?v26c) ?hy26c hHeld ?rest26c
      case hy26c => rintro wq ⟨qT, qB⟩; clear qT qB; simp only [List.getElem_toArray, List.getElem_cons_zero, List.getElem_cons_succ]; go_simp; try with_reducible rfl
      refine tke 27 (v := ?v27c) ?hy27c hHeld ?rest27c
      case hy27c => rintro wq ⟨qT, qB⟩; clear qT qB; simp only [List.getElem_toArray, List.getElem_cons_zero, List.getElem_cons_succ]; go_simp; try with_reducible rfl
      refine wpAnyH_done (by kernel_rfl) ?_ _
      clear hHeld
      refine hK0 _ _ (wp_ret ?_)
      change bodyPost Try.prog _ _ _ _ _
      refine bodyPost_ret (v := .bool false) ((results_tmp (by rfl) _ _ _).trans (by kernel_rfl)) (by kernel_rfl) ?_
      exact ⟨rfl, HB5.out⟩
    cases op with
    | true =>
      obtain rfl := HC.out.no (fun g => by have := (HO.out.1 g).2.2.1; cases this)
      clear p1
      refine wp_region_held_drew (S := (fun w' => Hid (Blk w' w.heap.size (vcells ⟨nm, (n : Int), ln, true, rf⟩) 73) ∧ Hid (Below w.heap.size w w'))) (by kernel_rfl) ⟨KX, Lib.hid HB0.out.drew⟩ (fun hHeld0 => ?_)
      clear hHeld0
      have KTd : Hid (Blk W1.drew w.heap.size (vcells ⟨nm, (n : Int), ln, true, rf⟩) 73) := KX
      have HBd : Hid (Below w.heap.size w W1.drew) := Lib.hid HB0.out.drew
      generalize W1.drew = wd at KTd HBd ⊢
      have hHeld : (fun w' => Hid (Blk w' w.heap.size (vcells ⟨nm, (n : Int), ln, true, rf⟩) 73) ∧ Hid (Below w.heap.size w w')) wd := ⟨KTd, HBd⟩
      refine tke 0 (v := ?v0d) ?hy0d hHeld ?rest0d
      case hy0d => rintro wq ⟨qT, qB⟩; clear qT qB; simp only [List.getElem_toArray, List.getElem_cons_zero, List.getElem_cons_succ]; go_simp; try with_reducible rfl
      refine tke 1 (v := ?v1d) ?hy1d hHeld ?rest1d
      case hy1d => rintro wq ⟨qT, qB⟩; have l1 := qT.out.cell 1; clear qT qB; simp only [List.getElem_toArray, List.getElem_cons_zero, List.getElem_cons_succ]; go_simp; try with_reducible rfl
      refine wpAnyH_ready (rs := [2]) (by kernel_rfl) (by simp) ?_
      refine AllReadyH.cons (o := _) rfl (fun K hK => ?_) AllReadyH.nil
      try simp only [List.getElem_toArray, List.getElem_cons_zero, List.getElem_cons_succ]
      go_simp
      go_at_call 56
      refine (plain_any (n : Int) HQ.out).mono ?_
      rintro e w5 ⟨rfl, rfl⟩
      refine hK.out _ _ hHeld (fun _ => ?_)
      clear hK
      try simp only [List.getElem_toArray, List.getElem_cons_zero, List.getElem_cons_succ]
      refine tke 3 (v := ?v3d) ?hy3d hHeld ?rest3d
      case hy3d => rintro wq ⟨qT, qB⟩; clear qT qB; simp only [List.getElem_toArray, List.getElem_cons_zero, List.getElem_cons_succ]; go_simp; try with_reducible rfl
      refine tke 4 (v := ?v4d) ?hy4d hHeld ?rest4d
      case hy4d => rintro wq ⟨qT, qB⟩; clear qT qB; simp only [List.getElem_toArray, List.getElem_cons_zero, List.getElem_cons_succ]; go_simp; try with_reducible rfl
      refine tke 5 (v := ?v5d) ?hy5d hHeld ?rest5d
      case hy5d => rintro wq ⟨qT, qB⟩; have l1 := qT.out.cell 2; clear qT qB; simp only [List.getElem_toArray, List.getElem_cons_zero, List.getElem_cons_succ]; go_simp; try with_reducible rfl
      refine tke 6 (v := .bool true) ?hy6d hHeld ?rest6d
      case hy6d => rintro wq ⟨qT, qB⟩; clear qT qB; simp only [List.getElem_toArray, List.getElem_cons_zero, List.getElem_cons_succ]; go_simp; all_goals (try simp); all_goals (try omega)
      refine tke 7 (v := ?v7d) ?hy7d hHeld ?rest7d
      case hy7d => rintro wq ⟨qT, qB⟩; clear qT qB; simp only [List.getElem_toArray, List.getElem_cons_zero, List.getElem_cons_succ]; go_simp; try with_reducible rfl
      refine tke 8 (v := ?v8d) ?hy8d hHeld ?rest8d
      case hy8d => rintro wq ⟨qT, qB⟩; clear qT qB; simp only [List.getElem_toArray, List.getElem_cons_zero, List.getElem_cons_succ]; go_simp; try with_reducible rfl
      refine tke 9 (v := ?v9d) ?hy9d hHeld ?rest9d
      case hy9d => rintro wq ⟨qT, qB⟩; clear qT qB; simp only [List.getElem_toArray, List.getElem_cons_zero, List.getElem_cons_succ]; go_simp; try with_reducible rfl
      refine tke 10 (v := ?v10d) ?hy10d hHeld ?rest10d
      case hy10d => rintro wq ⟨qT, qB⟩; have l1 := qT.out.cell 2; clear qT qB; simp only [List.getElem_toArray, List.getElem_cons_zero, List.getElem_cons_succ]; go_simp; try with_reducible rfl
      refine tke 11 (v := ?v11d) ?hy11d hHeld ?rest11d
      case hy11d => rintro wq ⟨qT, qB⟩; clear qT qB; simp only [List.getElem_toArray, List.getElem_cons_zero, List.getElem_cons_succ]; go_simp; try with_reducible rfl
      refine tke 12 (v := ?v12d) ?hy12d hHeld ?rest12d
      case hy12d => rintro wq ⟨qT, qB⟩; have l1 := qT.out.cell 1; clear qT qB; simp only [List.getElem_toArray, List.getElem_cons_zero, List.getElem_cons_succ]; go_simp; try with_reducible rfl
      refine wpAnyH_ready (rs := [13]) (by kernel_rfl) (by simp) ?_
      refine AllReadyH.cons (o := _) rfl (fun K hK => ?_) AllReadyH.nil
      try simp only [List.getElem_toArray, List.getElem_cons_zero, List.getElem_cons_succ]
      go_simp
      go_at_call 72
      refine (bytes_any n h1 h5).mono ?_
      rintro e w5 ⟨rfl, hb5⟩
      have KT5 := Lib.hid (KTd.out.step hb5)
      have HB5 := Lib.hid (HBd.out.trans (hb5.mono HBd.out.size))
      clear hb5 hHeld
      refine hK.out _ _ ⟨KT5, HB5⟩ (fun _ => ?_)
      clear hK KTd HBd
      have hHeld : (fun w' => Hid (Blk w' w.heap.size (vcells ⟨nm, (n : Int), ln, true, rf⟩) 73) ∧ Hid (Below w.heap.size w w')) w5 := ⟨KT5, HB5⟩
      try simp only [List.getElem_toArray, List.getElem_cons_zero, List.getElem_cons_succ]
      refine tke 14 (v := .int .i64 q) ?hy14d hHeld ?rest14d
      case hy14d => rintro wq ⟨qT, qB⟩; clear qT qB; simp only [List.getElem_toArray, List.getElem_cons_zero, List.getElem_cons_succ]; rcases hz.out with ⟨z1, rfl⟩ | ⟨z1, rfl⟩ <;> (rw [z1]; go_simp; all_goals (try rfl))
      refine tke 15 (v := .bool true) ?hy15d hHeld ?rest15d
      case hy15d => rintro wq ⟨qT, qB⟩; clear qT qB; simp only [List.getElem_toArray, List.getElem_cons_zero, List.getElem_cons_succ]; go_simp; all_goals (try simp); all_goals (try omega)
      refine tke 16 (v := ?v16d) ?hy16d hHeld ?rest16d
      case hy16d => rintro wq ⟨qT, qB⟩; clear qT qB; simp only [List.getElem_toArray, List.getElem_cons_zero, List.getElem_cons_succ]; go_simp; try with_reducible rfl
      refine tke 17 (v := ?v17d) ?hy17d hHeld ?rest17d
      case hy17d => rintro wq ⟨qT, qB⟩; clear qT qB; simp only [List.getElem_toArray, List.getElem_cons_zero, List.getElem_cons_succ]; go_simp; try with_reducible rfl
      refine tke 18 (v := ?v18d) ?hy18d hHeld ?rest18d
      case hy18d => rintro wq ⟨qT, qB⟩; clear qT qB; simp only [List.getElem_toArray, List.getElem_cons_zero, List.getElem_cons_succ]; go_simp; try with_reducible rfl
      refine tke 19 (v := ?v19d) ?hy19d hHeld ?rest19d
      case hy19d => rintro wq ⟨qT, qB⟩; have l1 := qT.out.cell 3; clear qT qB; simp only [List.getElem_toArray, List.getElem_cons_zero, List.getElem_cons_succ]; go_simp; try with_reducible rfl
      refine tke 20 (v := ?v20d) ?hy20d hHeld ?rest20d
      case hy20d => rintro wq ⟨qT, qB⟩; clear qT qB; simp only [List.getElem_toArray, List.getElem_cons_zero, List.getElem_cons_succ]; go_simp; try with_reducible rfl
      refine tke 21 (v := ?v21d) ?hy21d hHeld ?rest21d
      case hy21d => rintro wq ⟨qT, qB⟩; clear qT qB; simp only [List.getElem_toArray, List.getElem_cons_zero, List.getElem_cons_succ]; go_simp; try with_reducible rfl
      refine tke 22 (v := ?v22d) ?hy22d hHeld ?rest22d
      case hy22d => rintro wq ⟨qT, qB⟩; clear qT qB; simp only [List.getElem_toArray, List.getElem_cons_zero, List.getElem_cons_succ]; go_simp; try with_reducible rfl
      refine tku 23 hHeld ?_
      refine tku 24 hHeld ?_
      refine tku 25 hHeld ?_
      refine tke 26 (v := ?v26d) ?hy26d hHeld ?rest26d
      case hy26d => rintro wq ⟨qT, qB⟩; clear qT qB; simp only [List.getElem_toArray, List.getElem_cons_zero, List.getElem_cons_succ]; go_simp; try with_reducible rfl
      refine tke 27 (v := ?v27d) ?hy27d hHeld ?rest27d
      case hy27d => rintro wq ⟨qT, qB⟩; clear qT qB; simp only [List.getElem_toArray, List.getElem_cons_zero, List.getElem_cons_succ]; go_simp; try with_reducible rfl
      refine wpAnyH_done (by kernel_rfl) ?_ _
      clear hHeld
      refine hK0 _ _ (wp_ret ?_)
      change bodyPost Try.prog _ _ _ _ _
      refine bodyPost_ret (v := .bool false) ((results_tmp (by rfl) _ _ _).trans (by kernel_rfl)) (by kernel_rfl) ?_
      exact ⟨rfl, HB5.out⟩
    | false =>
    cases rf with
    | true =>
      obtain rfl := HC.out.no (fun g => by have := (HO.out.1 g).2.2.2; cases this)
      clear p1
      refine wp_region_held_drew (S := (fun w' => Hid (Blk w' w.heap.size (vcells ⟨nm, (n : Int), ln, false, true⟩) 73) ∧ Hid (Below w.heap.size w w'))) (by kernel_rfl) ⟨KX, Lib.hid HB0.out.drew⟩ (fun hHeld0 => ?_)
      clear hHeld0
      have KTd : Hid (Blk W1.drew w.heap.size (vcells ⟨nm, (n : Int), ln, false, true⟩) 73) := KX
      have HBd : Hid (Below w.heap.size w W1.drew) := Lib.hid HB0.out.drew
      generalize W1.drew = wd at KTd HBd ⊢
      have hHeld : (fun w' => Hid (Blk w' w.heap.size (vcells ⟨nm, (n : Int), ln, false, true⟩) 73) ∧ Hid (Below w.heap.size w w')) wd := ⟨KTd, HBd⟩
      refine tke 0 (v := ?v0e) ?hy0e hHeld ?rest0e
      case hy0e => rintro wq ⟨qT, qB⟩; clear qT qB; simp only [List.getElem_toArray, List.getElem_cons_zero, List.getElem_cons_succ]; go_simp; try with_reducible rfl
      refine tke 1 (v := ?v1e) ?hy1e hHeld ?rest1e
      case hy1e => rintro wq ⟨qT, qB⟩; have l1 := qT.out.cell 1; clear qT qB; simp only [List.getElem_toArray, List.getElem_cons_zero, List.getElem_cons_succ]; go_simp; try with_reducible rfl
      refine wpAnyH_ready (rs := [2]) (by kernel_rfl) (by simp) ?_
      refine AllReadyH.cons (o := _) rfl (fun K hK => ?_) AllReadyH.nil
      try simp only [List.getElem_toArray, List.getElem_cons_zero, List.getElem_cons_succ]
      go_simp
      go_at_call 56
      refine (plain_any (n : Int) HQ.out).mono ?_
      rintro e w5 ⟨rfl, rfl⟩
      refine hK.out _ _ hHeld (fun _ => ?_)
      clear hK
      try simp only [List.getElem_toArray, List.getElem_cons_zero, List.getElem_cons_succ]
      refine tke 3 (v := ?v3e) ?hy3e hHeld ?rest3e
      case hy3e => rintro wq ⟨qT, qB⟩; clear qT qB; simp only [List.getElem_toArray, List.getElem_cons_zero, List.getElem_cons_succ]; go_simp; try with_reducible rfl
      refine tke 4 (v := ?v4e) ?hy4e hHeld ?rest4e
      case hy4e => rintro wq ⟨qT, qB⟩; clear qT qB; simp only [List.getElem_toArray, List.getElem_cons_zero, List.getElem_cons_succ]; go_simp; try with_reducible rfl
      refine tke 5 (v := ?v5e) ?hy5e hHeld ?rest5e
      case hy5e => rintro wq ⟨qT, qB⟩; have l1 := qT.out.cell 2; clear qT qB; simp only [List.getElem_toArray, List.getElem_cons_zero, List.getElem_cons_succ]; go_simp; try with_reducible rfl
      refine tke 6 (v := .bool true) ?hy6e hHeld ?rest6e
      case hy6e => rintro wq ⟨qT, qB⟩; clear qT qB; simp only [List.getElem_toArray, List.getElem_cons_zero, List.getElem_cons_succ]; go_simp; all_goals (try simp); all_goals (try omega)
      refine tke 7 (v := ?v7e) ?hy7e hHeld ?rest7e
      case hy7e => rintro wq ⟨qT, qB⟩; clear qT qB; simp only [List.getElem_toArray, List.getElem_cons_zero, List.getElem_cons_succ]; go_simp; try with_reducible rfl
      refine tke 8 (v := ?v8e) ?hy8e hHeld ?rest8e
      case hy8e => rintro wq ⟨qT, qB⟩; clear qT qB; simp only [List.getElem_toArray, List.getElem_cons_zero, List.getElem_cons_succ]; go_simp; try with_reducible rfl
      refine tke 9 (v := ?v9e) ?hy9e hHeld ?rest9e
      case hy9e => rintro wq ⟨qT, qB⟩; clear qT qB; simp only [List.getElem_toArray, List.getElem_cons_zero, List.getElem_cons_succ]; go_simp; try with_reducible rfl
      refine tke 10 (v := ?v10e) ?hy10e hHeld ?rest10e
      case hy10e => rintro wq ⟨qT, qB⟩; have l1 := qT.out.cell 2; clear qT qB; simp only [List.getElem_toArray, List.getElem_cons_zero, List.getElem_cons_succ]; go_simp; try with_reducible rfl
      refine tke 11 (v := ?v11e) ?hy11e hHeld ?rest11e
      case hy11e => rintro wq ⟨qT, qB⟩; clear qT qB; simp only [List.getElem_toArray, List.getElem_cons_zero, List.getElem_cons_succ]; go_simp; try with_reducible rfl
      refine tke 12 (v := ?v12e) ?hy12e hHeld ?rest12e
      case hy12e => rintro wq ⟨qT, qB⟩; have l1 := qT.out.cell 1; clear qT qB; simp only [List.getElem_toArray, List.getElem_cons_zero, List.getElem_cons_succ]; go_simp; try with_reducible rfl
      refine wpAnyH_ready (rs := [13]) (by kernel_rfl) (by simp) ?_
      refine AllReadyH.cons (o := _) rfl (fun K hK => ?_) AllReadyH.nil
      try simp only [List.getElem_toArray, List.getElem_cons_zero, List.getElem_cons_succ]
      go_simp
      go_at_call 72
      refine (bytes_any n h1 h5).mono ?_
      rintro e w5 ⟨rfl, hb5⟩
      have KT5 := Lib.hid (KTd.out.step hb5)
      have HB5 := Lib.hid (HBd.out.trans (hb5.mono HBd.out.size))
      clear hb5 hHeld
      refine hK.out _ _ ⟨KT5, HB5⟩ (fun _ => ?_)
      clear hK KTd HBd
      have hHeld : (fun w' => Hid (Blk w' w.heap.size (vcells ⟨nm, (n : Int), ln, false, true⟩) 73) ∧ Hid (Below w.heap.size w w')) w5 := ⟨KT5, HB5⟩
      try simp only [List.getElem_toArray, List.getElem_cons_zero, List.getElem_cons_succ]
      refine tke 14 (v := .int .i64 q) ?hy14e hHeld ?rest14e
      case hy14e => rintro wq ⟨qT, qB⟩; clear qT qB; simp only [List.getElem_toArray, List.getElem_cons_zero, List.getElem_cons_succ]; rcases hz.out with ⟨z1, rfl⟩ | ⟨z1, rfl⟩ <;> (rw [z1]; go_simp; all_goals (try rfl))
      refine tke 15 (v := .bool true) ?hy15e hHeld ?rest15e
      case hy15e => rintro wq ⟨qT, qB⟩; clear qT qB; simp only [List.getElem_toArray, List.getElem_cons_zero, List.getElem_cons_succ]; go_simp; all_goals (try simp); all_goals (try omega)
      refine tke 16 (v := ?v16e) ?hy16e hHeld ?rest16e
      case hy16e => rintro wq ⟨qT, qB⟩; clear qT qB; simp only [List.getElem_toArray, List.getElem_cons_zero, List.getElem_cons_succ]; go_simp; try with_reducible rfl
      refine tke 17 (v := ?v17e) ?hy17e hHeld ?rest17e
      case hy17e => rintro wq ⟨qT, qB⟩; clear qT qB; simp only [List.getElem_toArray, List.getElem_cons_zero, List.getElem_cons_succ]; go_simp; try with_reducible rfl
      refine tke 18 (v := ?v18e) ?hy18e hHeld ?rest18e
      case hy18e => rintro wq ⟨qT, qB⟩; clear qT qB; simp only [List.getElem_toArray, List.getElem_cons_zero, List.getElem_cons_succ]; go_simp; try with_reducible rfl
      refine tke 19 (v := ?v19e) ?hy19e hHeld ?rest19e
      case hy19e => rintro wq ⟨qT, qB⟩; have l1 := qT.out.cell 3; clear qT qB; simp only [List.getElem_toArray, List.getElem_cons_zero, List.getElem_cons_succ]; go_simp; try with_reducible rfl
      refine tke 20 (v := ?v20e) ?hy20e hHeld ?rest20e
      case hy20e => rintro wq ⟨qT, qB⟩; clear qT qB; simp only [List.getElem_toArray, List.getElem_cons_zero, List.getElem_cons_succ]; go_simp; try with_reducible rfl
      refine tke 21 (v := ?v21e) ?hy21e hHeld ?rest21e
      case hy21e => rintro wq ⟨qT, qB⟩; clear qT qB; simp only [List.getElem_toArray, List.getElem_cons_zero, List.getElem_cons_succ]; go_simp; try with_reducible rfl
      refine tke 22 (v := ?v22e) ?hy22e hHeld ?rest22e
      case hy22e => rintro wq ⟨qT, qB⟩; clear qT qB; simp only [List.getElem_toArray, List.getElem_cons_zero, List.getElem_cons_succ]; go_simp; try with_reducible rfl
      refine tke 23 (v := ?v23e) ?hy23e hHeld ?rest23e
      case hy23e => rintro wq ⟨qT, qB⟩; clear qT qB; simp only [List.getElem_toArray, List.getElem_cons_zero, List.getElem_cons_succ]; go_simp; try with_reducible rfl
      refine tke 24 (v := ?v24e) ?hy24e hHeld ?rest24e
      case hy24e => rintro wq ⟨qT, qB⟩; have l1 := qT.out.cell 4; clear qT qB; simp only [List.getElem_toArray, List.getElem_cons_zero, List.getElem_cons_succ]; go_simp; try with_reducible rfl
      refine tke 25 (v := ?v25e) ?hy25e hHeld ?rest25e
      case hy25e => rintro wq ⟨qT, qB⟩; clear qT qB; simp only [List.getElem_toArray, List.getElem_cons_zero, List.getElem_cons_succ]; go_simp; try with_reducible rfl
      refine tke 26 (v := ?v26e) ?hy26e hHeld ?rest26e
      case hy26e => rintro wq ⟨qT, qB⟩; clear qT qB; simp only [List.getElem_toArray, List.getElem_cons_zero, List.getElem_cons_succ]; go_simp; try with_reducible rfl
      refine tke 27 (v := ?v27e) ?hy27e hHeld ?rest27e
      case hy27e => rintro wq ⟨qT, qB⟩; clear qT qB; simp only [List.getElem_toArray, List.getElem_cons_zero, List.getElem_cons_succ]; go_simp; try with_reducible rfl
      refine wpAnyH_done (by kernel_rfl) ?_ _
      clear hHeld
      refine hK0 _ _ (wp_ret ?_)
      change bodyPost Try.prog _ _ _ _ _
      refine bodyPost_ret (v := .bool false) ((results_tmp (by rfl) _ _ _).trans (by kernel_rfl)) (by kernel_rfl) ?_
      exact ⟨rfl, HB5.out⟩
    | false =>
      obtain rfl := HC.out.yes (HO.out.2 ⟨by omega, by omega, rfl, rfl⟩)
      clear p1
      refine wp_region_held_drew (S := (fun w' => Hid (Blk w' w.heap.size (vcells ⟨nm, (n : Int), ln, false, false⟩) 73) ∧ Hid (Below w.heap.size w w'))) (by kernel_rfl) ⟨KX, Lib.hid HB0.out.drew⟩ (fun hHeld0 => ?_)
      clear hHeld0
      have KTd : Hid (Blk W1.drew w.heap.size (vcells ⟨nm, (n : Int), ln, false, false⟩) 73) := KX
      have HBd : Hid (Below w.heap.size w W1.drew) := Lib.hid HB0.out.drew
      generalize W1.drew = wd at KTd HBd ⊢
      have hHeld : (fun w' => Hid (Blk w' w.heap.size (vcells ⟨nm, (n : Int), ln, false, false⟩) 73) ∧ Hid (Below w.heap.size w w')) wd := ⟨KTd, HBd⟩
      refine tke 0 (v := ?v0f) ?hy0f hHeld ?rest0f
      case hy0f => rintro wq ⟨qT, qB⟩; clear qT qB; simp only [List.getElem_toArray, List.getElem_cons_zero, List.getElem_cons_succ]; go_simp; try with_reducible rfl
      refine tke 1 (v := ?v1f) ?hy1f hHeld ?rest1f
      case hy1f => rintro wq ⟨qT, qB⟩; have l1 := qT.out.cell 1; clear qT qB; simp only [List.getElem_toArray, List.getElem_cons_zero, List.getElem_cons_succ]; go_simp; try with_reducible rfl
      refine wpAnyH_ready (rs := [2]) (by kernel_rfl) (by simp) ?_
      refine AllReadyH.cons (o := _) rfl (fun K hK => ?_) AllReadyH.nil
      try simp only [List.getElem_toArray, List.getElem_cons_zero, List.getElem_cons_succ]
      go_simp
      go_at_call 56
      refine (plain_any (n : Int) HQ.out).mono ?_
      rintro e w5 ⟨rfl, rfl⟩
      refine hK.out _ _ hHeld (fun _ => ?_)
      clear hK
      try simp only [List.getElem_toArray, List.getElem_cons_zero, List.getElem_cons_succ]
      refine tke 3 (v := ?v3f) ?hy3f hHeld ?rest3f
      case hy3f => rintro wq ⟨qT, qB⟩; clear qT qB; simp only [List.getElem_toArray, List.getElem_cons_zero, List.getElem_cons_succ]; go_simp; try with_reducible rfl
      refine tke 4 (v := ?v4f) ?hy4f hHeld ?rest4f
      case hy4f => rintro wq ⟨qT, qB⟩; clear qT qB; simp only [List.getElem_toArray, List.getElem_cons_zero, List.getElem_cons_succ]; go_simp; try with_reducible rfl
      refine tke 5 (v := ?v5f) ?hy5f hHeld ?rest5f
      case hy5f => rintro wq ⟨qT, qB⟩; have l1 := qT.out.cell 2; clear qT qB; simp only [List.getElem_toArray, List.getElem_cons_zero, List.getElem_cons_succ]; go_simp; try with_reducible rfl
      refine tke 6 (v := .bool true) ?hy6f hHeld ?rest6f
      case hy6f => rintro wq ⟨qT, qB⟩; clear qT qB; simp only [List.getElem_toArray, List.getElem_cons_zero, List.getElem_cons_succ]; go_simp; all_goals (try simp); all_goals (try omega)
      refine tke 7 (v := ?v7f) ?hy7f hHeld ?rest7f
      case hy7f => rintro wq ⟨qT, qB⟩; clear qT qB; simp only [List.getElem_toArray, List.getElem_cons_zero, List.getElem_cons_succ]; go_simp; try with_reducible rfl
      refine tke 8 (v := ?v8f) ?hy8f hHeld ?rest8f
      case hy8f => rintro wq ⟨qT, qB⟩; clear qT qB; simp only [List.getElem_toArray, List.getElem_cons_zero, List.getElem_cons_succ]; go_simp; try with_reducible rfl
      refine tke 9 (v := ?v9f) ?hy9f hHeld ?rest9f
      case hy9f => rintro wq ⟨qT, qB⟩; clear qT qB; simp only [List.getElem_toArray, List.getElem_cons_zero, List.getElem_cons_succ]; go_simp; try with_reducible rfl
      refine tke 10 (v := ?v10f) ?hy10f hHeld ?rest10f
      case hy10f => rintro wq ⟨qT, qB⟩; have l1 := qT.out.cell 2; clear qT qB; simp only [List.getElem_toArray, List.getElem_cons_zero, List.getElem_cons_succ]; go_simp; try with_reducible rfl
      refine tke 11 (v := ?v11f) ?hy11f hHeld ?rest11f
      case hy11f => rintro wq ⟨qT, qB⟩; clear qT qB; simp only [List.getElem_toArray, List.getElem_cons_zero, List.getElem_cons_succ]; go_simp; try with_reducible rfl
      refine tke 12 (v := ?v12f) ?hy12f hHeld ?rest12f
      case hy12f => rintro wq ⟨qT, qB⟩; have l1 := qT.out.cell 1; clear qT qB; simp only [List.getElem_toArray, List.getElem_cons_zero, List.getElem_cons_succ]; go_simp; try with_reducible rfl
      refine wpAnyH_ready (rs := [13]) (by kernel_rfl) (by simp) ?_
      refine AllReadyH.cons (o := _) rfl (fun K hK => ?_) AllReadyH.nil
      try simp only [List.getElem_toArray, List.getElem_cons_zero, List.getElem_cons_succ]
      go_simp
      go_at_call 72
      refine (bytes_any n h1 h5).mono ?_
      rintro e w5 ⟨rfl, hb5⟩
      have KT5 := Lib.hid (KTd.out.step hb5)
      have HB5 := Lib.hid (HBd.out.trans (hb5.mono HBd.out.size))
      clear hb5 hHeld
      refine hK.out _ _ ⟨KT5, HB5⟩ (fun _ => ?_)
      clear hK KTd HBd
      have hHeld : (fun w' => Hid (Blk w' w.heap.size (vcells ⟨nm, (n : Int), ln, false, false⟩) 73) ∧ Hid (Below w.heap.size w w')) w5 := ⟨KT5, HB5⟩
      try simp only [List.getElem_toArray, List.getElem_cons_zero, List.getElem_cons_succ]
      refine tke 14 (v := .int .i64 q) ?hy14f hHeld ?rest14f
      case hy14f => rintro wq ⟨qT, qB⟩; clear qT qB; simp only [List.getElem_toArray, List.getElem_cons_zero, List.getElem_cons_succ]; rcases hz.out with ⟨z1, rfl⟩ | ⟨z1, rfl⟩ <;> (rw [z1]; go_simp; all_goals (try rfl))
      refine tke 15 (v := .bool true) ?hy15f hHeld ?rest15f
      case hy15f => rintro wq ⟨qT, qB⟩; clear qT qB; simp only [List.getElem_toArray, List.getElem_cons_zero, List.getElem_cons_succ]; go_simp; all_goals (try simp); all_goals (try omega)
      refine tke 16 (v := ?v16f) ?hy16f hHeld ?rest16f
      case hy16f => rintro wq ⟨qT, qB⟩; clear qT qB; simp only [List.getElem_toArray, List.getElem_cons_zero, List.getElem_cons_succ]; go_simp; try with_reducible rfl
      refine tke 17 (v := ?v17f) ?hy17f hHeld ?rest17f
      case hy17f => rintro wq ⟨qT, qB⟩; clear qT qB; simp only [List.getElem_toArray, List.getElem_cons_zero, List.getElem_cons_succ]; go_simp; try with_reducible rfl
      refine tke 18 (v := ?v18f) ?hy18f hHeld ?rest18f
      case hy18f => rintro wq ⟨qT, qB⟩; clear qT qB; simp only [List.getElem_toArray, List.getElem_cons_zero, List.getElem_cons_succ]; go_simp; try with_reducible rfl
      refine tke 19 (v := ?v19f) ?hy19f hHeld ?rest19f
      case hy19f => rintro wq ⟨qT, qB⟩; have l1 := qT.out.cell 3; clear qT qB; simp only [List.getElem_toArray, List.getElem_cons_zero, List.getElem_cons_succ]; go_simp; try with_reducible rfl
      refine tke 20 (v := ?v20f) ?hy20f hHeld ?rest20f
      case hy20f => rintro wq ⟨qT, qB⟩; clear qT qB; simp only [List.getElem_toArray, List.getElem_cons_zero, List.getElem_cons_succ]; go_simp; try with_reducible rfl
      refine tke 21 (v := ?v21f) ?hy21f hHeld ?rest21f
      case hy21f => rintro wq ⟨qT, qB⟩; clear qT qB; simp only [List.getElem_toArray, List.getElem_cons_zero, List.getElem_cons_succ]; go_simp; try with_reducible rfl
      refine tke 22 (v := ?v22f) ?hy22f hHeld ?rest22f
      case hy22f => rintro wq ⟨qT, qB⟩; clear qT qB; simp only [List.getElem_toArray, List.getElem_cons_zero, List.getElem_cons_succ]; go_simp; try with_reducible rfl
      refine tke 23 (v := ?v23f) ?hy23f hHeld ?rest23f
      case hy23f => rintro wq ⟨qT, qB⟩; clear qT qB; simp only [List.getElem_toArray, List.getElem_cons_zero, List.getElem_cons_succ]; go_simp; try with_reducible rfl
      refine tke 24 (v := ?v24f) ?hy24f hHeld ?rest24f
      case hy24f => rintro wq ⟨qT, qB⟩; have l1 := qT.out.cell 4; clear qT qB; simp only [List.getElem_toArray, List.getElem_cons_zero, List.getElem_cons_succ]; go_simp; try with_reducible rfl
      refine tke 25 (v := ?v25f) ?hy25f hHeld ?rest25f
      case hy25f => rintro wq ⟨qT, qB⟩; clear qT qB; simp only [List.getElem_toArray, List.getElem_cons_zero, List.getElem_cons_succ]; go_simp; try with_reducible rfl
      refine tke 26 (v := ?v26f) ?hy26f hHeld ?rest26f
      case hy26f => rintro wq ⟨qT, qB⟩; clear qT qB; simp only [List.getElem_toArray, List.getElem_cons_zero, List.getElem_cons_succ]; go_simp; try with_reducible rfl
      refine tke 27 (v := ?v27f) ?hy27f hHeld ?rest27f
      case hy27f => rintro wq ⟨qT, qB⟩; clear qT qB; simp only [List.getElem_toArray, List.getElem_cons_zero, List.getElem_cons_succ]; go_simp; try with_reducible rfl
      refine wpAnyH_done (by kernel_rfl) ?_ _
      clear hHeld
      refine hK0 _ _ (wp_ret ?_)
      change bodyPost Try.prog _ _ _ _ _
      refine bodyPost_ret (v := .bool true) ((results_tmp (by rfl) _ _ _).trans (by kernel_rfl)) (by kernel_rfl) ?_
      exact ⟨rfl, HB5.out⟩
  · have HQ := Lib.hid (show IsB false (plainF fm) from ⟨(fun h => by cases h), fun h => absurd h p1⟩)
    obtain rfl := HC.out.no (fun g => p1 g.1)
    have HB0 := Lib.hid ((Below.refl w.heap.size w).alloc (Nat.le_refl _) (.cells (vcells ⟨nm, fm, ln, op, rf⟩) 73))
    have KX := Lib.hid (Blk.new w (vcells ⟨nm, fm, ln, op, rf⟩) 73)
    clear p1
    go_enter Try.func26, Try.ntmps26
    go_upto_region 1 with fail
    rename_i K0 Q0 hK0
    generalize w.alloc (.cells (vcells ⟨nm, fm, ln, op, rf⟩) 73) = W1 at KX HB0 ⊢
    refine wp_region_held_drew (S := (fun w' => Hid (Blk w' w.heap.size (vcells ⟨nm, fm, ln, op, rf⟩) 73) ∧ Hid (Below w.heap.size w w'))) (by kernel_rfl) ⟨KX, Lib.hid HB0.out.drew⟩ (fun hHeld0 => ?_)
    clear hHeld0
    have KTd : Hid (Blk W1.drew w.heap.size (vcells ⟨nm, fm, ln, op, rf⟩) 73) := KX
    have HBd : Hid (Below w.heap.size w W1.drew) := Lib.hid HB0.out.drew
    generalize W1.drew = wd at KTd HBd ⊢
    have hHeld : (fun w' => Hid (Blk w' w.heap.size (vcells ⟨nm, fm, ln, op, rf⟩) 73) ∧ Hid (Below w.heap.size w w')) wd := ⟨KTd, HBd⟩
    refine tke 0 (v := ?v0a) ?hy0a hHeld ?rest0a
    case hy0a => rintro wq ⟨qT, qB⟩; clear qT qB; simp only [List.getElem_toArray, List.getElem_cons_zero, List.getElem_cons_succ]; go_simp; try with_reducible rfl
    refine tke 1 (v := ?v1a) ?hy1a hHeld ?rest1a
    case hy1a => rintro wq ⟨qT, qB⟩; have l1 := qT.out.cell 1; clear qT qB; simp only [List.getElem_toArray, List.getElem_cons_zero, List.getElem_cons_succ]; go_simp; try with_reducible rfl
    refine wpAnyH_ready (rs := [2]) (by kernel_rfl) (by simp) ?_
    refine AllReadyH.cons (o := _) rfl (fun K hK => ?_) AllReadyH.nil
    try simp only [List.getElem_toArray, List.getElem_cons_zero, List.getElem_cons_succ]
    go_simp
    go_at_call 56
    refine (plain_any fm HQ.out).mono ?_
    rintro e w5 ⟨rfl, rfl⟩
    refine hK.out _ _ hHeld (fun _ => ?_)
    clear hK
    try simp only [List.getElem_toArray, List.getElem_cons_zero, List.getElem_cons_succ]
    refine tke 3 (v := ?v3a) ?hy3a hHeld ?rest3a
    case hy3a => rintro wq ⟨qT, qB⟩; clear qT qB; simp only [List.getElem_toArray, List.getElem_cons_zero, List.getElem_cons_succ]; go_simp; try with_reducible rfl
    refine tku 4 hHeld ?_
    refine tku 5 hHeld ?_
    refine tku 6 hHeld ?_
    refine tke 7 (v := ?v7a) ?hy7a hHeld ?rest7a
    case hy7a => rintro wq ⟨qT, qB⟩; clear qT qB; simp only [List.getElem_toArray, List.getElem_cons_zero, List.getElem_cons_succ]; go_simp; try with_reducible rfl
    refine tke 8 (v := ?v8a) ?hy8a hHeld ?rest8a
    case hy8a => rintro wq ⟨qT, qB⟩; clear qT qB; simp only [List.getElem_toArray, List.getElem_cons_zero, List.getElem_cons_succ]; go_simp; try with_reducible rfl
    refine tku 9 hHeld ?_
    refine tku 10 hHeld ?_
    refine tku 11 hHeld ?_
    refine tku 12 hHeld ?_
    refine tku 13 hHeld ?_
    refine tku 14 hHeld ?_
    refine tku 15 hHeld ?_
    refine tke 16 (v := ?v16a) ?hy16a hHeld ?rest16a
    case hy16a => rintro wq ⟨qT, qB⟩; clear qT qB; simp only [List.getElem_toArray, List.getElem_cons_zero, List.getElem_cons_succ]; go_simp; try with_reducible rfl
    refine tke 17 (v := ?v17a) ?hy17a hHeld ?rest17a
    case hy17a => rintro wq ⟨qT, qB⟩; clear qT qB; simp only [List.getElem_toArray, List.getElem_cons_zero, List.getElem_cons_succ]; go_simp; try with_reducible rfl
    refine tku 18 hHeld ?_
    refine tku 19 hHeld ?_
    refine tku 20 hHeld ?_
    refine tke 21 (v := ?v21a) ?hy21a hHeld ?rest21a
    case hy21a => rintro wq ⟨qT, qB⟩; clear qT qB; simp only [List.getElem_toArray, List.getElem_cons_zero, List.getElem_cons_succ]; go_simp; try with_reducible rfl
    refine tke 22 (v := ?v22a) ?hy22a hHeld ?rest22a
    case hy22a => rintro wq ⟨qT, qB⟩; clear qT qB; simp only [List.getElem_toArray, List.getElem_cons_zero, List.getElem_cons_succ]; go_simp; try with_reducible rfl
    refine tku 23 hHeld ?_
    refine tku 24 hHeld ?_
    refine tku 25 hHeld ?_
    refine tke 26 (v := ?v26a) ?hy26a hHeld ?rest26a
    case hy26a => rintro wq ⟨qT, qB⟩; clear qT qB; simp only [List.getElem_toArray, List.getElem_cons_zero, List.getElem_cons_succ]; go_simp; try with_reducible rfl
    refine tke 27 (v := ?v27a) ?hy27a hHeld ?rest27a
    case hy27a => rintro wq ⟨qT, qB⟩; clear qT qB; simp only [List.getElem_toArray, List.getElem_cons_zero, List.getElem_cons_succ]; go_simp; try with_reducible rfl
    refine wpAnyH_done (by kernel_rfl) ?_ _
    clear hHeld
    refine hK0 _ _ (wp_ret ?_)
    change bodyPost Try.prog _ _ _ _ _
    refine bodyPost_ret (v := .bool false) ((results_tmp (by rfl) _ _ _).trans (by kernel_rfl)) (by kernel_rfl) ?_
    exact ⟨rfl, HBd.out⟩
end
end Go.Proofs.Ytgemnmceflcpcaa
