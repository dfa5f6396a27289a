/- A variable laid behind bytes. -/
import Derived.Test.YtgemnmceflcpcaaQD
import Derived.Deep.AppendLies
import Derived.IntWalk
namespace Go.Proofs.Ytgemnmceflcpcaa
open Go Go.RowKit Go.Lib Go.Proofs.Ytgemnmceflcpcaa.Sy
set_option linter.unusedVariables false
set_option linter.unusedSimpArgs false
attribute [local go_sem ↓] exec_load_const exec_store_const exec_load_var exec_store_var exec_load_proc exec_store_proc
attribute [local go_sem] ccells vcells pcells
def varB (v : Vr) : List Int := grps v.name.size ++ strI v.name ++ [v.form] ++ grps v.len.toNat
section
variable {w : World}
set_option maxHeartbeats 4000000 in
set_option maxRecDepth 100000 in
theorem putvar_any {v : Value} {l : List Int} (x : Vr) (hF : BytesAt w v l) (h1 : plainF x.form) (h2 : x.name.size ≤ 1000) (h3 : 0 ≤ x.len ∧ x.len ≤ 16384) (hl : l.length ≤ 50000000) :
    Calls Try.prog 33 #[v, .agg (vcells x)] w (NewB (l ++ varB x) w) := by
  obtain ⟨nm, fm, ln, op, rf⟩ := x
  simp only at h1 h2 h3
  have hm : IntKind.u8.wrap fm = fm := by have := h1.1; have := h1.2; exact IntWalk.u8_in _ ⟨by omega, by omega⟩
  obtain ⟨n, rfl⟩ : ∃ n : Nat, ln = n := ⟨ln.toNat, by omega⟩
  have hn : IntKind.u32.wrap (n : Int) = n := IntWalk.u32_in _ ⟨by omega, by omega⟩
  have HB0 := Lib.hid ((Below.refl w.heap.size w).alloc (Nat.le_refl _) (.cells (vcells ⟨nm, fm, (n : Int), op, rf⟩) 73))
  have KX := Lib.hid (Blk.new w (vcells ⟨nm, fm, (n : Int), op, rf⟩) 73)
  have HG5 := Lib.hid (grps_len5 (n := nm.size) (by omega))
  have HL := Lib.hid hl
  have HLL := Lib.hid (show (l ++ grps nm.size ++ strI nm).length ≤ 60000000 by have := HG5.out; simp only [List.length_append, strI_len]; omega)
  clear hl
  go_enter Try.func33, Try.ntmps33
  go_upto_region 1 with fail
  rename_i K0 hK0
  generalize w.alloc (.cells (vcells ⟨nm, fm, (n : Int), op, rf⟩) 73) = W1 at KX HB0 ⊢
  refine wp_region_held_drew (S := (fun w' => Hid (Blk w' w.heap.size (vcells ⟨nm, fm, (n : Int), op, rf⟩) 73) ∧ Hid (Below w.heap.size w w'))) (by kernel_rfl) ⟨KX, Lib.hid HB0.out.drew⟩ (fun hHeld0 => ?_)
  clear hHeld0
  have KTd : Hid (Blk W1.drew w.heap.size (vcells ⟨nm, fm, (n : Int), op, rf⟩) 73) := KX
  have HBd : Hid (Below w.heap.size w W1.drew) := Lib.hid HB0.out.drew
  have HFd := Lib.hid (show BytesAt W1.drew v l from hF.below HB0.out.drew)
  generalize W1.drew = wd at KTd HBd HFd ⊢
  have hHeld : (fun w' => Hid (Blk w' w.heap.size (vcells ⟨nm, fm, (n : Int), op, rf⟩) 73) ∧ Hid (Below w.heap.size w w')) wd := ⟨KTd, HBd⟩
  refine tke 0 (v := ?v0a) ?hy0a hHeld ?rest0a
  case hy0a => rintro wq ⟨qT, qB⟩; clear qT qB; simp only [List.getElem_toArray, List.getElem_cons_zero, List.getElem_cons_succ]; go_simp; try with_reducible rfl
  refine tke 1 (v := ?v1a) ?hy1a hHeld ?rest1a
  case hy1a => rintro wq ⟨qT, qB⟩; clear qT qB; simp only [List.getElem_toArray, List.getElem_cons_zero, List.getElem_cons_succ]; go_simp; try with_reducible rfl
  refine tke 2 (v := ?v2a) ?hy2a hHeld ?rest2a
  case hy2a => rintro wq ⟨qT, qB⟩; have l1 := qT.out.cell 0; clear qT qB; simp only [List.getElem_toArray, List.getElem_cons_zero, List.getElem_cons_succ]; go_simp; try with_reducible rfl
  refine tke 4 (v := ?v4a) ?hy4a hHeld ?rest4a
  case hy4a => rintro wq ⟨qT, qB⟩; clear qT qB; simp only [List.getElem_toArray, List.getElem_cons_zero, List.getElem_cons_succ]; go_simp; try with_reducible rfl
  refine tke 5 (v := ?v5a) ?hy5a hHeld ?rest5a
  case hy5a => rintro wq ⟨qT, qB⟩; have l1 := qT.out.cell 1; clear qT qB; simp only [List.getElem_toArray, List.getElem_cons_zero, List.getElem_cons_succ]; go_simp; try with_reducible rfl
  refine tke 6 (v := ?v6a) ?hy6a hHeld ?rest6a
  case hy6a => rintro wq ⟨qT, qB⟩; clear qT qB; simp only [List.getElem_toArray, List.getElem_cons_zero, List.getElem_cons_succ]; go_simp; try with_reducible rfl
  refine tke 9 (v := ?v9a) ?hy9a hHeld ?rest9a
  case hy9a => rintro wq ⟨qT, qB⟩; clear qT qB; simp only [List.getElem_toArray, List.getElem_cons_zero, List.getElem_cons_succ]; go_simp; try with_reducible rfl
  refine tke 10 (v := ?v10a) ?hy10a hHeld ?rest10a
  case hy10a => rintro wq ⟨qT, qB⟩; have l1 := qT.out.cell 2; clear qT qB; simp only [List.getElem_toArray, List.getElem_cons_zero, List.getElem_cons_succ]; go_simp; try with_reducible rfl
  refine tke 11 (v := ?v11a) ?hy11a hHeld ?rest11a
  case hy11a => rintro wq ⟨qT, qB⟩; clear qT qB; simp only [List.getElem_toArray, List.getElem_cons_zero, List.getElem_cons_succ]; go_simp; try with_reducible rfl
  refine wpAnyH_ready (rs := [3, 7]) (by kernel_rfl) (by simp) ?_
  refine AllReadyH.cons (o := _) rfl (fun K hK => ?_) (AllReadyH.cons (o := _) rfl (fun K hK => ?_) AllReadyH.nil)
  · try simp only [List.getElem_toArray, List.getElem_cons_zero, List.getElem_cons_succ]
    go_simp
    go_at_call 29
    refine (puttext_any HFd.out nm h2 (by have := HL.out; omega)).mono ?_
    rintro e w1 ⟨v1, rfl, ho1, hb1⟩
    have HO1 := Lib.hid (own_weak ho1 HBd.out.size)
    have KT1 := Lib.hid (KTd.out.step hb1)
    have HB1 := Lib.hid (HBd.out.trans (hb1.mono HBd.out.size))
    have HW := Lib.hid (fun (g : Nat) (hg : v1.ownBlock = some g) => Nat.lt_of_lt_of_le KTd.out.lt (own_lt ho1 g hg).2)
    clear ho1 hb1
    refine hK.out _ _ ⟨KT1, HB1⟩ (fun _ => ?_)
    refine wpAnyH_ready (rs := [7]) (by kernel_rfl) (by simp) ?_
    refine AllReadyH.cons (o := _) rfl (fun K hK => ?_) AllReadyH.nil
    try simp only [List.getElem_toArray, List.getElem_cons_zero, List.getElem_cons_succ]
    go_simp
    have HO2 := Lib.hid (World.ownsRow.alloc HO1.out (.cells #[.int .u8 fm] 5))
    have KE2 := Lib.hid (Blk.new w1 #[.int .u8 fm] 5)
    have KT2 := Lib.hid (KT1.out.old (.cells #[.int .u8 fm] 5))
    have HB2 := Lib.hid (HB1.out.alloc HB1.out.size (.cells #[.int .u8 fm] 5))
    refine hK.out _ _ ⟨KT2, HB2⟩ (fun _ => ?_)
    refine wpAnyH_ready (rs := [8]) (by kernel_rfl) (by simp) ?_
    refine AllReadyH.cons (o := _) rfl (fun K hK => ?_) AllReadyH.nil
    refine step_appB rfl _ _ (by rfl) [fm] (v := v1) (m := 1) (c := 1) (by rfl) HO2.out (by rfl) rfl (World.news_of_block KE2.out) (by decide) (by have := HLL.out; omega) HB2.out.size ?_
    intro v3 w3 ho3 T3
    have HO3 := Lib.hid ho3
    have HN : ∀ g', v1.ownBlock = some g' → w.heap.size < g' := fun g' hg' => by have := HW.out g' hg'; omega
    have KT3 := Lib.hid (T3.blk KT2.out (fun hm => by simp only [Option.mem_toList, Option.mem_def] at hm; have := HN _ hm; omega))
    have HB3 := Lib.hid (HB2.out.trans (T3.below HB2.out.size (fun g' hm => by simp only [Option.mem_toList, Option.mem_def] at hm; have := HN _ hm; omega)))
    have HF3 := Lib.hid (own_bytes HO3.out)
    clear ho3 T3 HN
    refine hK.out _ _ ⟨KT3, HB3⟩ (fun _ => ?_)
    refine wpAnyH_ready (rs := [12]) (by kernel_rfl) (by simp) ?_
    refine AllReadyH.cons (o := _) rfl (fun K hK => ?_) AllReadyH.nil
    try simp only [List.getElem_toArray, List.getElem_cons_zero, List.getElem_cons_succ]
    go_simp
    go_at_call 77
    refine (putuint_any HF3.out n (by omega) (by have := HLL.out; simp only [List.length_append] at *; simp; omega)).mono ?_
    rintro e w4 ⟨v4, rfl, ho4, hb4⟩
    have HO4 := Lib.hid (own_weak ho4 HB3.out.size)
    have KT4 := Lib.hid (KT3.out.step hb4)
    have HB4 := Lib.hid (HB3.out.trans (hb4.mono HB3.out.size))
    clear ho4 hb4
    refine hK.out _ _ ⟨KT4, HB4⟩ (fun _ => ?_)
    refine tke 13 (v := ?v13a1) ?hy13a1 ⟨KT4, HB4⟩ ?rest13a1
    case hy13a1 => rintro wq ⟨qT, qB⟩; clear qT qB; simp only [List.getElem_toArray, List.getElem_cons_zero, List.getElem_cons_succ]; go_simp; try with_reducible rfl
    refine wpAnyH_done (by kernel_rfl) ?_ _
    refine hK0 _ _ (wp_ret ?_)
    change bodyPost Try.prog _ _ _ _ _
    refine bodyPost_ret (v := v4) ((results_tmp (by rfl) _ _ _).trans (by kernel_rfl)) (by kernel_rfl) ?_
    exact ⟨v4, rfl, by have h := HO4.out; unfold varB; simp only [Int.toNat_natCast, List.append_assoc] at h ⊢; exact h, HB4.out⟩
  · try simp only [List.getElem_toArray, List.getElem_cons_zero, List.getElem_cons_succ]
    go_simp
    have HF1 := Lib.hid (RowsAt.below HFd.out ((Below.refl _ wd).alloc (Nat.le_refl _) (.cells #[.int .u8 fm] 5)))
    have KE1 := Lib.hid (Blk.new wd #[.int .u8 fm] 5)
    have KT1 := Lib.hid (KTd.out.old (.cells #[.int .u8 fm] 5))
    have HB1 := Lib.hid (HBd.out.alloc HBd.out.size (.cells #[.int .u8 fm] 5))
    refine hK.out _ _ ⟨KT1, HB1⟩ (fun _ => ?_)
    refine wpAnyH_ready (rs := [3]) (by kernel_rfl) (by simp) ?_
    refine AllReadyH.cons (o := _) rfl (fun K hK => ?_) AllReadyH.nil
    try simp only [List.getElem_toArray, List.getElem_cons_zero, List.getElem_cons_succ]
    go_simp
    go_at_call 29
    refine (puttext_any HF1.out nm h2 (by have := HL.out; omega)).mono ?_
    rintro e w2 ⟨v1, rfl, ho1, hb1⟩
    have HO2 := Lib.hid (own_weak ho1 HB1.out.size)
    have KT2 := Lib.hid (KT1.out.step hb1)
    have KE2 := Lib.hid (KE1.out.step hb1)
    have HB2 := Lib.hid (HB1.out.trans (hb1.mono HB1.out.size))
    have HW := Lib.hid (fun (g : Nat) (hg : v1.ownBlock = some g) => Nat.lt_of_lt_of_le KT1.out.lt (own_lt ho1 g hg).2)
    clear ho1 hb1
    refine hK.out _ _ ⟨KT2, HB2⟩ (fun _ => ?_)
    refine wpAnyH_ready (rs := [8]) (by kernel_rfl) (by simp) ?_
    refine AllReadyH.cons (o := _) rfl (fun K hK => ?_) AllReadyH.nil
    refine step_appB rfl _ _ (by rfl) [fm] (v := v1) (m := 1) (c := 1) (by rfl) HO2.out (by rfl) rfl (World.news_of_block KE2.out) (by decide) (by have := HLL.out; omega) HB2.out.size ?_
    intro v3 w3 ho3 T3
    have HO3 := Lib.hid ho3
    have HN : ∀ g', v1.ownBlock = some g' → w.heap.size < g' := fun g' hg' => by have := HW.out g' hg'; omega
    have KT3 := Lib.hid (T3.blk KT2.out (fun hm => by simp only [Option.mem_toList, Option.mem_def] at hm; have := HN _ hm; omega))
    have HB3 := Lib.hid (HB2.out.trans (T3.below HB2.out.size (fun g' hm => by simp only [Option.mem_toList, Option.mem_def] at hm; have := HN _ hm; omega)))
    have HF3 := Lib.hid (own_bytes HO3.out)
    clear ho3 T3 HN
    refine hK.out _ _ ⟨KT3, HB3⟩ (fun _ => ?_)
    refine wpAnyH_ready (rs := [12]) (by kernel_rfl) (by simp) ?_
    refine AllReadyH.cons (o := _) rfl (fun K hK => ?_) AllReadyH.nil
    try simp only [List.getElem_toArray, List.getElem_cons_zero, List.getElem_cons_succ]
    go_simp
    go_at_call 77
    refine (putuint_any HF3.out n (by omega) (by have := HLL.out; simp only [List.length_append] at *; simp; omega)).mono ?_
    rintro e w4 ⟨v4, rfl, ho4, hb4⟩
    have HO4 := Lib.hid (own_weak ho4 HB3.out.size)
    have KT4 := Lib.hid (KT3.out.step hb4)
    have HB4 := Lib.hid (HB3.out.trans (hb4.mono HB3.out.size))
    clear ho4 hb4
    refine hK.out _ _ ⟨KT4, HB4⟩ (fun _ => ?_)
    refine tke 13 (v := ?v13b1) ?hy13b1 ⟨KT4, HB4⟩ ?rest13b1
    case hy13b1 => rintro wq ⟨qT, qB⟩; clear qT qB; simp only [List.getElem_toArray, List.getElem_cons_zero, List.getElem_cons_succ]; go_simp; try with_reducible rfl
    refine wpAnyH_done (by kernel_rfl) ?_ _
    refine hK0 _ _ (wp_ret ?_)
    change bodyPost Try.prog _ _ _ _ _
    refine bodyPost_ret (v := v4) ((results_tmp (by rfl) _ _ _).trans (by kernel_rfl)) (by kernel_rfl) ?_
    exact ⟨v4, rfl, by have h := HO4.out; unfold varB; simp only [Int.toNat_natCast, List.append_assoc] at h ⊢; exact h, HB4.out⟩
end
end Go.Proofs.Ytgemnmceflcpcaa
