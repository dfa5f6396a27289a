/- The reader: a parameter. -/
import Derived.Test.YtgemnmceflcpcaaSdJ
namespace Go.Proofs.Ytgemnmceflcpcaa
open Go Go.RowKit Go.Lib Go.Proofs.Ytgemnmceflcpcaa.Sy Pl
set_option linter.unusedVariables false
set_option linter.unusedSimpArgs false
attribute [local go_sem ↓] exec_load_const exec_store_const exec_load_var exec_store_var exec_load_proc exec_store_proc
section
variable {w : World} {g : Nat} {v : Value} {l : List Int}
theorem how_bd (ho : Oct l) (r : Rd) : 0 ≤ (byteS l howB r).1 ∧ (byteS l howB r).1 ≤ 3 := by
  unfold byteS
  split
  · split
    · next h => have := h.2; unfold howB at this; have h3 := of_decide_eq_true this; exact ⟨(oct_getD ho r.pos).1, h3⟩
    · exact ⟨Int.le_refl 0, show (0 : Int) ≤ 3 by decide⟩
  · exact ⟨Int.le_refl 0, show (0 : Int) ≤ 3 by decide⟩
set_option maxHeartbeats 4000000 in
set_option maxRecDepth 100000 in
theorem par_r {r : Rd} {Bs : Nat} (hR : RdAt w g v l r) (hB : Box w Bs g) (hBg : Bs ≠ g) :
    Calls Try.prog 83 #[.pointer (some ⟨Bs, 0, none⟩)] w (RdP g v l w (parS l r).2 (.agg (vcells (parS l r).1))) := by
  have hg := hR.blk.lt
  have hb := hB.lt
  have KB0 := Lib.hid (Blk.old hB (.cells zVar 73))
  have KZ0 := Lib.hid (Blk.new w zVar 73)
  have HR0 := Lib.hid (hR.new zVar 73)
  have HT0 := Lib.hid ((Touch.alloc w (.cells zVar 73)).mono (r' := [g]) (fun x h => by cases h))
  obtain ⟨f, r1, hf⟩ : ∃ f r1, byteS l plainB r = (f, r1) := ⟨_, _, rfl⟩
  obtain ⟨h, r2, hh⟩ : ∃ h r2, byteS l howB r1 = (h, r2) := ⟨_, _, rfl⟩
  have hbd := how_bd hR.oct r1
  rw [hh] at hbd
  simp only at hbd
  have HE := Lib.hid (show parS l r = (⟨⟨#[]⟩, f, 0, decide (h % 2 = 1), decide (2 ≤ h)⟩, r2) by unfold parS; simp only [hf, hh])
  have HF := Lib.hid hf
  have HH := Lib.hid hh
  have b0 := KB0.out.cell 0
  clear hf hh hR hB
  go_enter Try.func83, Try.ntmps83
  go_upto_region 1 with fail
  generalize w.alloc (.cells zVar 73) = w0 at KB0 KZ0 HR0 HT0 b0 ⊢
  go_wp2_with fail
  refine (byte_r HR0.out asks_plain).mono ?_
  rintro e w1 ⟨rfl, hr, ht⟩
  have KB1 := Lib.hid (ht.blk KB0.out (by simpa using hBg))
  have KZ1 := Lib.hid (ht.blk KZ0.out (by simp; omega))
  have HT1 := Lib.hid (HT0.out.trans ht (fun x h _ => h))
  simp only [HF.out] at hr ⊢
  have HR1 := Lib.hid hr
  have hst1 := store_blk_new w1 zVar (vcells ⟨⟨#[]⟩, f, 0, false, false⟩) 73 sz_var rfl rfl (vcells_one _)
  have KB2 := Lib.hid (KB1.out.old (.cells (vcells ⟨⟨#[]⟩, f, 0, false, false⟩) 73))
  have KZ2 := Lib.hid (KZ1.out.old (.cells (vcells ⟨⟨#[]⟩, f, 0, false, false⟩) 73))
  have KV2 := Lib.hid (Blk.new w1 (vcells ⟨⟨#[]⟩, f, 0, false, false⟩) 73)
  have HR2 := Lib.hid (HR1.out.new (vcells ⟨⟨#[]⟩, f, 0, false, false⟩) 73)
  have HT2 := Lib.hid (HT1.out.trans ((Touch.alloc w1 (.cells (vcells ⟨⟨#[]⟩, f, 0, false, false⟩) 73)).mono (r' := [g]) (fun x h => by cases h)) (fun x h _ => h))
  have hgv := KZ1.out.lt
  clear hr ht b0 KB0 KZ0 HR0 HT0 KB1 KZ1 HR1 HT1
  go_upto_region 2 with fail
  clear hst1
  generalize w1.heap.size = gv at KV2 hgv ⊢
  generalize w1.alloc (.cells (vcells ⟨⟨#[]⟩, f, 0, false, false⟩) 73) = w2 at KB2 KZ2 KV2 HR2 HT2 ⊢
  have b2 := KB2.out.cell 0
  go_wp2_with fail
  refine (byte_r HR2.out asks_how).mono ?_
  rintro e w4 ⟨rfl, hr, ht⟩
  have KZ4 := Lib.hid (ht.blk KZ2.out (by simp; omega))
  have KV4 := Lib.hid (ht.blk KV2.out (by simp; omega))
  have HT4 := Lib.hid (HT2.out.trans ht (fun x h _ => h))
  simp only [HH.out] at hr ⊢
  have HR4 := Lib.hid hr
  clear hr ht b2 KB2 KZ2 KV2 HR2 HT2
  have h4 : h = 0 ∨ h = 1 ∨ h = 2 ∨ h = 3 := by omega
  rcases h4 with rfl | rfl | rfl | rfl
  · skip
    have ba : bits .and .i64 0 1 = 0 := by kernel_rfl
    have bb : bits .and .i64 0 2 = 0 := by kernel_rfl
    have c3 := KV4.out.cell 3
    have f3 := KV4.out.frozen 3
    have KV5 : Hid (Blk (w4.setCell ⟨gv, 3, none⟩ (.bool false)) gv (vcells ⟨⟨#[]⟩, f, 0, false, false⟩) 73) := Lib.hid (KV4.out.set 3 _)
    have KZ5 := Lib.hid (KZ4.out.far (p := ⟨gv, 3, none⟩) (Nat.ne_of_lt hgv) (.bool false))
    have HR5 := Lib.hid (HR4.out.touch (Touch.set w4 ⟨gv, 3, none⟩ (.bool false)) (fun x hx => by simp only [List.mem_singleton] at hx; subst hx; omega))
    have HT5 := Lib.hid (Touch.trans HT4.out ((Touch.set w4 ⟨gv, 3, none⟩ (.bool false)).mono (r' := [gv]) (fun x h => h)) (fun x hx hlt => by simp only [List.mem_singleton] at hx; omega))
    have KV6 : Hid (Blk ((w4.setCell ⟨gv, 3, none⟩ (.bool false)).setCell ⟨gv, 4, none⟩ (.bool false)) gv (vcells ⟨⟨#[]⟩, f, 0, false, false⟩) 73) := Lib.hid (KV5.out.set 4 _)
    have c4 := KV5.out.cell 4
    have f4 := KV5.out.frozen 4
    have KZ6 := Lib.hid (KZ5.out.far (p := ⟨gv, 4, none⟩) (Nat.ne_of_lt hgv) (.bool false))
    have HR6 := Lib.hid (HR5.out.touch (Touch.set _ ⟨gv, 4, none⟩ (.bool false)) (fun x hx => by simp only [List.mem_singleton] at hx; subst hx; omega))
    have HT6 := Lib.hid (Touch.trans HT5.out ((Touch.set _ ⟨gv, 4, none⟩ (.bool false)).mono (r' := [gv]) (fun x h => h)) (fun x hx hlt => by simp only [List.mem_singleton] at hx; omega))
    go_upto_region 4 with fail
    generalize (w4.setCell ⟨gv, 3, none⟩ (.bool false)).setCell ⟨gv, 4, none⟩ (.bool false) = w6 at KV6 KZ6 HR6 HT6 ⊢
    clear c3 f3 c4 f4 KV4 KZ4 HR4 HT4 KV5 KZ5 HR5 HT5
    have hl5 := load_blk Try.underlying73 rfl sz_var KV6.out rfl
    have hst5 := store_blk sz_var KZ6.out rfl rfl (vcells_one ⟨⟨#[]⟩, f, 0, false, false⟩)
    have hres := loadVar_blk Try.underlying73 rfl sz_var (KZ6.out.setRow (vcells ⟨⟨#[]⟩, f, 0, false, false⟩)) rfl
    have HRF := Lib.hid (HR6.out.touch (Touch.row w6 w.heap.size (vcells ⟨⟨#[]⟩, f, 0, false, false⟩)) (fun x hx => by simp only [List.mem_singleton] at hx; subst hx; omega))
    have HTF := Lib.hid (Touch.trans HT6.out (Touch.row w6 w.heap.size (vcells ⟨⟨#[]⟩, f, 0, false, false⟩)) (fun x hx hlt => by simp only [List.mem_singleton] at hx; omega))
    go_wp2_with fail
    rw [HE.out]
    refine bodyPost_ret (v := .agg (vcells ⟨⟨#[]⟩, f, 0, false, false⟩)) ?_ rfl ⟨rfl, HRF.out, HTF.out⟩
    simp [results, Try.results83, asAddr, hres]
  · skip
    have ba : bits .and .i64 1 1 = 1 := by kernel_rfl
    have bb : bits .and .i64 1 2 = 0 := by kernel_rfl
    have c3 := KV4.out.cell 3
    have f3 := KV4.out.frozen 3
    have KV5 : Hid (Blk (w4.setCell ⟨gv, 3, none⟩ (.bool true)) gv (vcells ⟨⟨#[]⟩, f, 0, true, false⟩) 73) := Lib.hid (KV4.out.set 3 _)
    have KZ5 := Lib.hid (KZ4.out.far (p := ⟨gv, 3, none⟩) (Nat.ne_of_lt hgv) (.bool true))
    have HR5 := Lib.hid (HR4.out.touch (Touch.set w4 ⟨gv, 3, none⟩ (.bool true)) (fun x hx => by simp only [List.mem_singleton] at hx; subst hx; omega))
    have HT5 := Lib.hid (Touch.trans HT4.out ((Touch.set w4 ⟨gv, 3, none⟩ (.bool true)).mono (r' := [gv]) (fun x h => h)) (fun x hx hlt => by simp only [List.mem_singleton] at hx; omega))
    have KV6 : Hid (Blk ((w4.setCell ⟨gv, 3, none⟩ (.bool true)).setCell ⟨gv, 4, none⟩ (.bool false)) gv (vcells ⟨⟨#[]⟩, f, 0, true, false⟩) 73) := Lib.hid (KV5.out.set 4 _)
    have c4 := KV5.out.cell 4
    have f4 := KV5.out.frozen 4
    have KZ6 := Lib.hid (KZ5.out.far (p := ⟨gv, 4, none⟩) (Nat.ne_of_lt hgv) (.bool false))
    have HR6 := Lib.hid (HR5.out.touch (Touch.set _ ⟨gv, 4, none⟩ (.bool false)) (fun x hx => by simp only [List.mem_singleton] at hx; subst hx; omega))
    have HT6 := Lib.hid (Touch.trans HT5.out ((Touch.set _ ⟨gv, 4, none⟩ (.bool false)).mono (r' := [gv]) (fun x h => h)) (fun x hx hlt => by simp only [List.mem_singleton] at hx; omega))
    go_upto_region 4 with fail
    generalize (w4.setCell ⟨gv, 3, none⟩ (.bool true)).setCell ⟨gv, 4, none⟩ (.bool false) = w6 at KV6 KZ6 HR6 HT6 ⊢
    clear c3 f3 c4 f4 KV4 KZ4 HR4 HT4 KV5 KZ5 HR5 HT5
    have hl5 := load_blk Try.underlying73 rfl sz_var KV6.out rfl
    have hst5 := store_blk sz_var KZ6.out rfl rfl (vcells_one ⟨⟨#[]⟩, f, 0, true, false⟩)
    have hres := loadVar_blk Try.underlying73 rfl sz_var (KZ6.out.setRow (vcells ⟨⟨#[]⟩, f, 0, true, false⟩)) rfl
    have HRF := Lib.hid (HR6.out.touch (Touch.row w6 w.heap.size (vcells ⟨⟨#[]⟩, f, 0, true, false⟩)) (fun x hx => by simp only [List.mem_singleton] at hx; subst hx; omega))
    have HTF := Lib.hid (Touch.trans HT6.out (Touch.row w6 w.heap.size (vcells ⟨⟨#[]⟩, f, 0, true, false⟩)) (fun x hx hlt => by simp only [List.mem_singleton] at hx; omega))
    go_wp2_with fail
    rw [HE.out]
    refine bodyPost_ret (v := .agg (vcells ⟨⟨#[]⟩, f, 0, true, false⟩)) ?_ rfl ⟨rfl, HRF.out, HTF.out⟩
    simp [results, Try.results83, asAddr, hres]
  · skip
    have ba : bits .and .i64 2 1 = 0 := by kernel_rfl
    have bb : bits .and .i64 2 2 = 2 := by kernel_rfl
    have c3 := KV4.out.cell 3
    have f3 := KV4.out.frozen 3
    have KV5 : Hid (Blk (w4.setCell ⟨gv, 3, none⟩ (.bool false)) gv (vcells ⟨⟨#[]⟩, f, 0, false, false⟩) 73) := Lib.hid (KV4.out.set 3 _)
    have KZ5 := Lib.hid (KZ4.out.far (p := ⟨gv, 3, none⟩) (Nat.ne_of_lt hgv) (.bool false))
    have HR5 := Lib.hid (HR4.out.touch (Touch.set w4 ⟨gv, 3, none⟩ (.bool false)) (fun x hx => by simp only [List.mem_singleton] at hx; subst hx; omega))
    have HT5 := Lib.hid (Touch.trans HT4.out ((Touch.set w4 ⟨gv, 3, none⟩ (.bool false)).mono (r' := [gv]) (fun x h => h)) (fun x hx hlt => by simp only [List.mem_singleton] at hx; omega))
    have KV6 : Hid (Blk ((w4.setCell ⟨gv, 3, none⟩ (.bool false)).setCell ⟨gv, 4, none⟩ (.bool true)) gv (vcells ⟨⟨#[]⟩, f, 0, false, true⟩) 73) := Lib.hid (KV5.out.set 4 _)
    have c4 := KV5.out.cell 4
    have f4 := KV5.out.frozen 4
    have KZ6 := Lib.hid (KZ5.out.far (p := ⟨gv, 4, none⟩) (Nat.ne_of_lt hgv) (.bool true))
    have HR6 := Lib.hid (HR5.out.touch (Touch.set _ ⟨gv, 4, none⟩ (.bool true)) (fun x hx => by simp only [List.mem_singleton] at hx; subst hx; omega))
    have HT6 := Lib.hid (Touch.trans HT5.out ((Touch.set _ ⟨gv, 4, none⟩ (.bool true)).mono (r' := [gv]) (fun x h => h)) (fun x hx hlt => by simp only [List.mem_singleton] at hx; omega))
    go_upto_region 4 with fail
    generalize (w4.setCell ⟨gv, 3, none⟩ (.bool false)).setCell ⟨gv, 4, none⟩ (.bool true) = w6 at KV6 KZ6 HR6 HT6 ⊢
    clear c3 f3 c4 f4 KV4 KZ4 HR4 HT4 KV5 KZ5 HR5 HT5
    have hl5 := load_blk Try.underlying73 rfl sz_var KV6.out rfl
    have hst5 := store_blk sz_var KZ6.out rfl rfl (vcells_one ⟨⟨#[]⟩, f, 0, false, true⟩)
    have hres := loadVar_blk Try.underlying73 rfl sz_var (KZ6.out.setRow (vcells ⟨⟨#[]⟩, f, 0, false, true⟩)) rfl
    have HRF := Lib.hid (HR6.out.touch (Touch.row w6 w.heap.size (vcells ⟨⟨#[]⟩, f, 0, false, true⟩)) (fun x hx => by simp only [List.mem_singleton] at hx; subst hx; omega))
    have HTF := Lib.hid (Touch.trans HT6.out (Touch.row w6 w.heap.size (vcells ⟨⟨#[]⟩, f, 0, false, true⟩)) (fun x hx hlt => by simp only [List.mem_singleton] at hx; omega))
    go_wp2_with fail
    rw [HE.out]
    refine bodyPost_ret (v := .agg (vcells ⟨⟨#[]⟩, f, 0, false, true⟩)) ?_ rfl ⟨rfl, HRF.out, HTF.out⟩
    simp [results, Try.results83, asAddr, hres]
  · skip
    have ba : bits .and .i64 3 1 = 1 := by kernel_rfl
    have bb : bits .and .i64 3 2 = 2 := by kernel_rfl
    have c3 := KV4.out.cell 3
    have f3 := KV4.out.frozen 3
    have KV5 : Hid (Blk (w4.setCell ⟨gv, 3, none⟩ (.bool true)) gv (vcells ⟨⟨#[]⟩, f, 0, true, false⟩) 73) := Lib.hid (KV4.out.set 3 _)
    have KZ5 := Lib.hid (KZ4.out.far (p := ⟨gv, 3, none⟩) (Nat.ne_of_lt hgv) (.bool true))
    have HR5 := Lib.hid (HR4.out.touch (Touch.set w4 ⟨gv, 3, none⟩ (.bool true)) (fun x hx => by simp only [List.mem_singleton] at hx; subst hx; omega))
    have HT5 := Lib.hid (Touch.trans HT4.out ((Touch.set w4 ⟨gv, 3, none⟩ (.bool true)).mono (r' := [gv]) (fun x h => h)) (fun x hx hlt => by simp only [List.mem_singleton] at hx; omega))
    have KV6 : Hid (Blk ((w4.setCell ⟨gv, 3, none⟩ (.bool true)).setCell ⟨gv, 4, none⟩ (.bool true)) gv (vcells ⟨⟨#[]⟩, f, 0, true, true⟩) 73) := Lib.hid (KV5.out.set 4 _)
    have c4 := KV5.out.cell 4
    have f4 := KV5.out.frozen 4
    have KZ6 := Lib.hid (KZ5.out.far (p := ⟨gv, 4, none⟩) (Nat.ne_of_lt hgv) (.bool true))
    have HR6 := Lib.hid (HR5.out.touch (Touch.set _ ⟨gv, 4, none⟩ (.bool true)) (fun x hx => by simp only [List.mem_singleton] at hx; subst hx; omega))
    have HT6 := Lib.hid (Touch.trans HT5.out ((Touch.set _ ⟨gv, 4, none⟩ (.bool true)).mono (r' := [gv]) (fun x h => h)) (fun x hx hlt => by simp only [List.mem_singleton] at hx; omega))
    go_upto_region 4 with fail
    generalize (w4.setCell ⟨gv, 3, none⟩ (.bool true)).setCell ⟨gv, 4, none⟩ (.bool true) = w6 at KV6 KZ6 HR6 HT6 ⊢
    clear c3 f3 c4 f4 KV4 KZ4 HR4 HT4 KV5 KZ5 HR5 HT5
    have hl5 := load_blk Try.underlying73 rfl sz_var KV6.out rfl
    have hst5 := store_blk sz_var KZ6.out rfl rfl (vcells_one ⟨⟨#[]⟩, f, 0, true, true⟩)
    have hres := loadVar_blk Try.underlying73 rfl sz_var (KZ6.out.setRow (vcells ⟨⟨#[]⟩, f, 0, true, true⟩)) rfl
    have HRF := Lib.hid (HR6.out.touch (Touch.row w6 w.heap.size (vcells ⟨⟨#[]⟩, f, 0, true, true⟩)) (fun x hx => by simp only [List.mem_singleton] at hx; subst hx; omega))
    have HTF := Lib.hid (Touch.trans HT6.out (Touch.row w6 w.heap.size (vcells ⟨⟨#[]⟩, f, 0, true, true⟩)) (fun x hx hlt => by simp only [List.mem_singleton] at hx; omega))
    go_wp2_with fail
    rw [HE.out]
    refine bodyPost_ret (v := .agg (vcells ⟨⟨#[]⟩, f, 0, true, true⟩)) ?_ rfl ⟨rfl, HRF.out, HTF.out⟩
    simp [results, Try.results83, asAddr, hres]
end
end Go.Proofs.Ytgemnmceflcpcaa
