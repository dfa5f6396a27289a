/- The reader: a variable, a parameter. -/
import Derived.Test.YtgemnmceflcpcaaSdI
namespace Go.Proofs.Ytgemnmceflcpcaa
open Go Go.RowKit Go.Lib Go.Proofs.Ytgemnmceflcpcaa.Sy Pl
set_option linter.unusedVariables false
set_option linter.unusedSimpArgs false
attribute [local go_sem ↓] exec_load_const exec_store_const exec_load_var exec_store_var exec_load_proc exec_store_proc
/-- The box in which a reader's address lies. -/
abbrev Box (w : World) (Bs g : Nat) : Prop := Blk w Bs #[.pointer (some ⟨g, 0, none⟩)] 97
section
variable {w : World} {g : Nat} {v : Value} {l : List Int}
set_option maxHeartbeats 4000000 in
set_option maxRecDepth 100000 in
theorem var_r {r : Rd} {Bs : Nat} (hR : RdAt w g v l r) (hB : Box w Bs g) (hBg : Bs ≠ g) :
    Calls Try.prog 54 #[.pointer (some ⟨Bs, 0, none⟩)] w (RdP g v l w (varS l r).2 (.agg (vcells (varS l r).1))) := by
  have hg := hR.blk.lt
  have hb := hB.lt
  have KB0 := Lib.hid (Blk.old hB (.cells zVar 73))
  have KZ0 := Lib.hid (Blk.new w zVar 73)
  have HR0 := Lib.hid (hR.new zVar 73)
  have HT0 := Lib.hid ((Touch.alloc w (.cells zVar 73)).mono (r' := [g]) (fun x h => by cases h))
  obtain ⟨a, r1, ha⟩ : ∃ a r1, textS l 20 r = (a, r1) := ⟨_, _, rfl⟩
  obtain ⟨f, r2, hf⟩ : ∃ f r2, byteS l plainB r1 = (f, r2) := ⟨_, _, rfl⟩
  obtain ⟨n, r3, hn⟩ : ∃ n r3, numS l 4294967295 r2 = (n, r3) := ⟨_, _, rfl⟩
  have HE := Lib.hid (show varS l r = (⟨a, f, (n : Int), false, false⟩, r3) by unfold varS; simp only [ha, hf, hn])
  have HA := Lib.hid ha
  have HF := Lib.hid hf
  have HN := Lib.hid hn
  clear ha hf hn hR hB
  go_enter Try.func54, Try.ntmps54
  go_upto_region 1 with fail
  generalize w.alloc (.cells zVar 73) = w0 at KB0 KZ0 HR0 HT0 ⊢
  go_cut [2] from 2 to 7 (fun s2 wx => ∃ gv, s2 = .pointer (some ⟨gv, 0, none⟩) ∧ w.heap.size < gv ∧ Hid (Box wx Bs g) ∧ Hid (Blk wx w.heap.size zVar 73) ∧ Hid (Blk wx gv (vcells ⟨a, f, 0, false, false⟩) 73) ∧ Hid (RdAt wx g v l r2) ∧ Hid (Touch w wx [g]))
  case first =>
    refine wp_region_held_drew (S := (fun w' => Hid (w'.cell? ⟨Bs, 0, none⟩ = some (.pointer (some ⟨g, 0, none⟩))))) (by kernel_rfl) (Lib.hid (KB0.out.cell 0)) (fun hHeld0 => ?_)
    clear hHeld0
    have KBd := Lib.hid KB0.out.drew
    have KZd := Lib.hid KZ0.out.drew
    have HRd := Lib.hid (show RdAt w0.drew g v l r from HR0.out.drewN 1)
    have HTd := Lib.hid (show Touch w w0.drew [g] from HT0.out.trans ((Touch.drewN w0 1).mono (fun x h => by cases h)) (fun x h _ => h))
    generalize w0.drew = wd at KBd KZd HRd HTd ⊢
    have hHeld : (fun w' => Hid (w'.cell? ⟨Bs, 0, none⟩ = some (.pointer (some ⟨g, 0, none⟩)))) wd := Lib.hid (KBd.out.cell 0)
    refine tke 0 (v := ?v0a) ?hy0a hHeld ?rest0a
    case hy0a => intro wq qT; have q1 := qT.out; clear qT; simp only [List.getElem_toArray, List.getElem_cons_zero, List.getElem_cons_succ]; go_simp; try with_reducible rfl
    refine tke 2 (v := ?v2a) ?hy2a hHeld ?rest2a
    case hy2a => intro wq qT; have q1 := qT.out; clear qT; simp only [List.getElem_toArray, List.getElem_cons_zero, List.getElem_cons_succ]; go_simp; try with_reducible rfl
    refine wpAnyH_ready (rs := [1, 5]) (by kernel_rfl) (by simp) ?_
    refine AllReadyH.cons (o := _) rfl (fun K hK => ?_) (AllReadyH.cons (o := _) rfl (fun K hK => ?_) AllReadyH.nil)
    · skip
      try simp only [List.getElem_toArray, List.getElem_cons_zero, List.getElem_cons_succ]
      go_simp
      go_at_call 50
      refine (text_r HRd.out 20 (by decide)).mono ?_
      rintro e w1 ⟨rfl, hr, ht⟩
      have KB1 := Lib.hid (ht.blk KBd.out (by simpa using hBg))
      have KZ1 := Lib.hid (ht.blk KZd.out (by simp; omega))
      have HT1 := Lib.hid (HTd.out.trans ht (fun x h _ => h))
      have HR1 := Lib.hid hr
      clear hr ht
      simp only [HA.out] at HR1 ⊢
      refine hK.out _ _ (Lib.hid (KB1.out.cell 0)) (fun _ => ?_)
      refine wpAnyH_ready (rs := [3, 5]) (by kernel_rfl) (by simp) ?_
      refine AllReadyH.cons (o := _) rfl (fun K hK => ?_) (AllReadyH.cons (o := _) rfl (fun K hK => ?_) AllReadyH.nil)
      · skip
        try simp only [List.getElem_toArray, List.getElem_cons_zero, List.getElem_cons_succ]
        go_simp
        go_at_call 55
        refine (byte_r HR1.out asks_plain).mono ?_
        rintro e w2 ⟨rfl, hr, ht⟩
        have KB2 := Lib.hid (ht.blk KB1.out (by simpa using hBg))
        have KZ2 := Lib.hid (ht.blk KZ1.out (by simp; omega))
        have HT2 := Lib.hid (HT1.out.trans ht (fun x h _ => h))
        have HR2 := Lib.hid hr
        clear hr ht
        simp only [HF.out] at HR2 ⊢
        refine hK.out _ _ (Lib.hid (KB2.out.cell 0)) (fun _ => ?_)
        refine tke 4 (v := ?v4p) ?hy4p (Lib.hid (KB2.out.cell 0)) ?rest4p
        case hy4p => intro wq qT; clear qT; simp only [List.getElem_toArray, List.getElem_cons_zero, List.getElem_cons_succ]; go_simp; try with_reducible rfl
        refine wpAnyH_ready (rs := [5]) (by kernel_rfl) (by simp) ?_
        refine AllReadyH.cons (o := _) rfl (fun K hK => ?_) AllReadyH.nil
        try simp only [List.getElem_toArray, List.getElem_cons_zero, List.getElem_cons_succ]
        go_simp
        have KB3 := Lib.hid (KB2.out.old (.cells zVar 73))
        have KZ3 := Lib.hid (KZ2.out.old (.cells zVar 73))
        have KV3 := Lib.hid (Blk.new w2 zVar 73)
        have HR3 := Lib.hid (HR2.out.new zVar 73)
        have HT3 := Lib.hid (HT2.out.trans ((Touch.alloc w2 (.cells zVar 73)).mono (r' := [g]) (fun x h => by cases h)) (fun x h _ => h))
        have hgv := KZ2.out.lt
        refine hK.out _ _ (Lib.hid (KB3.out.cell 0)) (fun _ => ?_)
        generalize w2.heap.size = gv at KV3 hgv ⊢
        generalize w2.alloc (.cells zVar 73) = w3 at KB3 KZ3 KV3 HR3 HT3 ⊢
        refine wpAnyH_ready (rs := [6]) (by kernel_rfl) (by simp) ?_
        refine AllReadyH.cons (o := _) rfl (fun K hK => ?_) AllReadyH.nil
        have hst := store_blk (ty := 73) sz_var KV3.out rfl rfl (vcells_one ⟨a, f, 0, false, false⟩)
        try simp only [List.getElem_toArray, List.getElem_cons_zero, List.getElem_cons_succ]
        go_simp
        have KB9 := Lib.hid (KB3.out.farRow (k := gv) (by have := KB3.out.lt; omega) (vcells ⟨a, f, 0, false, false⟩))
        have KZ9 := Lib.hid (KZ3.out.farRow (k := gv) (Nat.ne_of_lt hgv) (vcells ⟨a, f, 0, false, false⟩))
        have KV9 := Lib.hid (KV3.out.setRow (vcells ⟨a, f, 0, false, false⟩))
        have HR9 := Lib.hid (HR3.out.touch (Touch.row w3 gv (vcells ⟨a, f, 0, false, false⟩)) (fun x hx => by simp only [List.mem_singleton] at hx; subst hx; omega))
        have HT9 := Lib.hid (Touch.trans HT3.out ((Touch.row w3 gv (vcells ⟨a, f, 0, false, false⟩)).mono (r' := [gv]) (fun x h => h)) (fun x hx hlt => by simp only [List.mem_singleton] at hx; omega))
        refine hK.out _ _ (Lib.hid (KB9.out.cell 0)) (fun _ => ?_)
        refine wpAnyH_done (by kernel_rfl) ?_ _
        go_wp2_with fail
        go_meet
        exact ⟨gv, rfl, hgv, KB9, KZ9, KV9, HR9, HT9⟩
      · skip
        try simp only [List.getElem_toArray, List.getElem_cons_zero, List.getElem_cons_succ]
        go_simp
        have KB2 := Lib.hid (KB1.out.old (.cells zVar 73))
        have KZ2 := Lib.hid (KZ1.out.old (.cells zVar 73))
        have KV2 := Lib.hid (Blk.new w1 zVar 73)
        have HR2 := Lib.hid (HR1.out.new zVar 73)
        have HT2 := Lib.hid (HT1.out.trans ((Touch.alloc w1 (.cells zVar 73)).mono (r' := [g]) (fun x h => by cases h)) (fun x h _ => h))
        have hgv := KZ1.out.lt
        refine hK.out _ _ (Lib.hid (KB2.out.cell 0)) (fun _ => ?_)
        generalize w1.heap.size = gv at KV2 hgv ⊢
        generalize w1.alloc (.cells zVar 73) = w2 at KB2 KZ2 KV2 HR2 HT2 ⊢
        refine wpAnyH_ready (rs := [3]) (by kernel_rfl) (by simp) ?_
        refine AllReadyH.cons (o := _) rfl (fun K hK => ?_) AllReadyH.nil
        try simp only [List.getElem_toArray, List.getElem_cons_zero, List.getElem_cons_succ]
        go_simp
        go_at_call 55
        refine (byte_r HR2.out asks_plain).mono ?_
        rintro e w3 ⟨rfl, hr, ht⟩
        have KB3 := Lib.hid (ht.blk KB2.out (by simpa using hBg))
        have KZ3 := Lib.hid (ht.blk KZ2.out (by simp; omega))
        have KV3 := Lib.hid (ht.blk KV2.out (by simp; omega))
        have HT3 := Lib.hid (HT2.out.trans ht (fun x h _ => h))
        have HR3 := Lib.hid hr
        clear hr ht
        simp only [HF.out] at HR3 ⊢
        refine hK.out _ _ (Lib.hid (KB3.out.cell 0)) (fun _ => ?_)
        refine tke 4 (v := ?v4q) ?hy4q (Lib.hid (KB3.out.cell 0)) ?rest4q
        case hy4q => intro wq qT; clear qT; simp only [List.getElem_toArray, List.getElem_cons_zero, List.getElem_cons_succ]; go_simp; try with_reducible rfl
        refine wpAnyH_ready (rs := [6]) (by kernel_rfl) (by simp) ?_
        refine AllReadyH.cons (o := _) rfl (fun K hK => ?_) AllReadyH.nil
        have hst := store_blk (ty := 73) sz_var KV3.out rfl rfl (vcells_one ⟨a, f, 0, false, false⟩)
        try simp only [List.getElem_toArray, List.getElem_cons_zero, List.getElem_cons_succ]
        go_simp
        have KB9 := Lib.hid (KB3.out.farRow (k := gv) (by have := KB3.out.lt; omega) (vcells ⟨a, f, 0, false, false⟩))
        have KZ9 := Lib.hid (KZ3.out.farRow (k := gv) (Nat.ne_of_lt hgv) (vcells ⟨a, f, 0, false, false⟩))
        have KV9 := Lib.hid (KV3.out.setRow (vcells ⟨a, f, 0, false, false⟩))
        have HR9 := Lib.hid (HR3.out.touch (Touch.row w3 gv (vcells ⟨a, f, 0, false, false⟩)) (fun x hx => by simp only [List.mem_singleton] at hx; subst hx; omega))
        have HT9 := Lib.hid (Touch.trans HT3.out ((Touch.row w3 gv (vcells ⟨a, f, 0, false, false⟩)).mono (r' := [gv]) (fun x h => h)) (fun x hx hlt => by simp only [List.mem_singleton] at hx; omega))
        refine hK.out _ _ (Lib.hid (KB9.out.cell 0)) (fun _ => ?_)
        refine wpAnyH_done (by kernel_rfl) ?_ _
        go_wp2_with fail
        go_meet
        exact ⟨gv, rfl, hgv, KB9, KZ9, KV9, HR9, HT9⟩
    · skip
      try simp only [List.getElem_toArray, List.getElem_cons_zero, List.getElem_cons_succ]
      go_simp
      have KB1 := Lib.hid (KBd.out.old (.cells zVar 73))
      have KZ1 := Lib.hid (KZd.out.old (.cells zVar 73))
      have KV1 := Lib.hid (Blk.new wd zVar 73)
      have HR1 := Lib.hid (HRd.out.new zVar 73)
      have HT1 := Lib.hid (HTd.out.trans ((Touch.alloc wd (.cells zVar 73)).mono (r' := [g]) (fun x h => by cases h)) (fun x h _ => h))
      have hgv := KZd.out.lt
      refine hK.out _ _ (Lib.hid (KB1.out.cell 0)) (fun _ => ?_)
      generalize wd.heap.size = gv at KV1 hgv ⊢
      generalize wd.alloc (.cells zVar 73) = w1 at KB1 KZ1 KV1 HR1 HT1 ⊢
      refine wpAnyH_ready (rs := [1]) (by kernel_rfl) (by simp) ?_
      refine AllReadyH.cons (o := _) rfl (fun K hK => ?_) AllReadyH.nil
      try simp only [List.getElem_toArray, List.getElem_cons_zero, List.getElem_cons_succ]
      go_simp
      go_at_call 50
      refine (text_r HR1.out 20 (by decide)).mono ?_
      rintro e w2 ⟨rfl, hr, ht⟩
      have KB2 := Lib.hid (ht.blk KB1.out (by simpa using hBg))
      have KZ2 := Lib.hid (ht.blk KZ1.out (by simp; omega))
      have KV2 := Lib.hid (ht.blk KV1.out (by simp; omega))
      have HT2 := Lib.hid (HT1.out.trans ht (fun x h _ => h))
      have HR2 := Lib.hid hr
      clear hr ht
      simp only [HA.out] at HR2 ⊢
      refine hK.out _ _ (Lib.hid (KB2.out.cell 0)) (fun _ => ?_)
      refine wpAnyH_ready (rs := [3]) (by kernel_rfl) (by simp) ?_
      refine AllReadyH.cons (o := _) rfl (fun K hK => ?_) AllReadyH.nil
      try simp only [List.getElem_toArray, List.getElem_cons_zero, List.getElem_cons_succ]
      go_simp
      go_at_call 55
      refine (byte_r HR2.out asks_plain).mono ?_
      rintro e w3 ⟨rfl, hr, ht⟩
      have KB3 := Lib.hid (ht.blk KB2.out (by simpa using hBg))
      have KZ3 := Lib.hid (ht.blk KZ2.out (by simp; omega))
      have KV3 := Lib.hid (ht.blk KV2.out (by simp; omega))
      have HT3 := Lib.hid (HT2.out.trans ht (fun x h _ => h))
      have HR3 := Lib.hid hr
      clear hr ht
      simp only [HF.out] at HR3 ⊢
      refine hK.out _ _ (Lib.hid (KB3.out.cell 0)) (fun _ => ?_)
      refine tke 4 (v := ?v4r) ?hy4r (Lib.hid (KB3.out.cell 0)) ?rest4r
      case hy4r => intro wq qT; clear qT; simp only [List.getElem_toArray, List.getElem_cons_zero, List.getElem_cons_succ]; go_simp; try with_reducible rfl
      refine wpAnyH_ready (rs := [6]) (by kernel_rfl) (by simp) ?_
      refine AllReadyH.cons (o := _) rfl (fun K hK => ?_) AllReadyH.nil
      have hst := store_blk (ty := 73) sz_var KV3.out rfl rfl (vcells_one ⟨a, f, 0, false, false⟩)
      try simp only [List.getElem_toArray, List.getElem_cons_zero, List.getElem_cons_succ]
      go_simp
      have KB9 := Lib.hid (KB3.out.farRow (k := gv) (by have := KB3.out.lt; omega) (vcells ⟨a, f, 0, false, false⟩))
      have KZ9 := Lib.hid (KZ3.out.farRow (k := gv) (Nat.ne_of_lt hgv) (vcells ⟨a, f, 0, false, false⟩))
      have KV9 := Lib.hid (KV3.out.setRow (vcells ⟨a, f, 0, false, false⟩))
      have HR9 := Lib.hid (HR3.out.touch (Touch.row w3 gv (vcells ⟨a, f, 0, false, false⟩)) (fun x hx => by simp only [List.mem_singleton] at hx; subst hx; omega))
      have HT9 := Lib.hid (Touch.trans HT3.out ((Touch.row w3 gv (vcells ⟨a, f, 0, false, false⟩)).mono (r' := [gv]) (fun x h => h)) (fun x hx hlt => by simp only [List.mem_singleton] at hx; omega))
      refine hK.out _ _ (Lib.hid (KB9.out.cell 0)) (fun _ => ?_)
      refine wpAnyH_done (by kernel_rfl) ?_ _
      go_wp2_with fail
      go_meet
      exact ⟨gv, rfl, hgv, KB9, KZ9, KV9, HR9, HT9⟩
  case rest =>
    obtain ⟨gv, rfl, hgv, KB9, KZ9, KV9, HR9, HT9⟩ := hcut
    clear KB0 KZ0 HR0 HT0
    have b9 := KB9.out.cell 0
    go_wp2_with fail
    refine (number_r HR9.out 4294967295 (by decide)).mono ?_
    rintro e w4 ⟨rfl, hr, ht⟩
    have KZ4 := Lib.hid (ht.blk KZ9.out (by simp; omega))
    have KV4 := Lib.hid (ht.blk KV9.out (by simp; omega))
    have HT4 := Lib.hid (HT9.out.trans ht (fun x h _ => h))
    simp only [HN.out] at hr ⊢
    have HR4 := Lib.hid hr
    clear hr ht b9 KB9 KZ9 KV9 HR9 HT9
    have c2 := KV4.out.cell 2
    have f2 := KV4.out.frozen 2
    have KV5 : Hid (Blk (w4.setCell ⟨gv, 2, none⟩ (.int .i64 (n : Int))) gv (vcells ⟨a, f, (n : Int), false, false⟩) 73) := Lib.hid (KV4.out.set 2 _)
    have KZ5 := Lib.hid (KZ4.out.far (p := ⟨gv, 2, none⟩) (Nat.ne_of_lt hgv) (.int .i64 (n : Int)))
    have HR5 := Lib.hid (HR4.out.touch (Touch.set w4 ⟨gv, 2, none⟩ (.int .i64 (n : Int))) (fun x hx => by simp only [List.mem_singleton] at hx; subst hx; omega))
    have HT5 := Lib.hid (Touch.trans HT4.out ((Touch.set w4 ⟨gv, 2, none⟩ (.int .i64 (n : Int))).mono (r' := [gv]) (fun x h => h)) (fun x hx hlt => by simp only [List.mem_singleton] at hx; omega))
    go_upto_region 3 with fail
    generalize w4.setCell ⟨gv, 2, none⟩ (.int .i64 (n : Int)) = w5 at KV5 KZ5 HR5 HT5 ⊢
    clear c2 f2 KV4 KZ4 HR4 HT4
    have hl5 := load_blk Try.underlying73 rfl sz_var KV5.out rfl
    have hst5 := store_blk sz_var KZ5.out rfl rfl (vcells_one ⟨a, f, (n : Int), false, false⟩)
    have hres := loadVar_blk Try.underlying73 rfl sz_var (KZ5.out.setRow (vcells ⟨a, f, (n : Int), false, false⟩)) rfl
    have HRF := Lib.hid (HR5.out.touch (Touch.row w5 w.heap.size (vcells ⟨a, f, (n : Int), false, false⟩)) (fun x hx => by simp only [List.mem_singleton] at hx; subst hx; omega))
    have HTF := Lib.hid (Touch.trans HT5.out (Touch.row w5 w.heap.size (vcells ⟨a, f, (n : Int), false, false⟩)) (fun x hx hlt => by simp only [List.mem_singleton] at hx; omega))
    go_wp2_with fail
    rw [HE.out]
    refine bodyPost_ret (v := .agg (vcells ⟨a, f, (n : Int), false, false⟩)) ?_ rfl ⟨rfl, HRF.out, HTF.out⟩
    simp [results, Try.results54, asAddr, hres]
end
end Go.Proofs.Ytgemnmceflcpcaa
