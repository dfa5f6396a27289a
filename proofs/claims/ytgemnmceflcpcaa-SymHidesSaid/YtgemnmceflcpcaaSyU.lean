/- Constants, variables laid, their number ahead; a procedure laid. -/
import Derived.Test.YtgemnmceflcpcaaSyT
namespace Go.Proofs.Ytgemnmceflcpcaa
open Go Go.RowKit Go.Lib Go.Proofs.Ytgemnmceflcpcaa.Sy
set_option linter.unusedVariables false
set_option linter.unusedSimpArgs false
attribute [local go_sem ↓] exec_load_const exec_store_const exec_load_var exec_store_var exec_load_proc exec_store_proc
def cstsB (l : List Cst) : List Int := l.flatMap cstB
def varsB (l : List Vr) : List Int := l.flatMap varB
def prB (p : Pr) : List Int := txt p.name ++ grps p.params.length ++ parsB p.params ++ [p.result]
def prsB (l : List Pr) : List Int := l.flatMap prB
theorem flat_snoc {α : Type} (f : α → List Int) (l : List α) (x : α) : (l ++ [x]).flatMap f = l.flatMap f ++ f x := by simp
theorem flat_take_le {α : Type} (f : α → List Int) (l : List α) (k : Nat) : ((l.take k).flatMap f).length ≤ (l.flatMap f).length := by
  conv => rhs; rw [← List.take_append_drop k l, List.flatMap_append, List.length_append]
  omega
section
variable {w : World}
set_option maxHeartbeats 4000000 in
set_option maxRecDepth 100000 in
theorem row_const {v : Value} {l : List Int} {pv : Value} (ps : List Cst) (hF : BytesAt w v l) (hP : CstsAt w pv ps) (hp : ∀ x ∈ ps, (0 ≤ x.type ∧ x.type ≤ 255) ∧ x.name.size ≤ 1000 ∧ x.s.size ≤ 1000 ∧ (-9223372036854775808 ≤ x.n ∧ x.n ≤ 9223372036854775807)) (hn : ps.length ≤ 200) (hl : (l ++ grps ps.length ++ cstsB ps).length ≤ 50000000) :
    Calls Try.prog 30 #[v, pv, .func (.func 31) #[] #[]] w (NewB (l ++ grps ps.length ++ cstsB ps) w) := by
  have H1 := Lib.hid (putuint_any hF ps.length (by omega) (by simp only [List.length_append] at hl; omega))
  obtain ⟨A, cap, rfl, hc1, hc2, hA⟩ := list_of hP.1 (List.length_map _)
  unfold maxLen at hc2
  have HA := Lib.hid hA
  have HP := Lib.hid hp
  have HL := Lib.hid hl
  have hn1 : (ps.length : Int) ≤ 200 := by omega
  have HAT := Lib.hid hP.2
  clear hF hP hp hl hA
  go_enter Try.func30, Try.ntmps30
  go_wp2_with (go_at_call 77; refine H1.out.mono ?_; rintro e w1 ⟨v1, rfl, ho1, hb1⟩; have HO1 := Lib.hid ho1; have HB1 := Lib.hid hb1; clear ho1 hb1)
  go_loopw [0, 16] (fun u i wr => ∃ k : Nat, k ≤ ps.length ∧ i = .int .i64 k ∧ Hid (OwnB wr w.heap.size u (l ++ grps ps.length ++ cstsB (ps.take k))) ∧ Hid (Below w.heap.size w wr)) (fun _ i _ => ps.length - (intOf i).toNat)
  case atStart => exact ⟨0, Nat.zero_le _, rfl, Lib.hid (by simpa [cstsB] using HO1.out), HB1⟩
  case round =>
    obtain ⟨k, hk, rfl, HO, HB⟩ := hrel
    by_cases hlt : k < ps.length
    · obtain ⟨x, hx⟩ : ∃ x, ps[k]? = some x := ⟨ps[k], List.getElem?_eq_getElem hlt⟩
      rcases HA.out with hz | ⟨b, off, rfl, hb, hr⟩
      · omega
      have hrx := range_below (hr k (ccells x).toList (by rw [List.getElem?_map, hx]; rfl)) HB.out hb
      have hld := load_mid Try.underlying48 rfl sz_const hrx rfl
      have hst := store_blk_new wr #[.string ⟨#[]⟩, .int .i64 0, .int .i64 0, .string ⟨#[]⟩, .bool false] (ccells x) 48 sz_const rfl rfl (ccells_one x)
      have hl2 := load_blk Try.underlying48 rfl sz_const (Blk.new wr (ccells x) 48) rfl
      have hm := List.mem_of_getElem? hx
      have hO2 := World.ownsRow.alloc HO.out (.cells (ccells x) 48)
      have hll : (l ++ grps ps.length ++ cstsB (ps.take k)).length ≤ 50000000 := by
        have h1 := HL.out; have h2 := flat_take_le cstB ps k
        unfold cstsB at *; simp only [List.length_append] at *; omega
      have H2 := Lib.hid (putconst_any (w := wr.alloc (.cells (ccells x) 48)) x (own_bytes hO2) (HP.out x hm).1 (HP.out x hm).2.1 (HP.out x hm).2.2.1 (HP.out x hm).2.2.2 hll)
      have HX := Lib.hid hx
      have hlt1 : (k : Int) < (ps.length : Int) := by omega
      have HB2 := Lib.hid (HB.out.alloc HB.out.size (.cells (ccells x) 48))
      clear hrx hr hx hm hO2 hll
      go_wp2_with (go_at_call 31; refine H2.out.mono ?_; rintro e w3 ⟨v3, rfl, ho3, hb3⟩; have HO3 := Lib.hid (own_weak ho3 HB2.out.size); have HB3 := Lib.hid (HB2.out.trans (hb3.mono HB2.out.size)); clear ho3 hb3)
      go_roundw
      case rel => exact ⟨k + 1, by omega, by go_num, Lib.hid (by have h := HO3.out; unfold cstsB at h ⊢; rw [take_snoc HX.out, flat_snoc, ← List.append_assoc]; exact h), HB3⟩
      case measure => simp [intOf]; omega
    · obtain rfl : k = ps.length := by omega
      go_wp2_with fail
      go_ret
      exact ⟨_, rfl, by have := HO.out; rw [List.take_length] at this; exact this, HB.out⟩
set_option maxHeartbeats 4000000 in
set_option maxRecDepth 100000 in
theorem row_var {v : Value} {l : List Int} {pv : Value} (ps : List Vr) (hF : BytesAt w v l) (hP : VrsAt w pv ps) (hp : ∀ x ∈ ps, plainF x.form ∧ x.name.size ≤ 1000 ∧ 0 ≤ x.len ∧ x.len ≤ 16384) (hn : ps.length ≤ 200) (hl : (l ++ grps ps.length ++ varsB ps).length ≤ 50000000) :
    Calls Try.prog 32 #[v, pv, .func (.func 33) #[] #[]] w (NewB (l ++ grps ps.length ++ varsB ps) w) := by
  have H1 := Lib.hid (putuint_any hF ps.length (by omega) (by simp only [List.length_append] at hl; omega))
  obtain ⟨A, cap, rfl, hc1, hc2, hA⟩ := list_of hP.1 (List.length_map _)
  unfold maxLen at hc2
  have HA := Lib.hid hA
  have HP := Lib.hid hp
  have HL := Lib.hid hl
  have hn1 : (ps.length : Int) ≤ 200 := by omega
  have HAT := Lib.hid hP.2
  clear hF hP hp hl hA
  go_enter Try.func32, Try.ntmps32
  go_wp2_with (go_at_call 77; refine H1.out.mono ?_; rintro e w1 ⟨v1, rfl, ho1, hb1⟩; have HO1 := Lib.hid ho1; have HB1 := Lib.hid hb1; clear ho1 hb1)
  go_loopw [0, 16] (fun u i wr => ∃ k : Nat, k ≤ ps.length ∧ i = .int .i64 k ∧ Hid (OwnB wr w.heap.size u (l ++ grps ps.length ++ varsB (ps.take k))) ∧ Hid (Below w.heap.size w wr)) (fun _ i _ => ps.length - (intOf i).toNat)
  case atStart => exact ⟨0, Nat.zero_le _, rfl, Lib.hid (by simpa [varsB] using HO1.out), HB1⟩
  case round =>
    obtain ⟨k, hk, rfl, HO, HB⟩ := hrel
    by_cases hlt : k < ps.length
    · obtain ⟨x, hx⟩ : ∃ x, ps[k]? = some x := ⟨ps[k], List.getElem?_eq_getElem hlt⟩
      rcases HA.out with hz | ⟨b, off, rfl, hb, hr⟩
      · omega
      have hrx := range_below (hr k (vcells x).toList (by rw [List.getElem?_map, hx]; rfl)) HB.out hb
      have hld := load_mid Try.underlying73 rfl sz_var hrx rfl
      have hst := store_blk_new wr zVar (vcells x) 73 sz_var rfl rfl (vcells_one x)
      have hl2 := load_blk Try.underlying73 rfl sz_var (Blk.new wr (vcells x) 73) rfl
      have hm := List.mem_of_getElem? hx
      have hO2 := World.ownsRow.alloc HO.out (.cells (vcells x) 73)
      have hll : (l ++ grps ps.length ++ varsB (ps.take k)).length ≤ 50000000 := by
        have h1 := HL.out; have h2 := flat_take_le varB ps k
        unfold varsB at *; simp only [List.length_append] at *; omega
      have H2 := Lib.hid (putvar_any (w := wr.alloc (.cells (vcells x) 73)) x (own_bytes hO2) (HP.out x hm).1 (HP.out x hm).2.1 (HP.out x hm).2.2 hll)
      have HX := Lib.hid hx
      have hlt1 : (k : Int) < (ps.length : Int) := by omega
      have HB2 := Lib.hid (HB.out.alloc HB.out.size (.cells (vcells x) 73))
      clear hrx hr hx hm hO2 hll
      go_wp2_with (go_at_call 33; refine H2.out.mono ?_; rintro e w3 ⟨v3, rfl, ho3, hb3⟩; have HO3 := Lib.hid (own_weak ho3 HB2.out.size); have HB3 := Lib.hid (HB2.out.trans (hb3.mono HB2.out.size)); clear ho3 hb3)
      go_roundw
      case rel => exact ⟨k + 1, by omega, by go_num, Lib.hid (by have h := HO3.out; unfold varsB at h ⊢; rw [take_snoc HX.out, flat_snoc, ← List.append_assoc]; exact h), HB3⟩
      case measure => simp [intOf]; omega
    · obtain rfl : k = ps.length := by omega
      go_wp2_with fail
      go_ret
      exact ⟨_, rfl, by have := HO.out; rw [List.take_length] at this; exact this, HB.out⟩
set_option maxHeartbeats 4000000 in
set_option maxRecDepth 100000 in
theorem putproc_any {v : Value} {l : List Int} {pv : Value} (x : Pr) (hF : BytesAt w v l) (hP : VrsAt w pv x.params) (h1 : 0 ≤ x.result ∧ x.result ≤ 255) (h2 : x.name.size ≤ 1000) (h3 : ∀ p ∈ x.params, plainF p.form) (h4 : x.params.length ≤ 200) (hl : (l ++ prB x).length ≤ 40000000) :
    Calls Try.prog 35 #[v, .agg (pcells x pv)] w (NewB (l ++ prB x) w) := by
  obtain ⟨nm, ps, rs⟩ := x
  simp only at h1 h2 h3 h4 hP
  have hm : IntKind.u8.wrap rs = rs := by have := h1.1; have := h1.2; exact IntWalk.u8_in _ ⟨by omega, by omega⟩
  have HB0 := Lib.hid ((Below.refl w.heap.size w).alloc (Nat.le_refl _) (.cells (pcells ⟨nm, ps, rs⟩ pv) 63))
  have KX := Lib.hid (Blk.new w (pcells ⟨nm, ps, rs⟩ pv) 63)
  have HG5 := Lib.hid (grps_len5 (n := nm.size) (by omega))
  have HL := Lib.hid hl
  have HF := Lib.hid hF
  have HLL := Lib.hid (show (l ++ grps nm.size ++ strI nm ++ grps ps.length ++ parsB ps).length ≤ 60000000 by
    have h := hl
    unfold prB txt at h
    simp only [List.length_append] at h ⊢; omega)
  clear hl hF
  go_enter Try.func35, Try.ntmps35
  go_upto_region 1 with fail
  rename_i K0 hK0
  generalize w.alloc (.cells (pcells ⟨nm, ps, rs⟩ pv) 63) = W1 at KX HB0 ⊢
  refine wp_region_held_drew (S := (fun w' => Hid (Blk w' w.heap.size (pcells ⟨nm, ps, rs⟩ pv) 63) ∧ Hid (Below w.heap.size w w'))) (by kernel_rfl) ⟨KX, Lib.hid HB0.out.drew⟩ (fun hHeld0 => ?_)
  clear hHeld0
  have KTd : Hid (Blk W1.drew w.heap.size (pcells ⟨nm, ps, rs⟩ pv) 63) := KX
  have HBd : Hid (Below w.heap.size w W1.drew) := Lib.hid HB0.out.drew
  generalize W1.drew = wd at KTd HBd ⊢
  have hHeld : (fun w' => Hid (Blk w' w.heap.size (pcells ⟨nm, ps, rs⟩ pv) 63) ∧ Hid (Below w.heap.size w w')) wd := ⟨KTd, HBd⟩
  refine tke 0 (v := ?v0a) ?hy0a hHeld ?rest0a
  case hy0a => rintro wq ⟨qT, qB⟩; clear qT qB; simp only [List.getElem_toArray, List.getElem_cons_zero, List.getElem_cons_succ]; go_simp; try with_reducible rfl
  refine tke 1 (v := ?v1a) ?hy1a hHeld ?rest1a
  case hy1a => rintro wq ⟨qT, qB⟩; clear qT qB; simp only [List.getElem_toArray, List.getElem_cons_zero, List.getElem_cons_succ]; go_simp; try with_reducible rfl
  refine tke 2 (v := ?v2a) ?hy2a hHeld ?rest2a
  case hy2a => rintro wq ⟨qT, qB⟩; have l1 := qT.out.cell 0; clear qT qB; simp only [List.getElem_toArray, List.getElem_cons_zero, List.getElem_cons_succ]; go_simp; try with_reducible rfl
  refine tke 4 (v := ?v4a) ?hy4a hHeld ?rest4a
  case hy4a => rintro wq ⟨qT, qB⟩; clear qT qB; simp only [List.getElem_toArray, List.getElem_cons_zero, List.getElem_cons_succ]; go_simp; try with_reducible rfl
  refine tke 5 (v := ?v5a) ?hy5a hHeld ?rest5a
  case hy5a => rintro wq ⟨qT, qB⟩; have l1 := qT.out.cell 1; clear qT qB; simp only [List.getElem_toArray, List.getElem_cons_zero, List.getElem_cons_succ]; go_simp; try with_reducible rfl
  refine tke 7 (v := ?v7a) ?hy7a hHeld ?rest7a
  case hy7a => rintro wq ⟨qT, qB⟩; clear qT qB; simp only [List.getElem_toArray, List.getElem_cons_zero, List.getElem_cons_succ]; go_simp; try with_reducible rfl
  refine tke 8 (v := ?v8a) ?hy8a hHeld ?rest8a
  case hy8a => rintro wq ⟨qT, qB⟩; have l1 := qT.out.cell 2; clear qT qB; simp only [List.getElem_toArray, List.getElem_cons_zero, List.getElem_cons_succ]; go_simp; try with_reducible rfl
  refine tke 9 (v := ?v9a) ?hy9a hHeld ?rest9a
  case hy9a => rintro wq ⟨qT, qB⟩; clear qT qB; simp only [List.getElem_toArray, List.getElem_cons_zero, List.getElem_cons_succ]; go_simp; try with_reducible rfl
  refine wpAnyH_ready (rs := [3, 10]) (by kernel_rfl) (by simp) ?_
  refine AllReadyH.cons (o := _) rfl (fun K hK => ?_) (AllReadyH.cons (o := _) rfl (fun K hK => ?_) AllReadyH.nil)
  · skip
    try simp only [List.getElem_toArray, List.getElem_cons_zero, List.getElem_cons_succ]
    go_simp
    go_at_call 29
    refine (puttext_any (HF.out.below HBd.out) nm h2 (by have := HL.out; simp only [List.length_append] at this; omega)).mono ?_
    rintro e w1 ⟨v1, rfl, ho1, hb1⟩
    have HO1 := Lib.hid (own_weak ho1 HBd.out.size)
    have KT1 := Lib.hid (KTd.out.step hb1)
    have HB1 := Lib.hid (HBd.out.trans (hb1.mono HBd.out.size))
    clear ho1 hb1
    refine hK.out _ _ ⟨KT1, HB1⟩ (fun _ => ?_)
    refine wpAnyH_ready (rs := [6, 10]) (by kernel_rfl) (by simp) ?_
    refine AllReadyH.cons (o := _) rfl (fun K hK => ?_) (AllReadyH.cons (o := _) rfl (fun K hK => ?_) AllReadyH.nil)
    · skip
      try simp only [List.getElem_toArray, List.getElem_cons_zero, List.getElem_cons_succ]
      go_simp
      go_at_call 32
      refine (row_param ps (own_bytes HO1.out) (hP.below HB1.out) h3 (by omega) (by have := HL.out; have := HG5.out; simp only [List.length_append, strI_len] at *; omega)).mono ?_
      rintro e w2 ⟨v2, rfl, ho1, hb1⟩
      have HW := Lib.hid (fun (g : Nat) (hg : v2.ownBlock = some g) => Nat.lt_of_lt_of_le KT1.out.lt (own_lt ho1 g hg).2)
      have HO2 := Lib.hid (own_weak ho1 HB1.out.size)
      have KT2 := Lib.hid (KT1.out.step hb1)
      have HB2 := Lib.hid (HB1.out.trans (hb1.mono HB1.out.size))
      clear ho1 hb1
      refine hK.out _ _ ⟨KT2, HB2⟩ (fun _ => ?_)
      refine wpAnyH_ready (rs := [10]) (by kernel_rfl) (by simp) ?_
      refine AllReadyH.cons (o := _) rfl (fun K hK => ?_) AllReadyH.nil
      try simp only [List.getElem_toArray, List.getElem_cons_zero, List.getElem_cons_succ]
      go_simp
      have HO3 := Lib.hid (World.ownsRow.alloc HO2.out (.cells #[.int .u8 rs] 5))
      have KE3 := Lib.hid (Blk.new w2 #[.int .u8 rs] 5)
      have KT3 := Lib.hid (KT2.out.old (.cells #[.int .u8 rs] 5))
      have HB3 := Lib.hid (HB2.out.alloc HB2.out.size (.cells #[.int .u8 rs] 5))
      refine hK.out _ _ ⟨KT3, HB3⟩ (fun _ => ?_)
      refine wpAnyH_ready (rs := [11]) (by kernel_rfl) (by simp) ?_
      refine AllReadyH.cons (o := _) rfl (fun K hK => ?_) AllReadyH.nil
      refine step_appB rfl _ _ (by rfl) [rs] (v := v2) (m := 1) (c := 1) (by rfl) HO3.out (by rfl) rfl (World.news_of_block KE3.out) (by decide) (by have := HLL.out; omega) HB3.out.size ?_
      intro v9 w9 ho9 T9
      have HO9 := Lib.hid ho9
      have HN : ∀ g', v2.ownBlock = some g' → w.heap.size < g' := fun g' hg' => by have := HW.out g' hg'; omega
      have KT9 := Lib.hid (T9.blk KT3.out (fun hm => by simp only [Option.mem_toList, Option.mem_def] at hm; have := HN _ hm; omega))
      have HB9 := Lib.hid (HB3.out.trans (T9.below HB3.out.size (fun g' hm => by simp only [Option.mem_toList, Option.mem_def] at hm; have := HN _ hm; omega)))
      clear ho9 T9 HN
      refine hK.out _ _ ⟨KT9, HB9⟩ (fun _ => ?_)
      refine tke 12 (v := ?v12a1) ?hy12a1 ⟨KT9, HB9⟩ ?rest12a1
      case hy12a1 => rintro wq ⟨qT, qB⟩; clear qT qB; simp only [List.getElem_toArray, List.getElem_cons_zero, List.getElem_cons_succ]; go_simp; try with_reducible rfl
      refine wpAnyH_done (by kernel_rfl) ?_ _
      refine hK0 _ _ (wp_ret ?_)
      change bodyPost Try.prog _ _ _ _ _
      refine bodyPost_ret (v := v9) ((results_tmp (by rfl) _ _ _).trans (by kernel_rfl)) (by kernel_rfl) ?_
      exact ⟨v9, rfl, by have h := HO9.out; unfold prB txt; simp only [List.append_assoc] at h ⊢; exact h, HB9.out⟩
    · skip
      try simp only [List.getElem_toArray, List.getElem_cons_zero, List.getElem_cons_succ]
      go_simp
      have HO2 := Lib.hid (World.ownsRow.alloc HO1.out (.cells #[.int .u8 rs] 5))
      have KE2 := Lib.hid (Blk.new w1 #[.int .u8 rs] 5)
      have KT2 := Lib.hid (KT1.out.old (.cells #[.int .u8 rs] 5))
      have HB2 := Lib.hid (HB1.out.alloc HB1.out.size (.cells #[.int .u8 rs] 5))
      refine hK.out _ _ ⟨KT2, HB2⟩ (fun _ => ?_)
      refine wpAnyH_ready (rs := [6]) (by kernel_rfl) (by simp) ?_
      refine AllReadyH.cons (o := _) rfl (fun K hK => ?_) AllReadyH.nil
      try simp only [List.getElem_toArray, List.getElem_cons_zero, List.getElem_cons_succ]
      go_simp
      go_at_call 32
      refine (row_param ps (own_bytes HO2.out) (hP.below HB2.out) h3 (by omega) (by have := HL.out; have := HG5.out; simp only [List.length_append, strI_len] at *; omega)).mono ?_
      rintro e w3 ⟨v2, rfl, ho1, hb1⟩
      have HW := Lib.hid (fun (g : Nat) (hg : v2.ownBlock = some g) => Nat.lt_of_lt_of_le KT2.out.lt (own_lt ho1 g hg).2)
      have HO3 := Lib.hid (own_weak ho1 HB2.out.size)
      have KT3 := Lib.hid (KT2.out.step hb1)
      have HB3 := Lib.hid (HB2.out.trans (hb1.mono HB2.out.size))
      have KE3 := Lib.hid (KE2.out.step hb1)
      clear ho1 hb1
      refine hK.out _ _ ⟨KT3, HB3⟩ (fun _ => ?_)
      refine wpAnyH_ready (rs := [11]) (by kernel_rfl) (by simp) ?_
      refine AllReadyH.cons (o := _) rfl (fun K hK => ?_) AllReadyH.nil
      refine step_appB rfl _ _ (by rfl) [rs] (v := v2) (m := 1) (c := 1) (by rfl) HO3.out (by rfl) rfl (World.news_of_block KE3.out) (by decide) (by have := HLL.out; omega) HB3.out.size ?_
      intro v9 w9 ho9 T9
      have HO9 := Lib.hid ho9
      have HN : ∀ g', v2.ownBlock = some g' → w.heap.size < g' := fun g' hg' => by have := HW.out g' hg'; omega
      have KT9 := Lib.hid (T9.blk KT3.out (fun hm => by simp only [Option.mem_toList, Option.mem_def] at hm; have := HN _ hm; omega))
      have HB9 := Lib.hid (HB3.out.trans (T9.below HB3.out.size (fun g' hm => by simp only [Option.mem_toList, Option.mem_def] at hm; have := HN _ hm; omega)))
      clear ho9 T9 HN
      refine hK.out _ _ ⟨KT9, HB9⟩ (fun _ => ?_)
      refine tke 12 (v := ?v12b1) ?hy12b1 ⟨KT9, HB9⟩ ?rest12b1
      case hy12b1 => rintro wq ⟨qT, qB⟩; clear qT qB; simp only [List.getElem_toArray, List.getElem_cons_zero, List.getElem_cons_succ]; go_simp; try with_reducible rfl
      refine wpAnyH_done (by kernel_rfl) ?_ _
      refine hK0 _ _ (wp_ret ?_)
      change bodyPost Try.prog _ _ _ _ _
      refine bodyPost_ret (v := v9) ((results_tmp (by rfl) _ _ _).trans (by kernel_rfl)) (by kernel_rfl) ?_
      exact ⟨v9, rfl, by have h := HO9.out; unfold prB txt; simp only [List.append_assoc] at h ⊢; exact h, HB9.out⟩
  · skip
    try simp only [List.getElem_toArray, List.getElem_cons_zero, List.getElem_cons_succ]
    go_simp
    have KE1 := Lib.hid (Blk.new wd #[.int .u8 rs] 5)
    have KT1 := Lib.hid (KTd.out.old (.cells #[.int .u8 rs] 5))
    have HB1 := Lib.hid (HBd.out.alloc HBd.out.size (.cells #[.int .u8 rs] 5))
    refine hK.out _ _ ⟨KT1, HB1⟩ (fun _ => ?_)
    refine wpAnyH_ready (rs := [3]) (by kernel_rfl) (by simp) ?_
    refine AllReadyH.cons (o := _) rfl (fun K hK => ?_) AllReadyH.nil
    try simp only [List.getElem_toArray, List.getElem_cons_zero, List.getElem_cons_succ]
    go_simp
    go_at_call 29
    refine (puttext_any (HF.out.below HB1.out) nm h2 (by have := HL.out; simp only [List.length_append] at this; omega)).mono ?_
    rintro e w2 ⟨v1, rfl, ho1, hb1⟩
    have HO2 := Lib.hid (own_weak ho1 HB1.out.size)
    have KT2 := Lib.hid (KT1.out.step hb1)
    have HB2 := Lib.hid (HB1.out.trans (hb1.mono HB1.out.size))
    have KE2 := Lib.hid (KE1.out.step hb1)
    clear ho1 hb1
    refine hK.out _ _ ⟨KT2, HB2⟩ (fun _ => ?_)
    refine wpAnyH_ready (rs := [6]) (by kernel_rfl) (by simp) ?_
    refine AllReadyH.cons (o := _) rfl (fun K hK => ?_) AllReadyH.nil
    try simp only [List.getElem_toArray, List.getElem_cons_zero, List.getElem_cons_succ]
    go_simp
    go_at_call 32
    refine (row_param ps (own_bytes HO2.out) (hP.below HB2.out) h3 (by omega) (by have := HL.out; have := HG5.out; simp only [List.length_append, strI_len] at *; omega)).mono ?_
    rintro e w3 ⟨v2, rfl, ho1, hb1⟩
    have HW := Lib.hid (fun (g : Nat) (hg : v2.ownBlock = some g) => Nat.lt_of_lt_of_le KT2.out.lt (own_lt ho1 g hg).2)
    have HO3 := Lib.hid (own_weak ho1 HB2.out.size)
    have KT3 := Lib.hid (KT2.out.step hb1)
    have HB3 := Lib.hid (HB2.out.trans (hb1.mono HB2.out.size))
    have KE3 := Lib.hid (KE2.out.step hb1)
    clear ho1 hb1
    refine hK.out _ _ ⟨KT3, HB3⟩ (fun _ => ?_)
    refine wpAnyH_ready (rs := [11]) (by kernel_rfl) (by simp) ?_
    refine AllReadyH.cons (o := _) rfl (fun K hK => ?_) AllReadyH.nil
    refine step_appB rfl _ _ (by rfl) [rs] (v := v2) (m := 1) (c := 1) (by rfl) HO3.out (by rfl) rfl (World.news_of_block KE3.out) (by decide) (by have := HLL.out; omega) HB3.out.size ?_
    intro v9 w9 ho9 T9
    have HO9 := Lib.hid ho9
    have HN : ∀ g', v2.ownBlock = some g' → w.heap.size < g' := fun g' hg' => by have := HW.out g' hg'; omega
    have KT9 := Lib.hid (T9.blk KT3.out (fun hm => by simp only [Option.mem_toList, Option.mem_def] at hm; have := HN _ hm; omega))
    have HB9 := Lib.hid (HB3.out.trans (T9.below HB3.out.size (fun g' hm => by simp only [Option.mem_toList, Option.mem_def] at hm; have := HN _ hm; omega)))
    clear ho9 T9 HN
    refine hK.out _ _ ⟨KT9, HB9⟩ (fun _ => ?_)
    refine tke 12 (v := ?v12c1) ?hy12c1 ⟨KT9, HB9⟩ ?rest12c1
    case hy12c1 => rintro wq ⟨qT, qB⟩; clear qT qB; simp only [List.getElem_toArray, List.getElem_cons_zero, List.getElem_cons_succ]; go_simp; try with_reducible rfl
    refine wpAnyH_done (by kernel_rfl) ?_ _
    refine hK0 _ _ (wp_ret ?_)
    change bodyPost Try.prog _ _ _ _ _
    refine bodyPost_ret (v := v9) ((results_tmp (by rfl) _ _ _).trans (by kernel_rfl)) (by kernel_rfl) ?_
    exact ⟨v9, rfl, by have h := HO9.out; unfold prB txt; simp only [List.append_assoc] at h ⊢; exact h, HB9.out⟩
end
end Go.Proofs.Ytgemnmceflcpcaa
