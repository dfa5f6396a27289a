/- A constant laid behind bytes. -/
import Derived.Test.YtgemnmceflcpcaaSyS
import Derived.Deep.CutBlock
namespace Go.Proofs.Ytgemnmceflcpcaa
open Go Go.RowKit Go.Lib Go.Proofs.Ytgemnmceflcpcaa.Sy
set_option linter.unusedVariables false
set_option linter.unusedSimpArgs false
attribute [local go_sem ↓] exec_load_const exec_store_const exec_load_var exec_store_var exec_load_proc exec_store_proc
attribute [local go_sem] ccells vcells pcells
def txt (s : ByteArray) : List Int := grps s.size ++ strI s
def wrdB (n : Int) : List Int := [n % 256, n / 256 % 256, n / 65536 % 256, n / 16777216 % 256]
def cstB (c : Cst) : List Int := txt c.name ++ [c.type] ++ (if c.type = 7 then txt c.s else wrdB c.n)
section
variable {w : World}
set_option maxHeartbeats 4000000 in
set_option maxRecDepth 100000 in
theorem putconst_any {v : Value} {l : List Int} (x : Cst) (hF : BytesAt w v l) (h1 : 0 ≤ x.type ∧ x.type ≤ 255) (h2 : x.name.size ≤ 1000) (h3 : x.s.size ≤ 1000) (h4 : -9223372036854775808 ≤ x.n ∧ x.n ≤ 9223372036854775807) (hl : l.length ≤ 50000000) :
    Calls Try.prog 31 #[v, .agg (ccells x)] w (NewB (l ++ cstB x) w) := by
  obtain ⟨nm, ty, n, s, sh⟩ := x
  simp only at h1 h2 h3 h4
  have hm : IntKind.u8.wrap ty = ty := by have := h1.1; have := h1.2; exact IntWalk.u8_in _ ⟨by omega, by omega⟩
  have HB0 := Lib.hid ((Below.refl w.heap.size w).alloc (Nat.le_refl _) (.cells (ccells ⟨nm, ty, n, s, sh⟩) 48))
  have KX := Lib.hid (Blk.new w (ccells ⟨nm, ty, n, s, sh⟩) 48)
  have HG5 := Lib.hid (grps_len5 (n := nm.size) (by omega))
  have HL := Lib.hid hl
  have HLL := Lib.hid (show (l ++ grps nm.size ++ strI nm).length ≤ 60000000 by have := HG5.out; simp only [List.length_append, strI_len]; omega)
  clear hl
  go_enter Try.func31, Try.ntmps31
  go_upto_region 1 with fail
  go_cut [0] from 1 to 2 (fun v3 wx => Hid (Blk wx w.heap.size (ccells ⟨nm, ty, n, s, sh⟩) 48) ∧ Hid (OwnB wx w.heap.size v3 (l ++ grps nm.size ++ strI nm ++ [ty])) ∧ Hid (Below w.heap.size w wx))
  case first =>
    generalize w.alloc (.cells (ccells ⟨nm, ty, n, s, sh⟩) 48) = W1 at KX HB0 ⊢
    refine wp_region_held_drew (S := (fun w' => Hid (Blk w' w.heap.size (ccells ⟨nm, ty, n, s, sh⟩) 48) ∧ Hid (Below w.heap.size w w'))) (by kernel_rfl) ⟨KX, Lib.hid HB0.out.drew⟩ (fun hHeld0 => ?_)
    clear hHeld0
    have KTd : Hid (Blk W1.drew w.heap.size (ccells ⟨nm, ty, n, s, sh⟩) 48) := KX
    have HBd : Hid (Below w.heap.size w W1.drew) := Lib.hid HB0.out.drew
    have HFd := Lib.hid (show BytesAt W1.drew v l from hF.below HB0.out.drew)
    generalize W1.drew = wd at KTd HBd HFd ⊢
    have hHeld : (fun w' => Hid (Blk w' w.heap.size (ccells ⟨nm, ty, n, s, sh⟩) 48) ∧ Hid (Below w.heap.size w w')) wd := ⟨KTd, HBd⟩
    refine tke 0 (v := ?v0a) ?hy0a hHeld ?rest0a
    case hy0a => rintro wq ⟨qT, qB⟩; clear qT qB; simp only [List.getElem_toArray, List.getElem_cons_zero, List.getElem_cons_succ]; go_simp; try with_reducible rfl
    refine tke 1 (v := ?v1a) ?hy1a hHeld ?rest1a
    case hy1a => rintro wq ⟨qT, qB⟩; clear qT qB; simp only [List.getElem_toArray, List.getElem_cons_zero, List.getElem_cons_succ]; go_simp; try with_reducible rfl
    refine tke 2 (v := ?v2a) ?hy2a hHeld ?rest2a
    case hy2a => rintro wq ⟨qT, qB⟩; have l1 := qT.out.cell 0; clear qT qB; simp only [List.getElem_toArray, List.getElem_cons_zero, List.getElem_cons_succ]; go_simp; try with_reducible rfl
    refine tke 4 (v := ?v4a) ?hy4a hHeld ?rest4a
    case hy4a => rintro wq ⟨qT, qB⟩; clear qT qB; simp only [List.getElem_toArray, List.getElem_cons_zero, List.getElem_cons_succ]; go_simp; try with_reducible rfl
    refine tke 5 (v := ?v5a) ?hy5a hHeld ?rest5a
    case hy5a => rintro wq ⟨qT, qB⟩; have l1 := qT.out.cell 1; clear qT qB; simp only [List.getElem_toArray, List.getElem_cons_zero, List.getElem_cons_succ]; go_simp; try with_reducible rfl
    refine tke 6 (v := ?v6a) ?hy6a hHeld ?rest6a
    case hy6a => rintro wq ⟨qT, qB⟩; clear qT qB; simp only [List.getElem_toArray, List.getElem_cons_zero, List.getElem_cons_succ]; go_simp; try with_reducible rfl
    refine wpAnyH_ready (rs := [3, 7]) (by kernel_rfl) (by simp) ?_
    refine AllReadyH.cons (o := _) rfl (fun K hK => ?_) (AllReadyH.cons (o := _) rfl (fun K hK => ?_) AllReadyH.nil)
    · try simp only [List.getElem_toArray, List.getElem_cons_zero, List.getElem_cons_succ]
      go_simp
      go_at_call 29
      refine (puttext_any HFd.out nm h2 (by have := HL.out; omega)).mono ?_
      rintro e w1 ⟨v1, rfl, ho1, hb1⟩
      have HO1 := Lib.hid (own_weak ho1 HBd.out.size)
      have KT1 := Lib.hid (KTd.out.step hb1)
      have HB1 := Lib.hid (HBd.out.trans (hb1.mono HBd.out.size))
      have HW := Lib.hid (fun (g : Nat) (hg : v1.ownBlock = some g) => Nat.lt_of_lt_of_le KTd.out.lt (own_lt ho1 g hg).2)
      clear ho1 hb1
      refine hK.out _ _ ⟨KT1, HB1⟩ (fun _ => ?_)
      refine wpAnyH_ready (rs := [7]) (by kernel_rfl) (by simp) ?_
      refine AllReadyH.cons (o := _) rfl (fun K hK => ?_) AllReadyH.nil
      try simp only [List.getElem_toArray, List.getElem_cons_zero, List.getElem_cons_succ]
      go_simp
      have HO2 := Lib.hid (World.ownsRow.alloc HO1.out (.cells #[.int .u8 ty] 5))
      have KE2 := Lib.hid (Blk.new w1 #[.int .u8 ty] 5)
      have KT2 := Lib.hid (KT1.out.old (.cells #[.int .u8 ty] 5))
      have HB2 := Lib.hid (HB1.out.alloc HB1.out.size (.cells #[.int .u8 ty] 5))
      refine hK.out _ _ ⟨KT2, HB2⟩ (fun _ => ?_)
      refine wpAnyH_ready (rs := [8]) (by kernel_rfl) (by simp) ?_
      refine AllReadyH.cons (o := _) rfl (fun K hK => ?_) AllReadyH.nil
      refine step_appB rfl _ _ (by rfl) [ty] (v := v1) (m := 1) (c := 1) (by rfl) HO2.out (by rfl) rfl (World.news_of_block KE2.out) (by decide) (by have := HLL.out; omega) HB2.out.size ?_
      intro v3 w3 ho3 T3
      have HO3 := Lib.hid ho3
      have HN : ∀ g', v1.ownBlock = some g' → w.heap.size < g' := fun g' hg' => by have := HW.out g' hg'; omega
      have KT3 := Lib.hid (T3.blk KT2.out (fun hm => by simp only [Option.mem_toList, Option.mem_def] at hm; have := HN _ hm; omega))
      have HW3 := Lib.hid (fun (g : Nat) (hg : v3.ownBlock = some g) => (own_lt HO3.out g hg).2)
      have HB3 := Lib.hid (HB2.out.trans (T3.below HB2.out.size (fun g' hm => by simp only [Option.mem_toList, Option.mem_def] at hm; have := HN _ hm; omega)))
      have HF3 := Lib.hid (own_bytes HO3.out)
      clear ho3 T3 HN
      refine hK.out _ _ ⟨KT3, HB3⟩ (fun _ => ?_)
      refine tke 9 (v := ?v9a1) ?hy9a1 ⟨KT3, HB3⟩ ?rest9a1
      case hy9a1 => rintro wq ⟨qT, qB⟩; clear qT qB; simp only [List.getElem_toArray, List.getElem_cons_zero, List.getElem_cons_succ]; go_simp; try with_reducible rfl
      refine wpAnyH_done (by kernel_rfl) ?_ _
      go_wp2_with fail
      go_meet
      exact ⟨KT3, HO3, HB3⟩
    · try simp only [List.getElem_toArray, List.getElem_cons_zero, List.getElem_cons_succ]
      go_simp
      have HF1 := Lib.hid (RowsAt.below HFd.out ((Below.refl _ wd).alloc (Nat.le_refl _) (.cells #[.int .u8 ty] 5)))
      have KE1 := Lib.hid (Blk.new wd #[.int .u8 ty] 5)
      have KT1 := Lib.hid (KTd.out.old (.cells #[.int .u8 ty] 5))
      have HB1 := Lib.hid (HBd.out.alloc HBd.out.size (.cells #[.int .u8 ty] 5))
      refine hK.out _ _ ⟨KT1, HB1⟩ (fun _ => ?_)
      refine wpAnyH_ready (rs := [3]) (by kernel_rfl) (by simp) ?_
      refine AllReadyH.cons (o := _) rfl (fun K hK => ?_) AllReadyH.nil
      try simp only [List.getElem_toArray, List.getElem_cons_zero, List.getElem_cons_succ]
      go_simp
      go_at_call 29
      refine (puttext_any HF1.out nm h2 (by have := HL.out; omega)).mono ?_
      rintro e w2 ⟨v1, rfl, ho1, hb1⟩
      have HO2 := Lib.hid (own_weak ho1 HB1.out.size)
      have KT2 := Lib.hid (KT1.out.step hb1)
      have KE2 := Lib.hid (KE1.out.step hb1)
      have HB2 := Lib.hid (HB1.out.trans (hb1.mono HB1.out.size))
      have HW := Lib.hid (fun (g : Nat) (hg : v1.ownBlock = some g) => Nat.lt_of_lt_of_le KT1.out.lt (own_lt ho1 g hg).2)
      clear ho1 hb1
      refine hK.out _ _ ⟨KT2, HB2⟩ (fun _ => ?_)
      refine wpAnyH_ready (rs := [8]) (by kernel_rfl) (by simp) ?_
      refine AllReadyH.cons (o := _) rfl (fun K hK => ?_) AllReadyH.nil
      refine step_appB rfl _ _ (by rfl) [ty] (v := v1) (m := 1) (c := 1) (by rfl) HO2.out (by rfl) rfl (World.news_of_block KE2.out) (by decide) (by have := HLL.out; omega) HB2.out.size ?_
      intro v3 w3 ho3 T3
      have HO3 := Lib.hid ho3
      have HN : ∀ g', v1.ownBlock = some g' → w.heap.size < g' := fun g' hg' => by have := HW.out g' hg'; omega
      have KT3 := Lib.hid (T3.blk KT2.out (fun hm => by simp only [Option.mem_toList, Option.mem_def] at hm; have := HN _ hm; omega))
      have HW3 := Lib.hid (fun (g : Nat) (hg : v3.ownBlock = some g) => (own_lt HO3.out g hg).2)
      have HB3 := Lib.hid (HB2.out.trans (T3.below HB2.out.size (fun g' hm => by simp only [Option.mem_toList, Option.mem_def] at hm; have := HN _ hm; omega)))
      have HF3 := Lib.hid (own_bytes HO3.out)
      clear ho3 T3 HN
      refine hK.out _ _ ⟨KT3, HB3⟩ (fun _ => ?_)
      refine tke 9 (v := ?v9b1) ?hy9b1 ⟨KT3, HB3⟩ ?rest9b1
      case hy9b1 => rintro wq ⟨qT, qB⟩; clear qT qB; simp only [List.getElem_toArray, List.getElem_cons_zero, List.getElem_cons_succ]; go_simp; try with_reducible rfl
      refine wpAnyH_done (by kernel_rfl) ?_ _
      go_wp2_with fail
      go_meet
      exact ⟨KT3, HO3, HB3⟩
  case rest =>
    obtain ⟨KT, HO, HB⟩ := hcut
    clear KX HB0
    have l1 := KT.out.cell 1
    have l2 := KT.out.cell 2
    have l3 := KT.out.cell 3
    by_cases h7 : ty = 7
    · subst h7
      have H1 := Lib.hid (puttext_any (own_bytes HO.out) s h3 (by have := HLL.out; rw [List.length_append, List.length_singleton]; omega))
      go_wp2_with (go_at_call 29; refine H1.out.mono ?_; rintro e w4 ⟨v4, rfl, ho4, hb4⟩; have HO4 := Lib.hid ho4; have HB4 := Lib.hid hb4; clear ho4 hb4)
      go_ret
      exact ⟨v4, rfl, by have h := own_weak HO4.out HB.out.size; unfold cstB txt; simp only [if_true, List.append_assoc] at h ⊢; exact h, HB.out.trans (HB4.out.mono HB.out.size)⟩
    · have h7b : (ty == 7) = false := by simpa using h7
      obtain ⟨m, hmm⟩ : ∃ m : Nat, IntKind.u32.wrap n = m ∧ m < 4294967296 ∧ (m : Int) = n % 4294967296 := ⟨(n % 4294967296).toNat, by rw [IntKind.wrap_u32]; omega, by omega, by omega⟩
      obtain ⟨hm1, hm2, hm3⟩ := hmm
      have HM3 := Lib.hid hm3
      clear hm3
      have HOA := Lib.hid (World.ownsRow.alloc HO.out (.cells #[.int .u8 ((m : Int) % 256), .int .u8 ((m : Int) / 256 % 256), .int .u8 ((m : Int) / 65536 % 256), .int .u8 ((m : Int) / 16777216)] 5))
      have HBA := Lib.hid (HB.out.alloc HB.out.size (.cells #[.int .u8 ((m : Int) % 256), .int .u8 ((m : Int) / 256 % 256), .int .u8 ((m : Int) / 65536 % 256), .int .u8 ((m : Int) / 16777216)] 5))
      have HNW := Lib.hid (World.news_of_block (Blk.new wc #[.int .u8 ((m : Int) % 256), .int .u8 ((m : Int) / 256 % 256), .int .u8 ((m : Int) / 65536 % 256), .int .u8 ((m : Int) / 16777216)] 5))
      have HW4 := Lib.hid (show [(m : Int) % 256, (m : Int) / 256 % 256, (m : Int) / 65536 % 256, (m : Int) / 16777216] = wrdB n by
        unfold wrdB; have := HM3.out
        rw [show (m : Int) % 256 = n % 256 from by omega, show (m : Int) / 256 % 256 = n / 256 % 256 from by omega, show (m : Int) / 65536 % 256 = n / 65536 % 256 from by omega, show (m : Int) / 16777216 = n / 16777216 % 256 from by omega])
      go_wp2_with (at_builtin; go_must (refine list_appB rfl _ _ rfl [(m : Int) % 256, (m : Int) / 256 % 256, (m : Int) / 65536 % 256, (m : Int) / 16777216] rfl HOA.out (m := 4) (c := 4) rfl rfl HNW.out ?c4 ?c5 ?_))
      case c4 => have := HLL.out; simp only [List.length_append] at this; omega
      case c5 => have := HBA.out.size; simp at this; omega
      intro v8 w8 ho8 ht8 _
      have HO8 := Lib.hid ho8
      have HB8 := Lib.hid (own_touch_below HOA.out HBA.out ht8)
      clear ho8 ht8
      go_wp2_with fail
      go_ret
      exact ⟨v8, rfl, by have h := HO8.out; rw [HW4.out] at h; unfold cstB txt; simp only [h7, if_false, List.append_assoc] at h ⊢; exact h, HB8.out⟩

end
end Go.Proofs.Ytgemnmceflcpcaa
