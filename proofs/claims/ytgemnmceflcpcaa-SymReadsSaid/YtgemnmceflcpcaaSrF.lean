/- The document's reader: a procedure. -/
import Derived.Test.YtgemnmceflcpcaaSrE
import Derived.Test.YtgemnmceflcpcaaQG
namespace Go.Proofs.Ytgemnmceflcpcaa
open Go Go.RowKit Go.Lib Go.Proofs.Ytgemnmceflcpcaa.Sy Pl
set_option linter.unusedVariables false
set_option linter.unusedSimpArgs false
attribute [local go_sem ↓] exec_load_const exec_store_const exec_load_var exec_store_var exec_load_proc exec_store_proc
theorem Touch.ownNe {w w' : World} {B : Nat} {ty : TypeId} {sz : Nat} {v : Value} {rows : List (List Value)} {gx : Nat} (h : OwnL w B ty sz v rows) (T : Touch w w' [gx]) (hn : ∀ b, v.ownBlock = some b → b ≠ gx) : OwnL w' B ty sz v rows :=
  T.owns h (fun g hg hm => hn g hg (by simpa using hm))
theorem within_plain : within 1 5 = plainB := by funext c; unfold within plainB; rw [Bool.eq_iff_iff]; simp
theorem within_res : within 0 5 = resB := by funext c; unfold within resB; rw [Bool.eq_iff_iff]; simp only [Bool.and_eq_true, decide_eq_true_eq]; omega
theorem byteS_how {l : List Int} (ho : Oct l) (r : Rd) : byteS l (within 0 3) r = byteS l howB r := by
  have e : within 0 3 (l.getD r.pos 0) = howB (l.getD r.pos 0) := by
    have := (oct_getD ho r.pos).1
    unfold within howB; rw [Bool.eq_iff_iff]; simp only [Bool.and_eq_true, decide_eq_true_eq]; omega
  unfold byteS; rw [e]
section
variable {w : World} {g : Nat} {v : Value} {l : List Int}
def RprP (g : Nat) (v : Value) (l : List Int) (w : World) (r' : Rd) (x : Pr) (e : Ending) (w' : World) : Prop :=
  ∃ pv, e = .returned (.agg (pcells x pv)) ∧ OwnL w' w.heap.size 73 5 pv (vrows x.params) ∧ RrAt w' g v l r' ∧ Touch w w' [g]
set_option maxHeartbeats 4000000 in
set_option maxRecDepth 100000 in
theorem rproc_r {r : Rd} (hR : RrAt w g v l r) :
    Calls Try.prog 65 #[.pointer (some ⟨g, 0, none⟩)] w (RprP g v l w (procS l r).2 (procS l r).1) := by
  have hg := hR.blk.lt
  have KZ0 := Lib.hid (Blk.new w zPrc 63)
  have HR0 := Lib.hid (hR.new zPrc 63)
  have HT0 := Lib.hid ((Touch.alloc w (.cells zPrc 63)).mono (r' := [g]) (fun x h => by cases h))
  obtain ⟨a, r1, ha⟩ : ∃ a r1, textS l 20 r = (a, r1) := ⟨_, _, rfl⟩
  obtain ⟨n0, r0, hn⟩ : ∃ n0 r0, numS l 8 r1 = (n0, r0) := ⟨_, _, rfl⟩
  obtain ⟨ps, r2, hp⟩ : ∃ ps r2, rowsS (parS l) n0 r0 = (ps, r2) := ⟨_, _, rfl⟩
  obtain ⟨f, r3, hf⟩ : ∃ f r3, byteS l resB r2 = (f, r3) := ⟨_, _, rfl⟩
  have HE := Lib.hid (show procS l r = (⟨a, ps, f⟩, r3) by unfold procS countS; simp only [ha, hn, hp, hf])
  have hn8 : n0 ≤ 8 := by have := numS_le l 8 r1; rw [hn] at this; exact this
  have HA := Lib.hid ha
  have HN := Lib.hid hn
  have HP := Lib.hid hp
  have HF := Lib.hid hf
  have HO := Lib.hid hR.oct
  obtain ⟨i0, hi, hz0, hz1, hz2⟩ := info_parts info_var
  have HI := Lib.hid hi
  have HZ0 := Lib.hid hz0
  have HZ1 := Lib.hid hz1
  have HZ2 := Lib.hid hz2
  clear ha hn hp hf hR hi hz0 hz1 hz2
  go_enter Try.func65, Try.ntmps65
  go_upto_region 1 with fail
  generalize w.alloc (.cells zPrc 63) = w0 at KZ0 HR0 HT0 ⊢
  go_wp2_with fail
  refine (rtext_r HR0.out 20 (by decide)).mono ?_
  rintro e w1 ⟨rfl, hr, ht⟩
  have KZ1 := Lib.hid (ht.blk KZ0.out (by simp; omega))
  have HT1 := Lib.hid (HT0.out.trans ht (fun x h _ => h))
  simp only [HA.out] at hr ⊢
  have HR1 := Lib.hid hr
  have hst1 := store_blk_new w1 zPrc (pcells ⟨a, [], 0⟩ (.slice none 0 0)) 63 sz_proc rfl rfl (pcells_one _ rfl)
  have KZ2 := Lib.hid (KZ1.out.old (.cells (pcells ⟨a, [], 0⟩ (.slice none 0 0)) 63))
  have KV2 := Lib.hid (Blk.new w1 (pcells ⟨a, [], 0⟩ (.slice none 0 0)) 63)
  have HR2 := Lib.hid (HR1.out.new (pcells ⟨a, [], 0⟩ (.slice none 0 0)) 63)
  have HT2 := Lib.hid (HT1.out.trans ((Touch.alloc w1 (.cells (pcells ⟨a, [], 0⟩ (.slice none 0 0)) 63)).mono (r' := [g]) (fun x h => by cases h)) (fun x h _ => h))
  have hgv := KZ1.out.lt
  clear hr ht KZ0 HR0 HT0 KZ1 HR1 HT1
  go_upto_region 2 with fail
  clear hst1
  generalize w1.heap.size = gv at KV2 hgv ⊢
  generalize w1.alloc (.cells (pcells ⟨a, [], 0⟩ (.slice none 0 0)) 63) = w2 at KZ2 KV2 HR2 HT2 ⊢
  go_wp2_with fail
  refine (rnumber_r HR2.out 8 (by decide)).mono ?_
  rintro e w3 ⟨rfl, hr, ht⟩
  have KZ3 := Lib.hid (ht.blk KZ2.out (by simp; omega))
  have KV3 := Lib.hid (ht.blk KV2.out (by simp; omega))
  have HT3 := Lib.hid (HT2.out.trans ht (fun x h _ => h))
  simp only [HN.out] at hr ⊢
  have HR3 := Lib.hid hr
  clear hr ht KZ2 KV2 HR2 HT2
  go_wp2_with fail
  go_loopw [5] (fun i wr => ∃ (k : Nat) (acc : List Vr) (rk : Rd) (u : Value), i = .int .i64 (acc.length : Nat) ∧ Hid (acc.length + k = n0) ∧ Hid (rowsS (parS l) n0 r0 = (acc ++ (rowsS (parS l) k rk).1, (rowsS (parS l) k rk).2)) ∧ Hid (RrAt wr g v l rk) ∧ Hid (Touch w wr [g]) ∧ Hid (Blk wr gv (pcells ⟨a, acc, 0⟩ u) 63) ∧ Hid (Blk wr w.heap.size zPrc 63) ∧ Hid (OwnL wr (gv + 1) 73 5 u (vrows acc))) (fun i _ => n0 - (intOf i).toNat)
  case atStart => exact ⟨n0, [], r0, _, rfl, Lib.hid (by simp), Lib.hid (by simp), HR3, HT3, KV3, KZ3, Lib.hid (World.ownsRow_nil _ _ _ _)⟩
  case round =>
    obtain ⟨k, acc, rk, u, rfl, HK, HEE, HR, HT, KV, KZ, OW⟩ := hrel
    clear KV3 KZ3 HR3 HT3
    obtain ⟨A, un, uc, hu⟩ := OwnL.form OW.out
    subst hu
    by_cases hk0 : k = 0
    · subst hk0
      have hk1 : (acc.length : Int) = (n0 : Int) := by have := HK.out; omega
      have hps : acc = ps ∧ rk = r2 := by have := HEE.out; rw [HP.out, rowsS_zero, List.append_nil] at this; cases this; exact ⟨rfl, rfl⟩
      obtain ⟨rfl, rfl⟩ := hps
      go_wp2_with fail
      refine (one_any HR.out 0 5).mono ?_
      rintro e w6 ⟨rfl, hr, ht⟩
      have KZ6 := Lib.hid (ht.blk KZ.out (by simp; omega))
      have KV6 := Lib.hid (ht.blk KV.out (by simp; omega))
      have HT6 := Lib.hid (HT.out.trans ht (fun x h _ => h))
      have OW6 := Lib.hid (OwnL.touch OW.out ht (fun x hx => by simp only [List.mem_singleton] at hx; subst hx; omega))
      simp only [within_res, HF.out] at hr ⊢
      have HR6 := Lib.hid hr
      have hgg := KV6.out.lt
      clear hr ht KZ KV HR OW HT
      have c2 := KV6.out.cell 2
      have f2 := KV6.out.frozen 2
      have KV7 : Hid (Blk (w6.setCell ⟨gv, 2, none⟩ (.int .i64 f)) gv (pcells ⟨a, acc, f⟩ (.slice A un uc)) 63) := Lib.hid (KV6.out.set 2 _)
      have KZ7 := Lib.hid (KZ6.out.far (p := ⟨gv, 2, none⟩) (show w.heap.size ≠ gv by omega) (.int .i64 f))
      have HR7 := Lib.hid (HR6.out.touch (Touch.set w6 ⟨gv, 2, none⟩ (.int .i64 f)) (fun x hx => by simp only [List.mem_singleton] at hx; subst hx; omega))
      have OW7 := Lib.hid (OwnL.touch OW6.out (Touch.set w6 ⟨gv, 2, none⟩ (.int .i64 f)) (fun x hx => by simp only [List.mem_singleton] at hx; subst hx; omega))
      have HT7 := Lib.hid (Touch.trans HT6.out ((Touch.set w6 ⟨gv, 2, none⟩ (.int .i64 f)).mono (r' := [gv]) (fun x h => h)) (fun x hx hlt => by simp only [List.mem_singleton] at hx; omega))
      go_upto_region 13 with fail
      generalize w6.setCell ⟨gv, 2, none⟩ (.int .i64 f) = w7 at KV7 KZ7 HR7 OW7 HT7 ⊢
      clear c2 f2 KV6 KZ6 HR6 OW6 HT6
      have pv1 := OwnL.one OW7.out
      have hl5 := load_blk Try.underlying63 rfl sz_proc KV7.out rfl
      have hst5 := store_blk sz_proc KZ7.out rfl rfl (pcells_one ⟨a, acc, f⟩ pv1)
      have hres := loadVar_blk Try.underlying63 rfl sz_proc (KZ7.out.setRow (pcells ⟨a, acc, f⟩ (.slice A un uc))) rfl
      have HRF := Lib.hid (HR7.out.touch (Touch.row w7 w.heap.size (pcells ⟨a, acc, f⟩ (.slice A un uc))) (fun x hx => by simp only [List.mem_singleton] at hx; subst hx; omega))
      have OWF := Lib.hid (OwnL.touch OW7.out (Touch.row w7 w.heap.size (pcells ⟨a, acc, f⟩ (.slice A un uc))) (fun x hx => by simp only [List.mem_singleton] at hx; subst hx; omega))
      have HTF := Lib.hid (Touch.trans HT7.out (Touch.row w7 w.heap.size (pcells ⟨a, acc, f⟩ (.slice A un uc))) (fun x hx hlt => by simp only [List.mem_singleton] at hx; omega))
      go_wp2_with fail
      rw [HE.out]
      refine bodyPost_ret (v := .agg (pcells ⟨a, acc, f⟩ (.slice A un uc))) ?_ rfl ⟨_, rfl, OWF.out.weak (by omega), HRF.out, HTF.out⟩
      simp [results, Try.results65, asAddr, hres]
    · have hk1 : (acc.length : Int) < (n0 : Int) := by have := HK.out; omega
      cases hok : rk.ok with
      | false => 
        have l2 := HR.out.isBad hok
        have hps : acc = ps ∧ rk = r2 := by have := HEE.out; rw [HP.out, rowsS_bad _ _ hok, List.append_nil] at this; cases this; exact ⟨rfl, rfl⟩
        obtain ⟨rfl, rfl⟩ := hps
        clear hok
        go_wp2_with fail
        refine (one_any HR.out 0 5).mono ?_
        rintro e w6 ⟨rfl, hr, ht⟩
        have KZ6 := Lib.hid (ht.blk KZ.out (by simp; omega))
        have KV6 := Lib.hid (ht.blk KV.out (by simp; omega))
        have HT6 := Lib.hid (HT.out.trans ht (fun x h _ => h))
        have OW6 := Lib.hid (OwnL.touch OW.out ht (fun x hx => by simp only [List.mem_singleton] at hx; subst hx; omega))
        simp only [within_res, HF.out] at hr ⊢
        have HR6 := Lib.hid hr
        have hgg := KV6.out.lt
        clear hr ht KZ KV HR OW HT
        have c2 := KV6.out.cell 2
        have f2 := KV6.out.frozen 2
        have KV7 : Hid (Blk (w6.setCell ⟨gv, 2, none⟩ (.int .i64 f)) gv (pcells ⟨a, acc, f⟩ (.slice A un uc)) 63) := Lib.hid (KV6.out.set 2 _)
        have KZ7 := Lib.hid (KZ6.out.far (p := ⟨gv, 2, none⟩) (show w.heap.size ≠ gv by omega) (.int .i64 f))
        have HR7 := Lib.hid (HR6.out.touch (Touch.set w6 ⟨gv, 2, none⟩ (.int .i64 f)) (fun x hx => by simp only [List.mem_singleton] at hx; subst hx; omega))
        have OW7 := Lib.hid (OwnL.touch OW6.out (Touch.set w6 ⟨gv, 2, none⟩ (.int .i64 f)) (fun x hx => by simp only [List.mem_singleton] at hx; subst hx; omega))
        have HT7 := Lib.hid (Touch.trans HT6.out ((Touch.set w6 ⟨gv, 2, none⟩ (.int .i64 f)).mono (r' := [gv]) (fun x h => h)) (fun x hx hlt => by simp only [List.mem_singleton] at hx; omega))
        go_upto_region 13 with fail
        generalize w6.setCell ⟨gv, 2, none⟩ (.int .i64 f) = w7 at KV7 KZ7 HR7 OW7 HT7 ⊢
        clear c2 f2 KV6 KZ6 HR6 OW6 HT6
        have pv1 := OwnL.one OW7.out
        have hl5 := load_blk Try.underlying63 rfl sz_proc KV7.out rfl
        have hst5 := store_blk sz_proc KZ7.out rfl rfl (pcells_one ⟨a, acc, f⟩ pv1)
        have hres := loadVar_blk Try.underlying63 rfl sz_proc (KZ7.out.setRow (pcells ⟨a, acc, f⟩ (.slice A un uc))) rfl
        have HRF := Lib.hid (HR7.out.touch (Touch.row w7 w.heap.size (pcells ⟨a, acc, f⟩ (.slice A un uc))) (fun x hx => by simp only [List.mem_singleton] at hx; subst hx; omega))
        have OWF := Lib.hid (OwnL.touch OW7.out (Touch.row w7 w.heap.size (pcells ⟨a, acc, f⟩ (.slice A un uc))) (fun x hx => by simp only [List.mem_singleton] at hx; subst hx; omega))
        have HTF := Lib.hid (Touch.trans HT7.out (Touch.row w7 w.heap.size (pcells ⟨a, acc, f⟩ (.slice A un uc))) (fun x hx hlt => by simp only [List.mem_singleton] at hx; omega))
        go_wp2_with fail
        rw [HE.out]
        refine bodyPost_ret (v := .agg (pcells ⟨a, acc, f⟩ (.slice A un uc))) ?_ rfl ⟨_, rfl, OWF.out.weak (by omega), HRF.out, HTF.out⟩
        simp [results, Try.results65, asAddr, hres]
      | true =>
        have l2 := HR.out.isOk hok
        obtain ⟨jj, rfl⟩ : ∃ j, k = j + 1 := ⟨k - 1, by omega⟩
        obtain ⟨fx, rb1, hfx⟩ : ∃ fx rb1, byteS l plainB rk = (fx, rb1) := ⟨_, _, rfl⟩
        obtain ⟨h, rb2, hh⟩ : ∃ h rb2, byteS l howB rb1 = (h, rb2) := ⟨_, _, rfl⟩
        have hbd := how_bd HO.out rb1
        rw [hh] at hbd
        simp only at hbd
        have HE2 := Lib.hid (show rowsS (parS l) n0 r0 = ((acc ++ [⟨⟨#[]⟩, fx, 0, decide (h % 2 = 1), decide (2 ≤ h)⟩]) ++ (rowsS (parS l) jj rb2).1, (rowsS (parS l) jj rb2).2) by rw [HEE.out, rowsS_step _ _ hok (show parS l rk = (⟨⟨#[]⟩, fx, 0, decide (h % 2 = 1), decide (2 ≤ h)⟩, rb2) by unfold parS; simp only [hfx, hh])]; simp)
        have HFX := Lib.hid hfx
        have HHX := Lib.hid (show byteS l (within 0 3) rb1 = (h, rb2) by rw [byteS_how HO.out]; exact hh)
        clear hok hfx hh HEE
        go_upto_region 7 with fail
        have hgx := KV.out.lt
        have hux : ∀ b, (Value.slice A un uc).ownBlock = some b → b ≠ wr.heap.size := fun b hb => by have := (OwnL.lt OW.out b hb).1; omega
        have KX4 := Lib.hid (Blk.new wr zVar 73)
        have KV4 := Lib.hid (KV.out.old (.cells zVar 73))
        have KZ4 := Lib.hid (KZ.out.old (.cells zVar 73))
        have HR4 := Lib.hid (HR.out.new zVar 73)
        have OW4 := Lib.hid (OwnL.touch OW.out (Touch.alloc wr (.cells zVar 73)) (fun x h => by cases h))
        have HT4 := Lib.hid (HT.out.trans ((Touch.alloc wr (.cells zVar 73)).mono (r' := [g]) (fun x h => by cases h)) (fun x h _ => h))
        generalize wr.heap.size = gx at KX4 hgx hux ⊢
        generalize wr.alloc (.cells zVar 73) = w4 at KX4 KV4 KZ4 HR4 OW4 HT4 ⊢
        clear l2 KV KZ HR OW HT
        go_wp2_with fail
        refine (one_any HR4.out 1 5).mono ?_
        rintro e w5 ⟨rfl, hr, ht⟩
        have KX5 := Lib.hid (ht.blk KX4.out (by simp; omega))
        have KV5 := Lib.hid (ht.blk KV4.out (by simp; omega))
        have KZ5 := Lib.hid (ht.blk KZ4.out (by simp; omega))
        have OW5 := Lib.hid (OwnL.touch OW4.out ht (fun x hx => by simp only [List.mem_singleton] at hx; subst hx; omega))
        have HT5 := Lib.hid (HT4.out.trans ht (fun x h _ => h))
        simp only [within_plain, HFX.out] at hr ⊢
        have HR5 := Lib.hid hr
        clear hr ht KX4 KV4 KZ4 HR4 OW4 HT4
        have c1 := KX5.out.cell 1
        have ff1 := KX5.out.frozen 1
        go_upto_region 8 with fail
        clear c1 ff1
        have KX6 : Hid (Blk (w5.setCell ⟨gx, 1, none⟩ (.int .i64 fx)) gx (vcells ⟨⟨#[]⟩, fx, 0, false, false⟩) 73) := Lib.hid (KX5.out.set 1 _)
        have KV6 := Lib.hid (KV5.out.far (p := ⟨gx, 1, none⟩) (Nat.ne_of_lt hgx) (.int .i64 fx))
        have KZ6 := Lib.hid (KZ5.out.far (p := ⟨gx, 1, none⟩) (show w.heap.size ≠ gx by omega) (.int .i64 fx))
        have HR6 := Lib.hid (HR5.out.touch (Touch.set w5 ⟨gx, 1, none⟩ (.int .i64 fx)) (fun x hx => by simp only [List.mem_singleton] at hx; subst hx; omega))
        have OW6 := Lib.hid (Touch.ownNe OW5.out (Touch.set w5 ⟨gx, 1, none⟩ (.int .i64 fx)) hux)
        have HT6 := Lib.hid (Touch.trans HT5.out ((Touch.set w5 ⟨gx, 1, none⟩ (.int .i64 fx)).mono (r' := [gx]) (fun x h => h)) (fun x hx hlt => by simp only [List.mem_singleton] at hx; omega))
        generalize w5.setCell ⟨gx, 1, none⟩ (.int .i64 fx) = w6 at KX6 KV6 KZ6 HR6 OW6 HT6 ⊢
        clear KX5 KV5 KZ5 HR5 OW5 HT5
        go_wp2_with fail
        refine (one_any HR6.out 0 3).mono ?_
        rintro e w7 ⟨rfl, hr, ht⟩
        have KX7 := Lib.hid (ht.blk KX6.out (by simp; omega))
        have KV7 := Lib.hid (ht.blk KV6.out (by simp; omega))
        have KZ7 := Lib.hid (ht.blk KZ6.out (by simp; omega))
        have OW7 := Lib.hid (OwnL.touch OW6.out ht (fun x hx => by simp only [List.mem_singleton] at hx; subst hx; omega))
        have HT7 := Lib.hid (HT6.out.trans ht (fun x h _ => h))
        simp only [HHX.out] at hr ⊢
        have HR7 := Lib.hid hr
        clear hr ht KX6 KV6 KZ6 HR6 OW6 HT6
        have h4 : h = 0 ∨ h = 1 ∨ h = 2 ∨ h = 3 := by omega
        rcases h4 with rfl | rfl | rfl | rfl
        · skip
          have c3 := KX7.out.cell 3
          have ff3 := KX7.out.frozen 3
          go_upto_region 10 with fail
          clear c3 ff3
          have KX8 : Hid (Blk (w7.setCell ⟨gx, 3, none⟩ (.bool false)) gx (vcells ⟨⟨#[]⟩, fx, 0, false, false⟩) 73) := Lib.hid (KX7.out.set 3 _)
          have KV8 := Lib.hid (KV7.out.far (p := ⟨gx, 3, none⟩) (Nat.ne_of_lt hgx) (.bool false))
          have KZ8 := Lib.hid (KZ7.out.far (p := ⟨gx, 3, none⟩) (show w.heap.size ≠ gx by omega) (.bool false))
          have HR8 := Lib.hid (HR7.out.touch (Touch.set w7 ⟨gx, 3, none⟩ (.bool false)) (fun x hx => by simp only [List.mem_singleton] at hx; subst hx; omega))
          have OW8 := Lib.hid (Touch.ownNe OW7.out (Touch.set w7 ⟨gx, 3, none⟩ (.bool false)) hux)
          have HT8 := Lib.hid (Touch.trans HT7.out ((Touch.set w7 ⟨gx, 3, none⟩ (.bool false)).mono (r' := [gx]) (fun x h => h)) (fun x hx hlt => by simp only [List.mem_singleton] at hx; omega))
          generalize w7.setCell ⟨gx, 3, none⟩ (.bool false) = w8 at KX8 KV8 KZ8 HR8 OW8 HT8 ⊢
          clear KX7 KV7 KZ7 HR7 OW7 HT7
          have c4 := KX8.out.cell 4
          have ff4 := KX8.out.frozen 4
          go_upto_region 11 with fail
          clear c4 ff4
          have KX9 : Hid (Blk (w8.setCell ⟨gx, 4, none⟩ (.bool false)) gx (vcells ⟨⟨#[]⟩, fx, 0, false, false⟩) 73) := Lib.hid (KX8.out.set 4 _)
          have KV9 := Lib.hid (KV8.out.far (p := ⟨gx, 4, none⟩) (Nat.ne_of_lt hgx) (.bool false))
          have KZ9 := Lib.hid (KZ8.out.far (p := ⟨gx, 4, none⟩) (show w.heap.size ≠ gx by omega) (.bool false))
          have HR9 := Lib.hid (HR8.out.touch (Touch.set w8 ⟨gx, 4, none⟩ (.bool false)) (fun x hx => by simp only [List.mem_singleton] at hx; subst hx; omega))
          have OW9 := Lib.hid (Touch.ownNe OW8.out (Touch.set w8 ⟨gx, 4, none⟩ (.bool false)) hux)
          have HT9 := Lib.hid (Touch.trans HT8.out ((Touch.set w8 ⟨gx, 4, none⟩ (.bool false)).mono (r' := [gx]) (fun x h => h)) (fun x hx hlt => by simp only [List.mem_singleton] at hx; omega))
          generalize w8.setCell ⟨gx, 4, none⟩ (.bool false) = w9 at KX9 KV9 KZ9 HR9 OW9 HT9 ⊢
          clear KX8 KV8 KZ8 HR8 OW8 HT8
          have hlx := load_blk Try.underlying73 rfl sz_var KX9.out rfl
          have c1 := KV9.out.cell 1
          have ff1 := KV9.out.frozen 1
          have hjj : acc.length + (jj + 1) = n0 := HK.out
          go_wp2_with (at_builtin; refine wpList_append_own _ rfl _ _ 23 rfl (gv + 1) 73 i0 (.agg #[.string ⟨#[]⟩, .int .i64 0, .int .i64 0, .bool false, .bool false]) 5 40 Try.underlying23 HI.out HZ0.out HZ1.out HZ2.out rfl (by decide) _ _ _ rfl (World.ownsRow.alloc OW9.out _) ⟨w9.heap.size, 0, none⟩ 1 1 (vcells ⟨⟨#[]⟩, fx, 0, false, false⟩).toList rfl rfl ?d01 ?d02 ?d03 ?d04 ?d05 ?_)
          case d02 => first | exact ⟨rfl, rfl, rfl, rfl, rfl⟩ | exact ⟨rfl, rfl, rfl, rfl⟩ | exact rfl
          case d03 => rw [List.length_map]; unfold maxLen; omega
          case d04 => rw [List.length_map]; omega
          case d05 => have := KX9.out.lt; simp; omega
          intro v' wa hown8 hgrow8 _
          have T8 := Touch.of_grown hgrow8
          have hne : ∀ y ∈ (Value.slice A un uc).ownBlock.toList, gv + 1 ≤ y := fun y hy => by simp only [Option.mem_toList, Option.mem_def] at hy; exact (own_lt OW9.out y hy).2
          have KVa := Lib.hid (T8.blk (KV9.out.old (.cells (vcells ⟨⟨#[]⟩, fx, 0, false, false⟩) 73)) (fun hm => by have := hne _ hm; omega))
          have KZa := Lib.hid (T8.blk (KZ9.out.old (.cells (vcells ⟨⟨#[]⟩, fx, 0, false, false⟩) 73)) (fun hm => by have := hne _ hm; omega))
          have OWa := Lib.hid (show OwnL wa (gv + 1) 73 5 v' (vrows (acc ++ [⟨⟨#[]⟩, fx, 0, false, false⟩])) by unfold vrows; rw [List.map_append]; exact ownL_push (by rw [List.length_map]; exact hown8))
          have HRa := Lib.hid ((HR9.out.new (vcells ⟨⟨#[]⟩, fx, 0, false, false⟩) 73).touch T8 (fun y hy => by have := hne y hy; omega))
          have HTa := Lib.hid (Touch.trans (HT9.out.trans ((Touch.alloc w9 (.cells (vcells ⟨⟨#[]⟩, fx, 0, false, false⟩) 73)).mono (r' := [g]) (fun y h => by cases h)) (fun y h _ => h)) T8 (fun y hy hlt => by have := hne y hy; omega))
          clear hown8 hgrow8 T8 hne c1 ff1 hlx
          obtain ⟨A', un', uc', hv'⟩ := OwnL.form OWa.out
          subst hv'
          have c1 := KVa.out.cell 1
          have ff1 := KVa.out.frozen 1
          have KVb : Hid (Blk (wa.setCell ⟨gv, 1, none⟩ (.slice A' un' uc')) gv (pcells ⟨a, acc ++ [⟨⟨#[]⟩, fx, 0, false, false⟩], 0⟩ (.slice A' un' uc')) 63) := Lib.hid (KVa.out.set 1 _)
          have KZb := Lib.hid (KZa.out.far (p := ⟨gv, 1, none⟩) (show w.heap.size ≠ gv by omega) (.slice A' un' uc'))
          have HRb := Lib.hid (HRa.out.touch (Touch.set wa ⟨gv, 1, none⟩ (.slice A' un' uc')) (fun x hx => by simp only [List.mem_singleton] at hx; subst hx; omega))
          have OWb := Lib.hid (OwnL.touch OWa.out (Touch.set wa ⟨gv, 1, none⟩ (.slice A' un' uc')) (fun x hx => by simp only [List.mem_singleton] at hx; subst hx; omega))
          have HTb := Lib.hid (Touch.trans HTa.out ((Touch.set wa ⟨gv, 1, none⟩ (.slice A' un' uc')).mono (r' := [gv]) (fun x h => h)) (fun x hx hlt => by simp only [List.mem_singleton] at hx; omega))
          clear hux
          go_wp2_with fail
          go_roundw
          case rel => exact ⟨jj, acc ++ [⟨⟨#[]⟩, fx, 0, false, false⟩], rb2, _, by first | go_num | (simp) | rfl, Lib.hid (by simp; omega), HE2, HRb, HTb, KVb, KZb, OWb⟩
          case measure => simp [intOf]; omega
        · skip
          have c3 := KX7.out.cell 3
          have ff3 := KX7.out.frozen 3
          go_upto_region 10 with fail
          clear c3 ff3
          have KX8 : Hid (Blk (w7.setCell ⟨gx, 3, none⟩ (.bool true)) gx (vcells ⟨⟨#[]⟩, fx, 0, true, false⟩) 73) := Lib.hid (KX7.out.set 3 _)
          have KV8 := Lib.hid (KV7.out.far (p := ⟨gx, 3, none⟩) (Nat.ne_of_lt hgx) (.bool true))
          have KZ8 := Lib.hid (KZ7.out.far (p := ⟨gx, 3, none⟩) (show w.heap.size ≠ gx by omega) (.bool true))
          have HR8 := Lib.hid (HR7.out.touch (Touch.set w7 ⟨gx, 3, none⟩ (.bool true)) (fun x hx => by simp only [List.mem_singleton] at hx; subst hx; omega))
          have OW8 := Lib.hid (Touch.ownNe OW7.out (Touch.set w7 ⟨gx, 3, none⟩ (.bool true)) hux)
          have HT8 := Lib.hid (Touch.trans HT7.out ((Touch.set w7 ⟨gx, 3, none⟩ (.bool true)).mono (r' := [gx]) (fun x h => h)) (fun x hx hlt => by simp only [List.mem_singleton] at hx; omega))
          generalize w7.setCell ⟨gx, 3, none⟩ (.bool true) = w8 at KX8 KV8 KZ8 HR8 OW8 HT8 ⊢
          clear KX7 KV7 KZ7 HR7 OW7 HT7
          have c4 := KX8.out.cell 4
          have ff4 := KX8.out.frozen 4
          go_upto_region 11 with fail
          clear c4 ff4
          have KX9 : Hid (Blk (w8.setCell ⟨gx, 4, none⟩ (.bool false)) gx (vcells ⟨⟨#[]⟩, fx, 0, true, false⟩) 73) := Lib.hid (KX8.out.set 4 _)
          have KV9 := Lib.hid (KV8.out.far (p := ⟨gx, 4, none⟩) (Nat.ne_of_lt hgx) (.bool false))
          have KZ9 := Lib.hid (KZ8.out.far (p := ⟨gx, 4, none⟩) (show w.heap.size ≠ gx by omega) (.bool false))
          have HR9 := Lib.hid (HR8.out.touch (Touch.set w8 ⟨gx, 4, none⟩ (.bool false)) (fun x hx => by simp only [List.mem_singleton] at hx; subst hx; omega))
          have OW9 := Lib.hid (Touch.ownNe OW8.out (Touch.set w8 ⟨gx, 4, none⟩ (.bool false)) hux)
          have HT9 := Lib.hid (Touch.trans HT8.out ((Touch.set w8 ⟨gx, 4, none⟩ (.bool false)).mono (r' := [gx]) (fun x h => h)) (fun x hx hlt => by simp only [List.mem_singleton] at hx; omega))
          generalize w8.setCell ⟨gx, 4, none⟩ (.bool false) = w9 at KX9 KV9 KZ9 HR9 OW9 HT9 ⊢
          clear KX8 KV8 KZ8 HR8 OW8 HT8
          have hlx := load_blk Try.underlying73 rfl sz_var KX9.out rfl
          have c1 := KV9.out.cell 1
          have ff1 := KV9.out.frozen 1
          have hjj : acc.length + (jj + 1) = n0 := HK.out
          go_wp2_with (at_builtin; refine wpList_append_own _ rfl _ _ 23 rfl (gv + 1) 73 i0 (.agg #[.string ⟨#[]⟩, .int .i64 0, .int .i64 0, .bool false, .bool false]) 5 40 Try.underlying23 HI.out HZ0.out HZ1.out HZ2.out rfl (by decide) _ _ _ rfl (World.ownsRow.alloc OW9.out _) ⟨w9.heap.size, 0, none⟩ 1 1 (vcells ⟨⟨#[]⟩, fx, 0, true, false⟩).toList rfl rfl ?d11 ?d12 ?d13 ?d14 ?d15 ?_)
          case d12 => first | exact ⟨rfl, rfl, rfl, rfl, rfl⟩ | exact ⟨rfl, rfl, rfl, rfl⟩ | exact rfl
          case d13 => rw [List.length_map]; unfold maxLen; omega
          case d14 => rw [List.length_map]; omega
          case d15 => have := KX9.out.lt; simp; omega
          intro v' wa hown8 hgrow8 _
          have T8 := Touch.of_grown hgrow8
          have hne : ∀ y ∈ (Value.slice A un uc).ownBlock.toList, gv + 1 ≤ y := fun y hy => by simp only [Option.mem_toList, Option.mem_def] at hy; exact (own_lt OW9.out y hy).2
          have KVa := Lib.hid (T8.blk (KV9.out.old (.cells (vcells ⟨⟨#[]⟩, fx, 0, true, false⟩) 73)) (fun hm => by have := hne _ hm; omega))
          have KZa := Lib.hid (T8.blk (KZ9.out.old (.cells (vcells ⟨⟨#[]⟩, fx, 0, true, false⟩) 73)) (fun hm => by have := hne _ hm; omega))
          have OWa := Lib.hid (show OwnL wa (gv + 1) 73 5 v' (vrows (acc ++ [⟨⟨#[]⟩, fx, 0, true, false⟩])) by unfold vrows; rw [List.map_append]; exact ownL_push (by rw [List.length_map]; exact hown8))
          have HRa := Lib.hid ((HR9.out.new (vcells ⟨⟨#[]⟩, fx, 0, true, false⟩) 73).touch T8 (fun y hy => by have := hne y hy; omega))
          have HTa := Lib.hid (Touch.trans (HT9.out.trans ((Touch.alloc w9 (.cells (vcells ⟨⟨#[]⟩, fx, 0, true, false⟩) 73)).mono (r' := [g]) (fun y h => by cases h)) (fun y h _ => h)) T8 (fun y hy hlt => by have := hne y hy; omega))
          clear hown8 hgrow8 T8 hne c1 ff1 hlx
          obtain ⟨A', un', uc', hv'⟩ := OwnL.form OWa.out
          subst hv'
          have c1 := KVa.out.cell 1
          have ff1 := KVa.out.frozen 1
          have KVb : Hid (Blk (wa.setCell ⟨gv, 1, none⟩ (.slice A' un' uc')) gv (pcells ⟨a, acc ++ [⟨⟨#[]⟩, fx, 0, true, false⟩], 0⟩ (.slice A' un' uc')) 63) := Lib.hid (KVa.out.set 1 _)
          have KZb := Lib.hid (KZa.out.far (p := ⟨gv, 1, none⟩) (show w.heap.size ≠ gv by omega) (.slice A' un' uc'))
          have HRb := Lib.hid (HRa.out.touch (Touch.set wa ⟨gv, 1, none⟩ (.slice A' un' uc')) (fun x hx => by simp only [List.mem_singleton] at hx; subst hx; omega))
          have OWb := Lib.hid (OwnL.touch OWa.out (Touch.set wa ⟨gv, 1, none⟩ (.slice A' un' uc')) (fun x hx => by simp only [List.mem_singleton] at hx; subst hx; omega))
          have HTb := Lib.hid (Touch.trans HTa.out ((Touch.set wa ⟨gv, 1, none⟩ (.slice A' un' uc')).mono (r' := [gv]) (fun x h => h)) (fun x hx hlt => by simp only [List.mem_singleton] at hx; omega))
          clear hux
          go_wp2_with fail
          go_roundw
          case rel => exact ⟨jj, acc ++ [⟨⟨#[]⟩, fx, 0, true, false⟩], rb2, _, by first | go_num | (simp) | rfl, Lib.hid (by simp; omega), HE2, HRb, HTb, KVb, KZb, OWb⟩
          case measure => simp [intOf]; omega
        · skip
          have c3 := KX7.out.cell 3
          have ff3 := KX7.out.frozen 3
          go_upto_region 10 with fail
          clear c3 ff3
          have KX8 : Hid (Blk (w7.setCell ⟨gx, 3, none⟩ (.bool false)) gx (vcells ⟨⟨#[]⟩, fx, 0, false, false⟩) 73) := Lib.hid (KX7.out.set 3 _)
          have KV8 := Lib.hid (KV7.out.far (p := ⟨gx, 3, none⟩) (Nat.ne_of_lt hgx) (.bool false))
          have KZ8 := Lib.hid (KZ7.out.far (p := ⟨gx, 3, none⟩) (show w.heap.size ≠ gx by omega) (.bool false))
          have HR8 := Lib.hid (HR7.out.touch (Touch.set w7 ⟨gx, 3, none⟩ (.bool false)) (fun x hx => by simp only [List.mem_singleton] at hx; subst hx; omega))
          have OW8 := Lib.hid (Touch.ownNe OW7.out (Touch.set w7 ⟨gx, 3, none⟩ (.bool false)) hux)
          have HT8 := Lib.hid (Touch.trans HT7.out ((Touch.set w7 ⟨gx, 3, none⟩ (.bool false)).mono (r' := [gx]) (fun x h => h)) (fun x hx hlt => by simp only [List.mem_singleton] at hx; omega))
          generalize w7.setCell ⟨gx, 3, none⟩ (.bool false) = w8 at KX8 KV8 KZ8 HR8 OW8 HT8 ⊢
          clear KX7 KV7 KZ7 HR7 OW7 HT7
          have c4 := KX8.out.cell 4
          have ff4 := KX8.out.frozen 4
          go_upto_region 11 with fail
          clear c4 ff4
          have KX9 : Hid (Blk (w8.setCell ⟨gx, 4, none⟩ (.bool true)) gx (vcells ⟨⟨#[]⟩, fx, 0, false, true⟩) 73) := Lib.hid (KX8.out.set 4 _)
          have KV9 := Lib.hid (KV8.out.far (p := ⟨gx, 4, none⟩) (Nat.ne_of_lt hgx) (.bool true))
          have KZ9 := Lib.hid (KZ8.out.far (p := ⟨gx, 4, none⟩) (show w.heap.size ≠ gx by omega) (.bool true))
          have HR9 := Lib.hid (HR8.out.touch (Touch.set w8 ⟨gx, 4, none⟩ (.bool true)) (fun x hx => by simp only [List.mem_singleton] at hx; subst hx; omega))
          have OW9 := Lib.hid (Touch.ownNe OW8.out (Touch.set w8 ⟨gx, 4, none⟩ (.bool true)) hux)
          have HT9 := Lib.hid (Touch.trans HT8.out ((Touch.set w8 ⟨gx, 4, none⟩ (.bool true)).mono (r' := [gx]) (fun x h => h)) (fun x hx hlt => by simp only [List.mem_singleton] at hx; omega))
          generalize w8.setCell ⟨gx, 4, none⟩ (.bool true) = w9 at KX9 KV9 KZ9 HR9 OW9 HT9 ⊢
          clear KX8 KV8 KZ8 HR8 OW8 HT8
          have hlx := load_blk Try.underlying73 rfl sz_var KX9.out rfl
          have c1 := KV9.out.cell 1
          have ff1 := KV9.out.frozen 1
          have hjj : acc.length + (jj + 1) = n0 := HK.out
          go_wp2_with (at_builtin; refine wpList_append_own _ rfl _ _ 23 rfl (gv + 1) 73 i0 (.agg #[.string ⟨#[]⟩, .int .i64 0, .int .i64 0, .bool false, .bool false]) 5 40 Try.underlying23 HI.out HZ0.out HZ1.out HZ2.out rfl (by decide) _ _ _ rfl (World.ownsRow.alloc OW9.out _) ⟨w9.heap.size, 0, none⟩ 1 1 (vcells ⟨⟨#[]⟩, fx, 0, false, true⟩).toList rfl rfl ?d21 ?d22 ?d23 ?d24 ?d25 ?_)
          case d22 => first | exact ⟨rfl, rfl, rfl, rfl, rfl⟩ | exact ⟨rfl, rfl, rfl, rfl⟩ | exact rfl
          case d23 => rw [List.length_map]; unfold maxLen; omega
          case d24 => rw [List.length_map]; omega
          case d25 => have := KX9.out.lt; simp; omega
          intro v' wa hown8 hgrow8 _
          have T8 := Touch.of_grown hgrow8
          have hne : ∀ y ∈ (Value.slice A un uc).ownBlock.toList, gv + 1 ≤ y := fun y hy => by simp only [Option.mem_toList, Option.mem_def] at hy; exact (own_lt OW9.out y hy).2
          have KVa := Lib.hid (T8.blk (KV9.out.old (.cells (vcells ⟨⟨#[]⟩, fx, 0, false, true⟩) 73)) (fun hm => by have := hne _ hm; omega))
          have KZa := Lib.hid (T8.blk (KZ9.out.old (.cells (vcells ⟨⟨#[]⟩, fx, 0, false, true⟩) 73)) (fun hm => by have := hne _ hm; omega))
          have OWa := Lib.hid (show OwnL wa (gv + 1) 73 5 v' (vrows (acc ++ [⟨⟨#[]⟩, fx, 0, false, true⟩])) by unfold vrows; rw [List.map_append]; exact ownL_push (by rw [List.length_map]; exact hown8))
          have HRa := Lib.hid ((HR9.out.new (vcells ⟨⟨#[]⟩, fx, 0, false, true⟩) 73).touch T8 (fun y hy => by have := hne y hy; omega))
          have HTa := Lib.hid (Touch.trans (HT9.out.trans ((Touch.alloc w9 (.cells (vcells ⟨⟨#[]⟩, fx, 0, false, true⟩) 73)).mono (r' := [g]) (fun y h => by cases h)) (fun y h _ => h)) T8 (fun y hy hlt => by have := hne y hy; omega))
          clear hown8 hgrow8 T8 hne c1 ff1 hlx
          obtain ⟨A', un', uc', hv'⟩ := OwnL.form OWa.out
          subst hv'
          have c1 := KVa.out.cell 1
          have ff1 := KVa.out.frozen 1
          have KVb : Hid (Blk (wa.setCell ⟨gv, 1, none⟩ (.slice A' un' uc')) gv (pcells ⟨a, acc ++ [⟨⟨#[]⟩, fx, 0, false, true⟩], 0⟩ (.slice A' un' uc')) 63) := Lib.hid (KVa.out.set 1 _)
          have KZb := Lib.hid (KZa.out.far (p := ⟨gv, 1, none⟩) (show w.heap.size ≠ gv by omega) (.slice A' un' uc'))
          have HRb := Lib.hid (HRa.out.touch (Touch.set wa ⟨gv, 1, none⟩ (.slice A' un' uc')) (fun x hx => by simp only [List.mem_singleton] at hx; subst hx; omega))
          have OWb := Lib.hid (OwnL.touch OWa.out (Touch.set wa ⟨gv, 1, none⟩ (.slice A' un' uc')) (fun x hx => by simp only [List.mem_singleton] at hx; subst hx; omega))
          have HTb := Lib.hid (Touch.trans HTa.out ((Touch.set wa ⟨gv, 1, none⟩ (.slice A' un' uc')).mono (r' := [gv]) (fun x h => h)) (fun x hx hlt => by simp only [List.mem_singleton] at hx; omega))
          clear hux
          go_wp2_with fail
          go_roundw
          case rel => exact ⟨jj, acc ++ [⟨⟨#[]⟩, fx, 0, false, true⟩], rb2, _, by first | go_num | (simp) | rfl, Lib.hid (by simp; omega), HE2, HRb, HTb, KVb, KZb, OWb⟩
          case measure => simp [intOf]; omega
        · skip
          have c3 := KX7.out.cell 3
          have ff3 := KX7.out.frozen 3
          go_upto_region 10 with fail
          clear c3 ff3
          have KX8 : Hid (Blk (w7.setCell ⟨gx, 3, none⟩ (.bool true)) gx (vcells ⟨⟨#[]⟩, fx, 0, true, false⟩) 73) := Lib.hid (KX7.out.set 3 _)
          have KV8 := Lib.hid (KV7.out.far (p := ⟨gx, 3, none⟩) (Nat.ne_of_lt hgx) (.bool true))
          have KZ8 := Lib.hid (KZ7.out.far (p := ⟨gx, 3, none⟩) (show w.heap.size ≠ gx by omega) (.bool true))
          have HR8 := Lib.hid (HR7.out.touch (Touch.set w7 ⟨gx, 3, none⟩ (.bool true)) (fun x hx => by simp only [List.mem_singleton] at hx; subst hx; omega))
          have OW8 := Lib.hid (Touch.ownNe OW7.out (Touch.set w7 ⟨gx, 3, none⟩ (.bool true)) hux)
          have HT8 := Lib.hid (Touch.trans HT7.out ((Touch.set w7 ⟨gx, 3, none⟩ (.bool true)).mono (r' := [gx]) (fun x h => h)) (fun x hx hlt => by simp only [List.mem_singleton] at hx; omega))
          generalize w7.setCell ⟨gx, 3, none⟩ (.bool true) = w8 at KX8 KV8 KZ8 HR8 OW8 HT8 ⊢
          clear KX7 KV7 KZ7 HR7 OW7 HT7
          have c4 := KX8.out.cell 4
          have ff4 := KX8.out.frozen 4
          go_upto_region 11 with fail
          clear c4 ff4
          have KX9 : Hid (Blk (w8.setCell ⟨gx, 4, none⟩ (.bool true)) gx (vcells ⟨⟨#[]⟩, fx, 0, true, true⟩) 73) := Lib.hid (KX8.out.set 4 _)
          have KV9 := Lib.hid (KV8.out.far (p := ⟨gx, 4, none⟩) (Nat.ne_of_lt hgx) (.bool true))
          have KZ9 := Lib.hid (KZ8.out.far (p := ⟨gx, 4, none⟩) (show w.heap.size ≠ gx by omega) (.bool true))
          have HR9 := Lib.hid (HR8.out.touch (Touch.set w8 ⟨gx, 4, none⟩ (.bool true)) (fun x hx => by simp only [List.mem_singleton] at hx; subst hx; omega))
          have OW9 := Lib.hid (Touch.ownNe OW8.out (Touch.set w8 ⟨gx, 4, none⟩ (.bool true)) hux)
          have HT9 := Lib.hid (Touch.trans HT8.out ((Touch.set w8 ⟨gx, 4, none⟩ (.bool true)).mono (r' := [gx]) (fun x h => h)) (fun x hx hlt => by simp only [List.mem_singleton] at hx; omega))
          generalize w8.setCell ⟨gx, 4, none⟩ (.bool true) = w9 at KX9 KV9 KZ9 HR9 OW9 HT9 ⊢
          clear KX8 KV8 KZ8 HR8 OW8 HT8
          have hlx := load_blk Try.underlying73 rfl sz_var KX9.out rfl
          have c1 := KV9.out.cell 1
          have ff1 := KV9.out.frozen 1
          have hjj : acc.length + (jj + 1) = n0 := HK.out
          go_wp2_with (at_builtin; refine wpList_append_own _ rfl _ _ 23 rfl (gv + 1) 73 i0 (.agg #[.string ⟨#[]⟩, .int .i64 0, .int .i64 0, .bool false, .bool false]) 5 40 Try.underlying23 HI.out HZ0.out HZ1.out HZ2.out rfl (by decide) _ _ _ rfl (World.ownsRow.alloc OW9.out _) ⟨w9.heap.size, 0, none⟩ 1 1 (vcells ⟨⟨#[]⟩, fx, 0, true, true⟩).toList rfl rfl ?d31 ?d32 ?d33 ?d34 ?d35 ?_)
          case d32 => first | exact ⟨rfl, rfl, rfl, rfl, rfl⟩ | exact ⟨rfl, rfl, rfl, rfl⟩ | exact rfl
          case d33 => rw [List.length_map]; unfold maxLen; omega
          case d34 => rw [List.length_map]; omega
          case d35 => have := KX9.out.lt; simp; omega
          intro v' wa hown8 hgrow8 _
          have T8 := Touch.of_grown hgrow8
          have hne : ∀ y ∈ (Value.slice A un uc).ownBlock.toList, gv + 1 ≤ y := fun y hy => by simp only [Option.mem_toList, Option.mem_def] at hy; exact (own_lt OW9.out y hy).2
          have KVa := Lib.hid (T8.blk (KV9.out.old (.cells (vcells ⟨⟨#[]⟩, fx, 0, true, true⟩) 73)) (fun hm => by have := hne _ hm; omega))
          have KZa := Lib.hid (T8.blk (KZ9.out.old (.cells (vcells ⟨⟨#[]⟩, fx, 0, true, true⟩) 73)) (fun hm => by have := hne _ hm; omega))
          have OWa := Lib.hid (show OwnL wa (gv + 1) 73 5 v' (vrows (acc ++ [⟨⟨#[]⟩, fx, 0, true, true⟩])) by unfold vrows; rw [List.map_append]; exact ownL_push (by rw [List.length_map]; exact hown8))
          have HRa := Lib.hid ((HR9.out.new (vcells ⟨⟨#[]⟩, fx, 0, true, true⟩) 73).touch T8 (fun y hy => by have := hne y hy; omega))
          have HTa := Lib.hid (Touch.trans (HT9.out.trans ((Touch.alloc w9 (.cells (vcells ⟨⟨#[]⟩, fx, 0, true, true⟩) 73)).mono (r' := [g]) (fun y h => by cases h)) (fun y h _ => h)) T8 (fun y hy hlt => by have := hne y hy; omega))
          clear hown8 hgrow8 T8 hne c1 ff1 hlx
          obtain ⟨A', un', uc', hv'⟩ := OwnL.form OWa.out
          subst hv'
          have c1 := KVa.out.cell 1
          have ff1 := KVa.out.frozen 1
          have KVb : Hid (Blk (wa.setCell ⟨gv, 1, none⟩ (.slice A' un' uc')) gv (pcells ⟨a, acc ++ [⟨⟨#[]⟩, fx, 0, true, true⟩], 0⟩ (.slice A' un' uc')) 63) := Lib.hid (KVa.out.set 1 _)
          have KZb := Lib.hid (KZa.out.far (p := ⟨gv, 1, none⟩) (show w.heap.size ≠ gv by omega) (.slice A' un' uc'))
          have HRb := Lib.hid (HRa.out.touch (Touch.set wa ⟨gv, 1, none⟩ (.slice A' un' uc')) (fun x hx => by simp only [List.mem_singleton] at hx; subst hx; omega))
          have OWb := Lib.hid (OwnL.touch OWa.out (Touch.set wa ⟨gv, 1, none⟩ (.slice A' un' uc')) (fun x hx => by simp only [List.mem_singleton] at hx; subst hx; omega))
          have HTb := Lib.hid (Touch.trans HTa.out ((Touch.set wa ⟨gv, 1, none⟩ (.slice A' un' uc')).mono (r' := [gv]) (fun x h => h)) (fun x hx hlt => by simp only [List.mem_singleton] at hx; omega))
          clear hux
          go_wp2_with fail
          go_roundw
          case rel => exact ⟨jj, acc ++ [⟨⟨#[]⟩, fx, 0, true, true⟩], rb2, _, by first | go_num | (simp) | rfl, Lib.hid (by simp; omega), HE2, HRb, HTb, KVb, KZb, OWb⟩
          case measure => simp [intOf]; omega
end
end Go.Proofs.Ytgemnmceflcpcaa
