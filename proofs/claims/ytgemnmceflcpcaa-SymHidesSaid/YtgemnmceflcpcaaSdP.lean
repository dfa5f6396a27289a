/- Decode. -/
import Derived.Test.YtgemnmceflcpcaaQG
import Derived.StillTailTactics
import Derived.Deep.CutBlock
namespace Go.Proofs.Ytgemnmceflcpcaa
open Go Go.RowKit Go.Lib Go.Proofs.Ytgemnmceflcpcaa.Sy Pl
set_option linter.unusedVariables false
set_option linter.unusedSimpArgs false
attribute [local go_sem ↓] exec_load_const exec_store_const exec_load_var exec_store_var exec_load_proc exec_store_proc exec_load_sym exec_store_sym
@[reducible] def zSym : Array Value := #[.string ⟨#[]⟩, .slice none 0 0, .slice none 0 0, .slice none 0 0]
theorem zSym_one : OneRow zSym := scells_one noSym rfl rfl rfl
/-- What Decode answers. -/
def DecP (l : List Int) (w : World) (e : Ending) (w' : World) : Prop := ∃ (s : Sm) (p er : Int) (cv vv pv : Value) (pvs : List Value), e = .returned (.tuple #[.agg (scells s cv vv pv), .int .i64 p, .int .i64 er]) ∧ DecAns l s p er ∧ SmOwn w' w.heap.size s cv vv pv pvs ∧ Below w.heap.size w w'
section
variable {w : World} {l : List Int}
theorem magic_iff {m : List Int} (hm : Oct m) : ((strOfNums m).toList == [67, 82, 83, 49]) = decide (m = [67, 82, 83, 49]) := by
  rw [Bool.eq_iff_iff, beq_iff_eq, decide_eq_true_iff, ByteArray.toList_eq]
  constructor
  · intro h
    have := strI_of hm
    unfold strI at this
    rw [h] at this
    rw [← this]; rfl
  · rintro rfl; rfl
theorem take_four {v : Value} {b off cap : Nat} (hb : b < w.heap.size) (hc : ∀ i, i < l.length → w.cell? ⟨b, off + i, none⟩ = some (.int .u8 (l.getD i 0))) (h2 : cap ≤ maxLen) (h4 : 4 ≤ l.length) (hcap : l.length ≤ cap) :
    (convert 30 9 (.slice (some ⟨b, off, none⟩) 4 cap)).run Try.prog w = .ok (.string (strOfNums (l.take 4))) w := by
  have := bytes_cut (w := w) hb hc h2 0 4 (by omega) hcap
  exact conv_at this
set_option maxHeartbeats 4000000 in
set_option maxRecDepth 100000 in
theorem decode_head {v : Value} (hF : BytesAt w v l) (ho : Oct l) (hh : ¬ headOk l) :
    Calls Try.prog 18 #[v] w (DecP l w) := by
  obtain ⟨A, cap, rfl, hc1, hc2, hrd⟩ := bytes_form hF
  have HB0 := Lib.hid ((Below.refl w.heap.size w).alloc (Nat.le_refl _) (.cells zSym 26))
  have KZ0 := Lib.hid (Blk.new w zSym 26)
  have hst := store_blk sz_sym KZ0.out rfl rfl zSym_one
  have hres := loadVar_blk Try.underlying26 rfl sz_sym (KZ0.out.setRow zSym) rfl
  have HBF := Lib.hid (belRow HB0.out (Nat.le_refl _) zSym)
  have HH := Lib.hid (DecAns.head hh)
  by_cases h1 : 1048576 < l.length
  · have h1i : (1048576 : Int) < (l.length : Int) := by omega
    unfold maxLen at hc2
    clear hrd hF ho hh
    go_enter Try.func18, Try.ntmps18
    go_wp2_with fail
    refine bodyPost_ret (v := .tuple #[.agg zSym, .int .i64 0, .int .i64 131]) ?_ rfl ⟨noSym, 0, 131, _, _, _, [], rfl, HH.out, noSym_own _ _, HBF.out⟩
    simp [results, Try.results18, asAddr, hres]
  by_cases h4 : l.length < 4
  · have h4i : (l.length : Int) < 4 := by omega
    have h1i : (l.length : Int) ≤ 1048576 := by omega
    unfold maxLen at hc2
    clear hrd hF ho hh
    go_enter Try.func18, Try.ntmps18
    go_wp2_with fail
    refine bodyPost_ret (v := .tuple #[.agg zSym, .int .i64 0, .int .i64 131]) ?_ rfl ⟨noSym, 0, 131, _, _, _, [], rfl, HH.out, noSym_own _ _, HBF.out⟩
    simp [results, Try.results18, asAddr, hres]
  have hm : ((strOfNums (l.take 4)).toList == [67, 82, 83, 49]) = false := by
    rw [magic_iff (oct_take ho 4)]; exact decide_eq_false (fun h => hh ⟨by omega, h⟩)
  obtain ⟨b, off, rfl, hb, hcl⟩ := hrd (by omega)
  have hF0 : BytesAt (w.alloc (.cells zSym 26)) _ l := hF.below HB0.out
  obtain ⟨_, _, e, _, _, hrd0⟩ := bytes_form hF0
  cases e
  obtain ⟨b0, off0, e, hb0, hcl0⟩ := hrd0 (by omega)
  cases e
  have hcv := take_four (v := .slice none 0 0) hb0 hcl0 hc2 (by omega) hc1
  have h4i : 4 ≤ (l.length : Int) := by omega
  have h1i : (l.length : Int) ≤ 1048576 := by omega
  unfold maxLen at hc2
  clear hF ho hh hcl hcl0 hF0
  go_enter Try.func18, Try.ntmps18
  go_wp2_with fail
  refine bodyPost_ret (v := .tuple #[.agg zSym, .int .i64 0, .int .i64 131]) ?_ rfl ⟨noSym, 0, 131, _, _, _, [], rfl, HH.out, noSym_own _ _, HBF.out⟩
  simp [results, Try.results18, asAddr, hres]
set_option maxHeartbeats 8000000 in
set_option maxRecDepth 100000 in
theorem decode_body {v : Value} (hF : BytesAt w v l) (ho : Oct l) (hh : headOk l) :
    Calls Try.prog 18 #[v] w (DecP l w) := by
  have hlen : 4 ≤ l.length := by have := congrArg List.length hh.2; rw [List.length_take] at this; simp at this; omega
  obtain ⟨A, cap, rfl, hc1, hc2, hrd⟩ := bytes_form hF
  have HBz := Lib.hid ((Below.refl w.heap.size w).alloc (Nat.le_refl _) (.cells zSym 26))
  have hm : ((strOfNums (l.take 4)).toList == [67, 82, 83, 49]) = true := by
    rw [magic_iff (oct_take ho 4)]; exact decide_eq_true hh.2
  obtain ⟨b, off, rfl, hb, hcl⟩ := hrd (by omega)
  have hF0 : BytesAt (w.alloc (.cells zSym 26)) _ l := hF.below HBz.out
  obtain ⟨_, _, e, _, _, hrd0⟩ := bytes_form hF0
  cases e
  obtain ⟨b0, off0, e, hb0, hcl0⟩ := hrd0 (by omega)
  cases e
  have hcv := take_four (v := .slice none 0 0) hb0 hcl0 hc2 (by omega) hc1
  have h4i : 4 ≤ (l.length : Int) := by omega
  have h1i : (l.length : Int) ≤ 1048576 := by have := hh.1; omega
  have hmf := hmf_sy
  have HHD := Lib.hid hh
  have HF := Lib.hid hF
  have HO := Lib.hid ho
  have KZ2 := Lib.hid (((Blk.new w zSym 26).old (.cells (rcells (.slice (some ⟨b, off, none⟩) l.length cap) 4 (-1)) 99)).old (.cells #[.pointer (some ⟨w.heap.size + 1, 0, none⟩)] 97))
  have KR2 := (Blk.new (w.alloc (.cells zSym 26)) (rcells (.slice (some ⟨b, off, none⟩) l.length cap) 4 (-1)) 99).old (.cells #[.pointer (some ⟨w.heap.size + 1, 0, none⟩)] 97)
  have KB2 := Blk.new ((w.alloc (.cells zSym 26)).alloc (.cells (rcells (.slice (some ⟨b, off, none⟩) l.length cap) 4 (-1)) 99)) #[.pointer (some ⟨w.heap.size + 1, 0, none⟩)] 97
  have HB2 := Lib.hid ((HBz.out.alloc (by simp) (.cells (rcells (.slice (some ⟨b, off, none⟩) l.length cap) 4 (-1)) 99)).alloc (by simp; omega) (.cells #[.pointer (some ⟨w.heap.size + 1, 0, none⟩)] 97))
  simp only [World.size_alloc] at KR2 KB2
  have HR2 := Lib.hid (show RdAt _ (w.heap.size + 1) (.slice (some ⟨b, off, none⟩) l.length cap) l ⟨4, true⟩ from ⟨KR2, hF.below HB2.out, (fun _ x hx => by cases hx; show b < w.heap.size + 1; omega), ho, by have := hh.1; omega, hlen⟩)
  have KB2 := Lib.hid KB2
  unfold maxLen at hc2
  clear hF ho hh hcl hcl0 hF0 KR2
  go_enter Try.func18, Try.ntmps18
  go_upto_region 4 with fail
  generalize ((w.alloc (.cells zSym 26)).alloc (.cells (rcells (.slice (some ⟨b, off, none⟩) l.length cap) 4 (-1)) 99)).alloc (.cells #[.pointer (some ⟨w.heap.size + 1, 0, none⟩)] 97) = w2 at KZ2 KB2 HB2 HR2 ⊢
  clear hcv hm HBz
  have HT2 := Lib.hid (Touch.refl w2 [w.heap.size + 1])
  have hs2 := KB2.out.lt
  obtain ⟨a, r1, ha⟩ : ∃ a r1, textS l 20 ⟨4, true⟩ = (a, r1) := ⟨_, _, rfl⟩
  obtain ⟨cs, r2, hcs⟩ : ∃ cs r2, countS l (constS l) 200 r1 = (cs, r2) := ⟨_, _, rfl⟩
  obtain ⟨vs, r3, hvs⟩ : ∃ vs r3, countS l (varS l) 200 r2 = (vs, r3) := ⟨_, _, rfl⟩
  obtain ⟨ps, r4, hps⟩ : ∃ ps r4, countS l (procS l) 100 r3 = (ps, r4) := ⟨_, _, rfl⟩
  have HE := Lib.hid (show readS l = (⟨a, cs, vs, ps⟩, if r4.ok = true then ⟨r4.pos, decide (r4.pos = l.length)⟩ else r4) by unfold readS; simp only [ha, hcs, hvs, hps])
  have HA := Lib.hid ha
  have HCS := Lib.hid hcs
  have HVS := Lib.hid hvs
  have HPS := Lib.hid hps
  clear ha hcs hvs hps
  have b2 := KB2.out.cell 0
  go_wp2_with fail
  refine (text_r HR2.out 20 (by decide)).mono ?_
  rintro e w3 ⟨rfl, hr, ht⟩
  have KB3 := Lib.hid (ht.blk KB2.out (by simp))
  have KZ3 := Lib.hid (ht.blk KZ2.out (by simp))
  have HT3 := Lib.hid (HT2.out.trans ht (fun x h _ => h))
  simp only [HA.out] at hr ⊢
  have HR3 := Lib.hid hr
  have hst1 := store_blk_new w3 zSym (scells ⟨a, [], [], []⟩ (.slice none 0 0) (.slice none 0 0) (.slice none 0 0)) 26 sz_sym rfl rfl (scells_one _ rfl rfl rfl)
  have KB4 := Lib.hid (KB3.out.old (.cells (scells ⟨a, [], [], []⟩ (.slice none 0 0) (.slice none 0 0) (.slice none 0 0)) 26))
  have KZ4 := Lib.hid (KZ3.out.old (.cells (scells ⟨a, [], [], []⟩ (.slice none 0 0) (.slice none 0 0) (.slice none 0 0)) 26))
  have KS4 := Lib.hid (Blk.new w3 (scells ⟨a, [], [], []⟩ (.slice none 0 0) (.slice none 0 0) (.slice none 0 0)) 26)
  have HR4 := Lib.hid (HR3.out.new (scells ⟨a, [], [], []⟩ (.slice none 0 0) (.slice none 0 0) (.slice none 0 0)) 26)
  have HT4 := Lib.hid (HT3.out.trans ((Touch.alloc w3 (.cells (scells ⟨a, [], [], []⟩ (.slice none 0 0) (.slice none 0 0) (.slice none 0 0)) 26)).mono (r' := [w.heap.size + 1]) (fun x h => by cases h)) (fun x h _ => h))
  have hs3 := HT3.out.size
  clear hr ht b2 KB2 KZ2 HR2 KB3 KZ3 HR3 HT3 HT2
  go_upto_region 5 with fail
  clear hst1
  have hgs : w.heap.size + 2 < w3.heap.size := by omega
  have hge := hs3
  generalize w3.heap.size = gs at KS4 hgs hge ⊢
  generalize w3.alloc (.cells (scells ⟨a, [], [], []⟩ (.slice none 0 0) (.slice none 0 0) (.slice none 0 0)) 26) = w4 at KB4 KZ4 KS4 HR4 HT4 ⊢
  have b4 := KB4.out.cell 0
  have hs4 := KS4.out.lt
  go_wp2_with fail
  refine (rows_const HR4.out 200 (by decide)).mono ?_
  rintro e w5 ⟨cv, rfl, oc5, hr, ht⟩
  simp only [HCS.out] at hr oc5 ⊢
  have KB5 := Lib.hid (ht.blk KB4.out (by simp))
  have KZ5 := Lib.hid (ht.blk KZ4.out (by simp))
  have KS5 := Lib.hid (ht.blk KS4.out (by simp; omega))
  have HT5 := Lib.hid (HT4.out.trans ht (fun x h _ => h))
  have HR5 := Lib.hid hr
  have hz5 := ht.size
  obtain ⟨A1, n1, p1, rfl⟩ := oc5.form
  have OC5 := Lib.hid (oc5.weak (B' := gs + 1) (by omega))
  clear hr ht oc5 b4 KB4 KZ4 KS4 HR4 HT4
  have c1 := KS5.out.cell 1
  have f1 := KS5.out.frozen 1
  have KS6 : Hid (Blk (w5.setCell ⟨gs, 1, none⟩ (.slice A1 n1 p1)) gs (scells ⟨a, cs, [], []⟩ (.slice A1 n1 p1) (.slice none 0 0) (.slice none 0 0)) 26) := Lib.hid (KS5.out.set 1 _)
  have KB6 := Lib.hid (KB5.out.far (p := ⟨gs, 1, none⟩) (show w.heap.size + 1 + 1 ≠ gs by omega) (.slice A1 n1 p1))
  have KZ6 := Lib.hid (KZ5.out.far (p := ⟨gs, 1, none⟩) (show w.heap.size ≠ gs by omega) (.slice A1 n1 p1))
  have HR6 := Lib.hid (HR5.out.touch (Touch.set w5 ⟨gs, 1, none⟩ (.slice A1 n1 p1)) (fun x hx => by simp only [List.mem_singleton] at hx; subst hx; omega))
  have HT6 := Lib.hid (Touch.trans HT5.out ((Touch.set w5 ⟨gs, 1, none⟩ (.slice A1 n1 p1)).mono (r' := [gs]) (fun x h => h)) (fun x hx hlt => by simp only [List.mem_singleton] at hx; omega))
  have OC6 := Lib.hid (OC5.out.touch (Touch.set w5 ⟨gs, 1, none⟩ (.slice A1 n1 p1)) (fun x hx => by simp only [List.mem_singleton] at hx; subst hx; omega))
  go_upto_region 6 with fail
  have hs6 : gs < (w5.setCell ⟨gs, 1, none⟩ (.slice A1 n1 p1)).heap.size := by rw [World.size_setCell]; exact KS5.out.lt
  generalize w5.setCell ⟨gs, 1, none⟩ (.slice A1 n1 p1) = w6 at KB6 KZ6 KS6 HR6 HT6 OC6 hs6 ⊢
  clear c1 f1 KB5 KZ5 KS5 HR5 HT5 OC5 hz5
  have b6 := KB6.out.cell 0
  go_wp2_with fail
  refine (rows_var HR6.out 200 (by decide) KB6.out (by omega)).mono ?_
  rintro e w7 ⟨vv, rfl, ov7, hr, ht⟩
  simp only [HVS.out] at hr ov7 ⊢
  have KB7 := Lib.hid (ht.blk KB6.out (by simp))
  have KZ7 := Lib.hid (ht.blk KZ6.out (by simp))
  have KS7 := Lib.hid (ht.blk KS6.out (by simp; omega))
  have HT7 := Lib.hid (HT6.out.trans ht (fun x h _ => h))
  have HR7 := Lib.hid hr
  have hz7 := ht.size
  have OC7 := Lib.hid (OC6.out.touch ht (fun x hx => by simp only [List.mem_singleton] at hx; subst hx; omega))
  obtain ⟨A2, n2, p2, rfl⟩ := ov7.form
  have OV7 := Lib.hid (ov7.weak (B' := gs + 1) (by omega))
  clear hr ht ov7 b6 KB6 KZ6 KS6 HR6 HT6
  have c2 := KS7.out.cell 2
  have f2 := KS7.out.frozen 2
  have KS8 : Hid (Blk (w7.setCell ⟨gs, 2, none⟩ (.slice A2 n2 p2)) gs (scells ⟨a, cs, vs, []⟩ (.slice A1 n1 p1) (.slice A2 n2 p2) (.slice none 0 0)) 26) := Lib.hid (KS7.out.set 2 _)
  have KB8 := Lib.hid (KB7.out.far (p := ⟨gs, 2, none⟩) (show w.heap.size + 1 + 1 ≠ gs by omega) (.slice A2 n2 p2))
  have KZ8 := Lib.hid (KZ7.out.far (p := ⟨gs, 2, none⟩) (show w.heap.size ≠ gs by omega) (.slice A2 n2 p2))
  have HR8 := Lib.hid (HR7.out.touch (Touch.set w7 ⟨gs, 2, none⟩ (.slice A2 n2 p2)) (fun x hx => by simp only [List.mem_singleton] at hx; subst hx; omega))
  have HT8 := Lib.hid (Touch.trans HT7.out ((Touch.set w7 ⟨gs, 2, none⟩ (.slice A2 n2 p2)).mono (r' := [gs]) (fun x h => h)) (fun x hx hlt => by simp only [List.mem_singleton] at hx; omega))
  have OC8 := Lib.hid (OC7.out.touch (Touch.set w7 ⟨gs, 2, none⟩ (.slice A2 n2 p2)) (fun x hx => by simp only [List.mem_singleton] at hx; subst hx; omega))
  have OV8 := Lib.hid (OV7.out.touch (Touch.set w7 ⟨gs, 2, none⟩ (.slice A2 n2 p2)) (fun x hx => by simp only [List.mem_singleton] at hx; subst hx; omega))
  go_upto_region 7 with fail
  have hs8 : gs < (w7.setCell ⟨gs, 2, none⟩ (.slice A2 n2 p2)).heap.size := by rw [World.size_setCell]; exact KS7.out.lt
  generalize w7.setCell ⟨gs, 2, none⟩ (.slice A2 n2 p2) = w8 at KB8 KZ8 KS8 HR8 HT8 OC8 OV8 hs8 ⊢
  clear c2 f2 KB7 KZ7 KS7 HR7 HT7 OC7 OV7 hz7
  have b8 := KB8.out.cell 0
  go_wp2_with fail
  refine (rows_proc HR8.out 100 (by decide)).mono ?_
  rintro e w9 ⟨pv, pvs, rfl, op9, hr, ht⟩
  simp only [HPS.out] at hr op9 ⊢
  have KB9 := Lib.hid (ht.blk KB8.out (by simp))
  have KZ9 := Lib.hid (ht.blk KZ8.out (by simp))
  have KS9 := Lib.hid (ht.blk KS8.out (by simp; omega))
  have HT9 := Lib.hid (HT8.out.trans ht (fun x h _ => h))
  have HR9 := Lib.hid hr
  have hz9 := ht.size
  have OC9 := Lib.hid (OC8.out.touch ht (fun x hx => by simp only [List.mem_singleton] at hx; subst hx; omega))
  have OV9 := Lib.hid (OV8.out.touch ht (fun x hx => by simp only [List.mem_singleton] at hx; subst hx; omega))
  obtain ⟨A3, n3, p3, rfl⟩ := op9.own.form
  have OP9 := Lib.hid (op9.weak (B' := gs + 1) (by omega))
  clear hr ht op9 b8 KB8 KZ8 KS8 HR8 HT8
  have c3 := KS9.out.cell 3
  have f3 := KS9.out.frozen 3
  have KS10 : Hid (Blk (w9.setCell ⟨gs, 3, none⟩ (.slice A3 n3 p3)) gs (scells ⟨a, cs, vs, ps⟩ (.slice A1 n1 p1) (.slice A2 n2 p2) (.slice A3 n3 p3)) 26) := Lib.hid (KS9.out.set 3 _)
  have KB10 := Lib.hid (KB9.out.far (p := ⟨gs, 3, none⟩) (show w.heap.size + 1 + 1 ≠ gs by omega) (.slice A3 n3 p3))
  have KZ10 := Lib.hid (KZ9.out.far (p := ⟨gs, 3, none⟩) (show w.heap.size ≠ gs by omega) (.slice A3 n3 p3))
  have HR10 := Lib.hid (HR9.out.touch (Touch.set w9 ⟨gs, 3, none⟩ (.slice A3 n3 p3)) (fun x hx => by simp only [List.mem_singleton] at hx; subst hx; omega))
  have HT10 := Lib.hid (Touch.trans HT9.out ((Touch.set w9 ⟨gs, 3, none⟩ (.slice A3 n3 p3)).mono (r' := [gs]) (fun x h => h)) (fun x hx hlt => by simp only [List.mem_singleton] at hx; omega))
  have OC10 := Lib.hid (OC9.out.touch (Touch.set w9 ⟨gs, 3, none⟩ (.slice A3 n3 p3)) (fun x hx => by simp only [List.mem_singleton] at hx; subst hx; omega))
  have OV10 := Lib.hid (OV9.out.touch (Touch.set w9 ⟨gs, 3, none⟩ (.slice A3 n3 p3)) (fun x hx => by simp only [List.mem_singleton] at hx; subst hx; omega))
  have OP10 := Lib.hid (OP9.out.touch (Touch.set w9 ⟨gs, 3, none⟩ (.slice A3 n3 p3)) (fun x hx => by simp only [List.mem_singleton] at hx; subst hx; omega))
  go_upto_region 8 with fail
  have hs10 : gs < (w9.setCell ⟨gs, 3, none⟩ (.slice A3 n3 p3)).heap.size := by rw [World.size_setCell]; exact KS9.out.lt
  generalize w9.setCell ⟨gs, 3, none⟩ (.slice A3 n3 p3) = w10 at KB10 KZ10 KS10 HR10 HT10 OC10 OV10 OP10 hs10 ⊢
  clear c3 f3 KB9 KZ9 KS9 HR9 HT9 OC9 OV9 OP9 hz9
  have OWN10 := Lib.hid (show SmOwn w10 (gs + 1) ⟨a, cs, vs, ps⟩ (.slice A1 n1 p1) (.slice A2 n2 p2) (.slice A3 n3 p3) pvs from ⟨by have := read_fit HO.out; rw [HE.out] at this; exact this, OC10.out, OV10.out, OP10.out⟩)
  have HE1 := Lib.hid (show (readS l).1 = ⟨a, cs, vs, ps⟩ by rw [HE.out])
  have HE2 := Lib.hid (show (readS l).2 = tookS r4 (r4.pos : Int) (decide (r4.pos = l.length)) by
    rw [HE.out]; unfold tookS
    cases hk : r4.ok with
    | true => simp only [if_true]; by_cases he : r4.pos = l.length <;> simp [he]
    | false => rfl)
  clear OC10 OV10 OP10 HE HA HCS HVS HPS
  go_cut [] from 42 to 54 (fun wx => Hid (RdAt wx (w.heap.size + 1) (.slice (some ⟨b, off, none⟩) l.length cap) l (readS l).2) ∧ Hid (Touch w10 wx [w.heap.size + 1]))
  case first =>
    have b10 := KB10.out.cell 0
    have p10 : w10.cell? ⟨w.heap.size + 1, 1, none⟩ = some (.int .i64 (r4.pos : Int)) := HR10.out.blk.cell 1
    have HRd := Lib.hid (show RdAt w10.drew (w.heap.size + 1) _ l r4 from HR10.out.drewN 1)
    have HTd := Lib.hid (show Touch w10 w10.drew [w.heap.size + 1] from (Touch.drewN w10 1).mono (fun x h => by cases h))
    have hp4 := HR10.out.pos
    by_cases he : r4.pos = l.length
    · have he1 : ((r4.pos : Int) == (l.length : Int)) = true := by simp [he]
      have he2 : (r4.pos == l.length) = true := by simp [he]
      rw [decide_eq_true he] at HE2
      clear he
      go_still_tail 12, (by kernel_rfl)
      change wpList _ _ _ _ _ w10.drew
      generalize w10.drew = wd at HRd HTd ⊢
      go_wp2_with (go_at_call 60; refine (took_any HRd.out (r4.pos : Int) true (fun h => ⟨by omega, by omega⟩)).mono ?_; rintro e w11 ⟨rfl, hr, ht⟩)
      go_meet
      exact ⟨by rw [HE2.out]; exact Lib.hid hr, Lib.hid (HTd.out.trans ht (fun x h _ => h))⟩
    · have he1 : ((r4.pos : Int) == (l.length : Int)) = false := by simp; omega
      have he2 : (r4.pos == l.length) = false := by simp [he]
      rw [decide_eq_false he] at HE2
      clear he
      go_still_tail 12, (by kernel_rfl)
      change wpList _ _ _ _ _ w10.drew
      generalize w10.drew = wd at HRd HTd ⊢
      go_wp2_with (go_at_call 60; refine (took_any HRd.out (r4.pos : Int) false (fun h => by cases h)).mono ?_; rintro e w11 ⟨rfl, hr, ht⟩)
      go_meet
      exact ⟨by rw [HE2.out]; exact Lib.hid hr, Lib.hid (HTd.out.trans ht (fun x h _ => h))⟩
  case rest =>
    obtain ⟨HR, HT⟩ := hcut
    have KB := Lib.hid (HT.out.blk KB10.out (by simp))
    have KZ := Lib.hid (HT.out.blk KZ10.out (by simp))
    have KS := Lib.hid (HT.out.blk KS10.out (by simp; omega))
    have OWN := Lib.hid (OWN10.out.touch HT.out (fun x hx => by simp only [List.mem_singleton] at hx; subst hx; omega))
    have HBT := Lib.hid (HB2.out.trans ((HT10.out.trans HT.out (fun x h _ => h)).below HB2.out.size (fun x hx => by simp only [List.mem_singleton] at hx; omega)))
    clear KB10 KZ10 KS10 HR10 OWN10 HE2 HT10 HB2
    have b11 := KB.out.cell 0
    obtain ⟨⟨p5, k5⟩, hrr⟩ : ∃ r5, (readS l).2 = r5 := ⟨_, rfl⟩
    rw [hrr] at HR
    have HRR := Lib.hid hrr
    clear hrr
    have hp5 : (0 : Int) ≤ (p5 : Int) := by omega
    cases k5 with
    | false =>
      have c2 : wc.cell? ⟨w.heap.size + 1, 2, none⟩ = some (.int .i64 (p5 : Int)) := HR.out.blk.cell 2
      go_wp2_with fail
      have HAN := Lib.hid (show DecAns l noSym (p5 : Int) 131 by
        have := DecAns.wrong HHD.out (by rw [HRR.out])
        rw [HRR.out] at this; exact this)
      refine wp_region_held_drew (S := (fun w' => Hid (w'.cell? ⟨w.heap.size + 1 + 1, 0, none⟩ = some (.pointer (some ⟨w.heap.size + 1, 0, none⟩))) ∧ Hid (w'.cell? ⟨w.heap.size + 1, 2, none⟩ = some (.int .i64 (p5 : Int))))) (by kernel_rfl) ⟨Lib.hid b11, Lib.hid c2⟩ (fun hHeld0 => ?_)
      clear hHeld0
      have KZd := Lib.hid KZ.out.drew
      have KBd := Lib.hid KB.out.drew
      have KRd := Lib.hid HR.out.blk.drew
      have HBd := Lib.hid HBT.out.drew
      generalize wc.drew = wd at KZd KBd KRd HBd ⊢
      have hHeld : (fun w' => Hid (w'.cell? ⟨w.heap.size + 1 + 1, 0, none⟩ = some (.pointer (some ⟨w.heap.size + 1, 0, none⟩))) ∧ Hid (w'.cell? ⟨w.heap.size + 1, 2, none⟩ = some (.int .i64 (p5 : Int)))) wd := ⟨Lib.hid (KBd.out.cell 0), Lib.hid (KRd.out.cell 2)⟩
      refine tke 0 (v := ?v0) ?hy0 hHeld ?rest0
      case hy0 => rintro wq ⟨qT, qB⟩; clear qT qB; simp only [List.getElem_toArray, List.getElem_cons_zero, List.getElem_cons_succ]; go_simp; try with_reducible rfl
      refine tke 1 (v := ?v1) ?hy1 hHeld ?rest1
      case hy1 => rintro wq ⟨qT, qB⟩; have q1 := qT.out; clear qT qB; simp only [List.getElem_toArray, List.getElem_cons_zero, List.getElem_cons_succ]; go_simp; try with_reducible rfl
      refine tke 2 (v := ?v2) ?hy2 hHeld ?rest2
      case hy2 => rintro wq ⟨qT, qB⟩; clear qT qB; simp only [List.getElem_toArray, List.getElem_cons_zero, List.getElem_cons_succ]; go_simp; try with_reducible rfl
      refine tke 3 (v := ?v3) ?hy3 hHeld ?rest3
      case hy3 => rintro wq ⟨qT, qB⟩; clear qT qB; simp only [List.getElem_toArray, List.getElem_cons_zero, List.getElem_cons_succ]; go_simp; try with_reducible rfl
      refine tke 4 (v := ?v4) ?hy4 hHeld ?rest4
      case hy4 => rintro wq ⟨qT, qB⟩; have q1 := qB.out; clear qT qB; simp only [List.getElem_toArray, List.getElem_cons_zero, List.getElem_cons_succ]; go_simp; try with_reducible rfl
      refine wpAnyH_ready (rs := [5]) (by kernel_rfl) (by simp) ?_
      refine AllReadyH.cons (o := _) rfl (fun K hK => ?_) AllReadyH.nil
      have hst := store_blk sz_sym KZd.out rfl rfl zSym_one
      try simp only [List.getElem_toArray, List.getElem_cons_zero, List.getElem_cons_succ]
      go_simp
      have KZ9 := Lib.hid (KZd.out.setRow zSym)
      have KB9 := Lib.hid (KBd.out.farRow (k := w.heap.size) (by omega) zSym)
      have KR9 := Lib.hid (KRd.out.farRow (k := w.heap.size) (by omega) zSym)
      have HB9 := Lib.hid (belRow HBd.out (Nat.le_refl _) zSym)
      have hres := loadVar_blk Try.underlying26 rfl sz_sym KZ9.out rfl
      refine hK.out _ _ ⟨Lib.hid (KB9.out.cell 0), Lib.hid (KR9.out.cell 2)⟩ (fun _ => ?_)
      refine tke 6 (v := ?v6) ?hy6 ⟨Lib.hid (KB9.out.cell 0), Lib.hid (KR9.out.cell 2)⟩ ?rest6
      case hy6 => rintro wq ⟨qT, qB⟩; clear qT qB; simp only [List.getElem_toArray, List.getElem_cons_zero, List.getElem_cons_succ]; go_simp; try with_reducible rfl
      refine tke 7 (v := ?v7) ?hy7 ⟨Lib.hid (KB9.out.cell 0), Lib.hid (KR9.out.cell 2)⟩ ?rest7
      case hy7 => rintro wq ⟨qT, qB⟩; clear qT qB; simp only [List.getElem_toArray, List.getElem_cons_zero, List.getElem_cons_succ]; go_simp; try with_reducible rfl
      refine wpAnyH_done (by kernel_rfl) ?_ _
      go_wp2_with fail
      refine bodyPost_ret (v := .tuple #[.agg zSym, .int .i64 (p5 : Int), .int .i64 131]) ?_ rfl ⟨noSym, _, 131, _, _, _, [], rfl, HAN.out, noSym_own _ _, HB9.out⟩
      simp [results, Try.results18, asAddr, hres]
    | true =>
      have c2 : wc.cell? ⟨w.heap.size + 1, 2, none⟩ = some (.int .i64 (-1)) := HR.out.blk.cell 2
      have hlS := load_blk Try.underlying26 rfl sz_sym KS.out rfl
      by_cases hok : smOk ⟨a, cs, vs, ps⟩
      · have H1 := Lib.hid (right_any (w := wc) ⟨a, cs, vs, ps⟩ OWN.out.at (q := true) ⟨fun _ => hok, fun _ => rfl⟩)
        have HAN := Lib.hid (show DecAns l ⟨a, cs, vs, ps⟩ 0 0 by
          have := DecAns.right HHD.out (by rw [HRR.out]) (by rw [HE1.out]; exact hok)
          rw [HE1.out] at this; exact this)
        clear hok
        go_wp2_with (go_at_call 10; refine H1.out.mono ?_; rintro e w12 ⟨rfl, hb12⟩; have KZ12 := Lib.hid (KZ.out.step hb12); have KS12 := Lib.hid (KS.out.step hb12); have OWN12 := Lib.hid (OWN.out.below hb12); have HB12 := Lib.hid (HBT.out.trans (hb12.mono HBT.out.size)); clear hb12; have hl12 := load_blk Try.underlying26 rfl sz_sym KS12.out rfl; have hst12 := store_blk sz_sym KZ12.out rfl rfl (scells_one ⟨a, cs, vs, ps⟩ (cv := .slice A1 n1 p1) (vv := .slice A2 n2 p2) (pv := .slice A3 n3 p3) rfl rfl rfl); have hres := loadVar_blk Try.underlying26 rfl sz_sym (KZ12.out.setRow (scells ⟨a, cs, vs, ps⟩ (.slice A1 n1 p1) (.slice A2 n2 p2) (.slice A3 n3 p3))) rfl)
        have OWNF := Lib.hid ((OWN12.out.touch (Touch.row w12 w.heap.size (scells ⟨a, cs, vs, ps⟩ (.slice A1 n1 p1) (.slice A2 n2 p2) (.slice A3 n3 p3))) (fun x hx => by simp only [List.mem_singleton] at hx; subst hx; omega)).weak (B' := w.heap.size) (by omega))
        refine bodyPost_ret (v := .tuple #[.agg (scells ⟨a, cs, vs, ps⟩ (.slice A1 n1 p1) (.slice A2 n2 p2) (.slice A3 n3 p3)), .int .i64 0, .int .i64 0]) ?_ rfl ⟨_, 0, 0, _, _, _, pvs, rfl, HAN.out, OWNF.out, belRow HB12.out (Nat.le_refl _) _⟩
        simp [results, Try.results18, asAddr, hres]
      · have H1 := Lib.hid (right_any (w := wc) ⟨a, cs, vs, ps⟩ OWN.out.at (q := false) ⟨(fun h => by cases h), fun h => absurd h hok⟩)
        have HAN := Lib.hid (DecAns.form HHD.out (by rw [HRR.out]) (by rw [HE1.out]; exact hok))
        clear hok
        go_wp2_with (go_at_call 10; refine H1.out.mono ?_; rintro e w12 ⟨rfl, hb12⟩; have KZ12 := Lib.hid (KZ.out.step hb12); have HB12 := Lib.hid (HBT.out.trans (hb12.mono HBT.out.size)); clear hb12; have hst12 := store_blk sz_sym KZ12.out rfl rfl zSym_one; have hres := loadVar_blk Try.underlying26 rfl sz_sym (KZ12.out.setRow zSym) rfl)
        refine bodyPost_ret (v := .tuple #[.agg zSym, .int .i64 0, .int .i64 130]) ?_ rfl ⟨noSym, 0, 130, _, _, _, [], rfl, HAN.out, noSym_own _ _, belRow HB12.out (Nat.le_refl _) _⟩
        simp [results, Try.results18, asAddr, hres]
end
end Go.Proofs.Ytgemnmceflcpcaa
