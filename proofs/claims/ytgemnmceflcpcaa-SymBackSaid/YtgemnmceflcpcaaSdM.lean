/- The reader: a procedure. -/
import Derived.Test.YtgemnmceflcpcaaSdL
namespace Go.Proofs.Ytgemnmceflcpcaa
open Go Go.RowKit Go.Lib Go.Proofs.Ytgemnmceflcpcaa.Sy Pl
set_option linter.unusedVariables false
set_option linter.unusedSimpArgs false
attribute [local go_sem ↓] exec_load_const exec_store_const exec_load_var exec_store_var exec_load_proc exec_store_proc
theorem OwnL.weak {w : World} {B B' : Nat} {ty : TypeId} {sz : Nat} {v : Value} {rows : List (List Value)} (h : OwnL w B ty sz v rows) (hB : B' ≤ B) : OwnL w B' ty sz v rows := by
  refine ⟨h.1, ?_⟩
  rcases h.2 with h2 | ⟨g, cp, cur, e, h1, r⟩
  · exact .inl h2
  · exact .inr ⟨g, cp, cur, e, by omega, r⟩
theorem OwnL.one {w : World} {B : Nat} {ty : TypeId} {sz : Nat} {v : Value} {rows : List (List Value)} (h : OwnL w B ty sz v rows) : v.oneCell' = true := by
  rcases h.2 with ⟨e, _⟩ | ⟨g, cp, cur, e, _⟩ <;> rw [e] <;> rfl
@[reducible] def zPrc : Array Value := #[.string ⟨#[]⟩, .slice none 0 0, .int .i64 0]
abbrev vrows (l : List Vr) : List (List Value) := l.map fun c => (vcells c).toList
section
variable {w : World} {g : Nat} {v : Value} {l : List Int}
/-- A procedure read. -/
def PrP (g : Nat) (v : Value) (l : List Int) (w : World) (r' : Rd) (x : Pr) (e : Ending) (w' : World) : Prop :=
  ∃ pv, e = .returned (.agg (pcells x pv)) ∧ OwnL w' w.heap.size 73 5 pv (vrows x.params) ∧ RdAt w' g v l r' ∧ Touch w w' [g]
set_option maxHeartbeats 4000000 in
set_option maxRecDepth 100000 in
theorem proc_r {r : Rd} (hR : RdAt w g v l r) :
    Calls Try.prog 59 #[.pointer (some ⟨g, 0, none⟩)] w (PrP g v l w (procS l r).2 (procS l r).1) := by
  have hg := hR.blk.lt
  have KB0 := Lib.hid ((Blk.new w #[.pointer (some ⟨g, 0, none⟩)] 97).old (.cells zPrc 63))
  have KZ0 := Lib.hid (Blk.new (w.alloc (.cells #[.pointer (some ⟨g, 0, none⟩)] 97)) zPrc 63)
  have HR0 := Lib.hid ((hR.new #[.pointer (some ⟨g, 0, none⟩)] 97).new zPrc 63)
  have HT0 := Lib.hid (((Touch.alloc w (.cells #[.pointer (some ⟨g, 0, none⟩)] 97)).trans (Touch.alloc _ (.cells zPrc 63)) (fun x h _ => h)).mono (r' := [g]) (fun x h => by cases h))
  obtain ⟨a, r1, ha⟩ : ∃ a r1, textS l 20 r = (a, r1) := ⟨_, _, rfl⟩
  obtain ⟨ps, r2, hp⟩ : ∃ ps r2, countS l (parS l) 8 r1 = (ps, r2) := ⟨_, _, rfl⟩
  obtain ⟨f, r3, hf⟩ : ∃ f r3, byteS l resB r2 = (f, r3) := ⟨_, _, rfl⟩
  have HE := Lib.hid (show procS l r = (⟨a, ps, f⟩, r3) by unfold procS; simp only [ha, hp, hf])
  have HA := Lib.hid ha
  have HP := Lib.hid hp
  have HF := Lib.hid hf
  have hmf := hmf_sy
  simp only [World.size_alloc] at KZ0
  have b0 := KB0.out.cell 0
  clear ha hp hf hR
  go_enter Try.func59, Try.ntmps59
  go_upto_region 1 with fail
  generalize (w.alloc (.cells #[.pointer (some ⟨g, 0, none⟩)] 97)).alloc (.cells zPrc 63) = w0 at KB0 KZ0 HR0 HT0 b0 ⊢
  go_wp2_with fail
  refine (text_r HR0.out 20 (by decide)).mono ?_
  rintro e w1 ⟨rfl, hr, ht⟩
  have KB1 := Lib.hid (ht.blk KB0.out (by simp; omega))
  have KZ1 := Lib.hid (ht.blk KZ0.out (by simp; omega))
  have HT1 := Lib.hid (HT0.out.trans ht (fun x h _ => h))
  simp only [HA.out] at hr ⊢
  have HR1 := Lib.hid hr
  have hst1 := store_blk_new w1 zPrc (pcells ⟨a, [], 0⟩ (.slice none 0 0)) 63 sz_proc rfl rfl (pcells_one _ rfl)
  have KB2 := Lib.hid (KB1.out.old (.cells (pcells ⟨a, [], 0⟩ (.slice none 0 0)) 63))
  have KZ2 := Lib.hid (KZ1.out.old (.cells (pcells ⟨a, [], 0⟩ (.slice none 0 0)) 63))
  have KV2 := Lib.hid (Blk.new w1 (pcells ⟨a, [], 0⟩ (.slice none 0 0)) 63)
  have HR2 := Lib.hid (HR1.out.new (pcells ⟨a, [], 0⟩ (.slice none 0 0)) 63)
  have HT2 := Lib.hid (HT1.out.trans ((Touch.alloc w1 (.cells (pcells ⟨a, [], 0⟩ (.slice none 0 0)) 63)).mono (r' := [g]) (fun x h => by cases h)) (fun x h _ => h))
  have hgv := KZ1.out.lt
  clear hr ht b0 KB0 KZ0 HR0 HT0 KB1 KZ1 HR1 HT1
  go_upto_region 2 with fail
  clear hst1
  generalize w1.heap.size = gv at KV2 hgv ⊢
  generalize w1.alloc (.cells (pcells ⟨a, [], 0⟩ (.slice none 0 0)) 63) = w2 at KB2 KZ2 KV2 HR2 HT2 ⊢
  have b2 := KB2.out.cell 0
  go_wp2_with fail
  refine (rows_par HR2.out 8 (by decide) KB2.out (by omega)).mono ?_
  rintro e w4 ⟨pv, rfl, ow, hr, ht⟩
  have hw2 := KV2.out.lt
  have KB4 := Lib.hid (ht.blk KB2.out (by simp; omega))
  have KZ4 := Lib.hid (ht.blk KZ2.out (by simp; omega))
  have KV4 := Lib.hid (ht.blk KV2.out (by simp; omega))
  have HT4 := Lib.hid (HT2.out.trans ht (fun x h _ => h))
  simp only [HP.out] at hr ow ⊢
  have HR4 := Lib.hid hr
  have OW4 := Lib.hid ow
  have pv1 := OwnL.one ow
  obtain ⟨A, pn, pc, rfl⟩ : ∃ A pn pc, pv = .slice A pn pc := by
    rcases ow.2 with ⟨e, _⟩ | ⟨g', cp, cur, e, _⟩
    · exact ⟨_, _, _, e⟩
    · exact ⟨_, _, _, e⟩
  generalize w2.heap.size = B2 at OW4 hw2
  clear hr ht ow b2 KB2 KZ2 KV2 HR2 HT2
  have c1 := KV4.out.cell 1
  have f1 := KV4.out.frozen 1
  have KV5 : Hid (Blk (w4.setCell ⟨gv, 1, none⟩ (.slice A pn pc)) gv (pcells ⟨a, ps, 0⟩ (.slice A pn pc)) 63) := Lib.hid (KV4.out.set 1 _)
  have KB5 := Lib.hid (KB4.out.far (p := ⟨gv, 1, none⟩) (show w.heap.size ≠ gv by omega) (.slice A pn pc))
  have KZ5 := Lib.hid (KZ4.out.far (p := ⟨gv, 1, none⟩) (show w.heap.size + 1 ≠ gv by omega) (.slice A pn pc))
  have HR5 := Lib.hid (HR4.out.touch (Touch.set w4 ⟨gv, 1, none⟩ (.slice A pn pc)) (fun x hx => by simp only [List.mem_singleton] at hx; subst hx; omega))
  have OW5 := Lib.hid (OW4.out.touch (Touch.set w4 ⟨gv, 1, none⟩ (.slice A pn pc)) (fun x hx => by simp only [List.mem_singleton] at hx; subst hx; omega))
  have HT5 := Lib.hid (Touch.trans HT4.out ((Touch.set w4 ⟨gv, 1, none⟩ (.slice A pn pc)).mono (r' := [gv]) (fun x h => h)) (fun x hx hlt => by simp only [List.mem_singleton] at hx; omega))
  go_upto_region 3 with fail
  generalize w4.setCell ⟨gv, 1, none⟩ (.slice A pn pc) = w5 at KB5 KV5 KZ5 HR5 OW5 HT5 ⊢
  clear c1 f1 KB4 KV4 KZ4 HR4 OW4 HT4
  have b5 := KB5.out.cell 0
  go_wp2_with fail
  refine (byte_r HR5.out asks_res).mono ?_
  rintro e w6 ⟨rfl, hr, ht⟩
  have KZ6 := Lib.hid (ht.blk KZ5.out (by simp; omega))
  have KV6 := Lib.hid (ht.blk KV5.out (by simp; omega))
  have HT6 := Lib.hid (HT5.out.trans ht (fun x h _ => h))
  have OW6 := Lib.hid (OW5.out.touch ht (fun x hx => by simp only [List.mem_singleton] at hx; subst hx; omega))
  simp only [HF.out] at hr ⊢
  have HR6 := Lib.hid hr
  clear hr ht b5 KB5 KZ5 KV5 HR5 OW5 HT5
  have c2 := KV6.out.cell 2
  have f2 := KV6.out.frozen 2
  have KV7 : Hid (Blk (w6.setCell ⟨gv, 2, none⟩ (.int .i64 f)) gv (pcells ⟨a, ps, f⟩ (.slice A pn pc)) 63) := Lib.hid (KV6.out.set 2 _)
  have KZ7 := Lib.hid (KZ6.out.far (p := ⟨gv, 2, none⟩) (show w.heap.size + 1 ≠ gv by omega) (.int .i64 f))
  have HR7 := Lib.hid (HR6.out.touch (Touch.set w6 ⟨gv, 2, none⟩ (.int .i64 f)) (fun x hx => by simp only [List.mem_singleton] at hx; subst hx; omega))
  have OW7 := Lib.hid (OW6.out.touch (Touch.set w6 ⟨gv, 2, none⟩ (.int .i64 f)) (fun x hx => by simp only [List.mem_singleton] at hx; subst hx; omega))
  have HT7 := Lib.hid (Touch.trans HT6.out ((Touch.set w6 ⟨gv, 2, none⟩ (.int .i64 f)).mono (r' := [gv]) (fun x h => h)) (fun x hx hlt => by simp only [List.mem_singleton] at hx; omega))
  go_upto_region 4 with fail
  generalize w6.setCell ⟨gv, 2, none⟩ (.int .i64 f) = w7 at KV7 KZ7 HR7 OW7 HT7 ⊢
  clear c2 f2 KV6 KZ6 HR6 OW6 HT6
  have hl5 := load_blk Try.underlying63 rfl sz_proc KV7.out rfl
  have hst5 := store_blk sz_proc KZ7.out rfl rfl (pcells_one ⟨a, ps, f⟩ pv1)
  have hres := loadVar_blk Try.underlying63 rfl sz_proc (KZ7.out.setRow (pcells ⟨a, ps, f⟩ (.slice A pn pc))) rfl
  have HRF := Lib.hid (HR7.out.touch (Touch.row w7 (w.heap.size + 1) (pcells ⟨a, ps, f⟩ (.slice A pn pc))) (fun x hx => by simp only [List.mem_singleton] at hx; subst hx; omega))
  have OWF := Lib.hid (OW7.out.touch (Touch.row w7 (w.heap.size + 1) (pcells ⟨a, ps, f⟩ (.slice A pn pc))) (fun x hx => by simp only [List.mem_singleton] at hx; subst hx; omega))
  have HTF := Lib.hid (Touch.trans HT7.out (Touch.row w7 (w.heap.size + 1) (pcells ⟨a, ps, f⟩ (.slice A pn pc))) (fun x hx hlt => by simp only [List.mem_singleton] at hx; omega))
  go_wp2_with fail
  rw [HE.out]
  refine bodyPost_ret (v := .agg (pcells ⟨a, ps, f⟩ (.slice A pn pc))) ?_ rfl ⟨_, rfl, OWF.out.weak (by omega), HRF.out, HTF.out⟩
  simp [results, Try.results59, asAddr, hres]
end
end Go.Proofs.Ytgemnmceflcpcaa

