/- Procedures laid; Encode. -/
import Derived.Test.YtgemnmceflcpcaaSyU
import Derived.Lib.SlBytesConst
namespace Go.Proofs.Ytgemnmceflcpcaa
open Go Go.RowKit Go.Lib Go.Proofs.Ytgemnmceflcpcaa.Sy
set_option linter.unusedVariables false
set_option linter.unusedSimpArgs false
attribute [local go_sem ↓] exec_load_const exec_store_const exec_load_var exec_store_var exec_load_proc exec_store_proc exec_load_sym exec_store_sym
def symB (s : Sm) : List Int := [67, 82, 83, 49] ++ txt s.name ++ grps s.consts.length ++ cstsB s.consts ++ grps s.vars.length ++ varsB s.vars ++ grps s.procs.length ++ prsB s.procs
theorem flat_le {α : Type} (f : α → List Int) (b : Nat) : ∀ (l : List α), (∀ x ∈ l, (f x).length ≤ b) → (l.flatMap f).length ≤ l.length * b
  | [], _ => by simp
  | x :: l, h => by
    rw [List.flatMap_cons, List.length_append, List.length_cons, Nat.succ_mul]
    have := h x (by simp); have := flat_le f b l (fun y hy => h y (by simp [hy])); omega
theorem txt_len {s : ByteArray} (h : s.size ≤ 1000) : (txt s).length ≤ s.size + 5 := by
  unfold txt; rw [List.length_append, strI_len]; have := grps_len5 (n := s.size) (by omega); omega
theorem cst_name {s : Sm} (h : smOk s) {c : Cst} (hc : c ∈ s.consts) : c.name.size ≤ 20 := (h.2.2.2.2.1 c.name (by unfold namesOf; simp only [List.mem_append, List.mem_map]; exact .inl (.inl ⟨c, hc, rfl⟩))).2.1
theorem vr_name {s : Sm} (h : smOk s) {c : Vr} (hc : c ∈ s.vars) : c.name.size ≤ 20 := (h.2.2.2.2.1 c.name (by unfold namesOf; simp only [List.mem_append, List.mem_map]; exact .inl (.inr ⟨c, hc, rfl⟩))).2.1
theorem pr_name {s : Sm} (h : smOk s) {c : Pr} (hc : c ∈ s.procs) : c.name.size ≤ 20 := (h.2.2.2.2.1 c.name (by unfold namesOf; simp only [List.mem_append, List.mem_map]; exact .inr ⟨c, hc, rfl⟩)).2.1
theorem cst_fit {c : Cst} (h : cstOk c) : (1 ≤ c.type ∧ c.type ≤ 7) ∧ c.s.size ≤ 200 ∧ (-2147483648 ≤ c.n ∧ c.n ≤ 4294967295) := by
  obtain ⟨_, h | h | h | h | h⟩ := h <;> obtain ⟨h1, h2, h3⟩ := h
  · rw [h2]; exact ⟨by omega, by decide, by omega⟩
  · rw [h2]; exact ⟨by omega, by decide, by omega⟩
  · rw [h2]; exact ⟨by omega, by decide, by omega⟩
  · rw [h2]; exact ⟨by omega, by decide, by omega⟩
  · exact ⟨by omega, h3, by omega⟩
theorem vr_fit {v : Vr} (h : vrOk v) : v.len ≤ 16384 := by
  have h1 := h.2.1; have h2 := h.2.2.1
  unfold szF at h2; split at h2 <;> omega
theorem cstB_len {c : Cst} (h : cstOk c) (hn : c.name.size ≤ 20) : (cstB c).length ≤ 231 := by
  have h1 := txt_len (s := c.name) (by omega)
  have hs := (cst_fit h).2.1
  have h2 := txt_len (s := c.s) (by omega)
  unfold cstB
  rw [List.length_append, List.length_append, List.length_singleton]
  split
  · omega
  · simp only [wrdB, List.length_cons, List.length_nil]; omega
theorem varB_len {v : Vr} (h : vrOk v) (hn : v.name.size ≤ 20) : (varB v).length ≤ 31 := by
  have h1 := txt_len (s := v.name) (by omega)
  have h3 := grps_len5 (n := v.len.toNat) (by have := vr_fit h; omega)
  unfold txt at h1
  unfold varB
  simp only [List.length_append, List.length_singleton] at h1 ⊢; omega
theorem prB_len {p : Pr} (h : prOk p) (hn : p.name.size ≤ 20) : (prB p).length ≤ 47 := by
  have h1 := txt_len (s := p.name) (by omega)
  have h8 := h.2.1
  have h3 := grps_len5 (n := p.params.length) (by omega)
  unfold prB
  simp only [List.length_append, List.length_singleton, parsB_len]; omega
theorem symB_len {s : Sm} (h : smOk s) : (symB s).length ≤ 60000 := by
  have hn := txt_len (s := s.name) (by have := h.1.2.1; omega)
  have hn2 := h.1.2.1
  obtain ⟨_, k1, k2, k3, _, _, kc, kv, kp⟩ := id h
  have g1 := grps_len5 (n := s.consts.length) (by omega)
  have g2 := grps_len5 (n := s.vars.length) (by omega)
  have g3 := grps_len5 (n := s.procs.length) (by omega)
  have f1 := flat_le cstB 231 s.consts (fun c hc => cstB_len (kc c hc) (cst_name h hc))
  have f2 := flat_le varB 31 s.vars (fun c hc => varB_len (kv c hc) (vr_name h hc))
  have f3 := flat_le prB 47 s.procs (fun c hc => prB_len (kp c hc) (pr_name h hc))
  unfold symB cstsB varsB prsB
  simp only [List.length_append, List.length_cons, List.length_nil]
  omega
section
variable {w : World}
set_option maxHeartbeats 4000000 in
set_option maxRecDepth 100000 in
theorem row_proc {v : Value} {l : List Int} {pv : Value} (ps : List Pr) (hF : BytesAt w v l) (hP : PrsAt w pv ps) (hp : ∀ x ∈ ps, (0 ≤ x.result ∧ x.result ≤ 255) ∧ x.name.size ≤ 1000 ∧ (∀ p ∈ x.params, plainF p.form) ∧ x.params.length ≤ 200) (hn : ps.length ≤ 200) (hl : (l ++ grps ps.length ++ prsB ps).length ≤ 40000000) :
    Calls Try.prog 34 #[v, pv, .func (.func 35) #[] #[]] w (NewB (l ++ grps ps.length ++ prsB ps) w) := by
  have H1 := Lib.hid (putuint_any hF ps.length (by omega) (by simp only [List.length_append] at hl; omega))
  obtain ⟨pvs, hpl, hrw, hpe⟩ := hP
  obtain ⟨A, cap, rfl, hc1, hc2, hA⟩ := list_of (n := ps.length) hrw (by rw [List.length_zipWith, hpl, Nat.min_self])
  have HPL := Lib.hid hpl
  have HPE := Lib.hid hpe
  unfold maxLen at hc2
  have HA := Lib.hid hA
  have HP := Lib.hid hp
  have HL := Lib.hid hl
  have hn1 : (ps.length : Int) ≤ 200 := by omega
  clear hF hp hl hA hpl hrw hpe
  go_enter Try.func34, Try.ntmps34
  go_wp2_with (go_at_call 77; refine H1.out.mono ?_; rintro e w1 ⟨v1, rfl, ho1, hb1⟩; have HO1 := Lib.hid ho1; have HB1 := Lib.hid hb1; clear ho1 hb1)
  go_loopw [0, 16] (fun u i wr => ∃ k : Nat, k ≤ ps.length ∧ i = .int .i64 k ∧ Hid (OwnB wr w.heap.size u (l ++ grps ps.length ++ prsB (ps.take k))) ∧ Hid (Below w.heap.size w wr)) (fun _ i _ => ps.length - (intOf i).toNat)
  case atStart => exact ⟨0, Nat.zero_le _, rfl, Lib.hid (by simpa [prsB] using HO1.out), HB1⟩
  case round =>
    obtain ⟨k, hk, rfl, HO, HB⟩ := hrel
    by_cases hlt : k < ps.length
    · obtain ⟨x, hx⟩ : ∃ x, ps[k]? = some x := ⟨ps[k], List.getElem?_eq_getElem hlt⟩
      rcases HA.out with hz | ⟨b, off, rfl, hb, hr⟩
      · omega
      obtain ⟨qv, hpv⟩ : ∃ qv, pvs[k]? = some qv := ⟨pvs[k]'(by have := HPL.out; omega), List.getElem?_eq_getElem _⟩
      have hqv := (HPE.out k x qv hx hpv).2.2
      have hp1 : qv.oneCell' = true := hqv.1.one
      have hrx := range_below (hr k (pcells x qv).toList (by rw [List.getElem?_zipWith, hx, hpv])) HB.out hb
      have hld := load_mid Try.underlying63 rfl sz_proc hrx rfl
      have hst := store_blk_new wr #[.string ⟨#[]⟩, .slice none 0 0, .int .i64 0] (pcells x qv) 63 sz_proc rfl rfl (pcells_one x hp1)
      have hl2 := load_blk Try.underlying63 rfl sz_proc (Blk.new wr (pcells x qv) 63) rfl
      have hm := List.mem_of_getElem? hx
      have hO2 := World.ownsRow.alloc HO.out (.cells (pcells x qv) 63)
      have hll : (l ++ grps ps.length ++ prsB (ps.take k) ++ prB x).length ≤ 40000000 := by
        have h1 := HL.out; have h2 := flat_take_le prB ps (k + 1)
        rw [take_snoc hx, flat_snoc] at h2
        unfold prsB at *; simp only [List.length_append] at *; omega
      have H2 := Lib.hid (putproc_any (w := wr.alloc (.cells (pcells x qv) 63)) x (own_bytes hO2) (hqv.below (HB.out.alloc HB.out.size _)) (HP.out x hm).1 (HP.out x hm).2.1 (HP.out x hm).2.2.1 (HP.out x hm).2.2.2 hll)
      have HX := Lib.hid hx
      have hlt1 : (k : Int) < (ps.length : Int) := by omega
      have HB2 := Lib.hid (HB.out.alloc HB.out.size (.cells (pcells x qv) 63))
      clear hrx hr hx hm hO2 hll hpv hp1 hqv
      go_wp2_with (go_at_call 35; refine H2.out.mono ?_; rintro e w3 ⟨v3, rfl, ho3, hb3⟩; have HO3 := Lib.hid (own_weak ho3 HB2.out.size); have HB3 := Lib.hid (HB2.out.trans (hb3.mono HB2.out.size)); clear ho3 hb3)
      go_roundw
      case rel => exact ⟨k + 1, by omega, by go_num, Lib.hid (by have h := HO3.out; unfold prsB at h ⊢; rw [take_snoc HX.out, flat_snoc, ← List.append_assoc]; exact h), HB3⟩
      case measure => simp [intOf]; omega
    · obtain rfl : k = ps.length := by omega
      go_wp2_with fail
      go_ret
      exact ⟨_, rfl, by have := HO.out; rw [List.take_length] at this; exact this, HB.out⟩
theorem bytes_new (w : World) (l : List Int) (hl : l.length ≤ maxLen) (t : TypeId) (fr : Nat × Nat) : BytesAt (w.alloc (.cells (l.map encB).toArray t fr)) (.slice (some ⟨w.heap.size, 0, none⟩) l.length l.length) l := by
  refine ⟨_, _, by rw [List.length_map], by rw [List.length_map]; exact Nat.le_refl _, hl, fun k r hr => ⟨_, _, rfl, by simp, fun j u hj => ?_⟩⟩
  rw [List.getElem?_map] at hr
  cases hx : l[k]? with
  | none => rw [hx] at hr; cases hr
  | some x =>
    rw [hx] at hr; cases hr
    cases j with
    | zero =>
      simp only [List.getElem?_cons_zero, Option.some.injEq] at hj; subst hj
      rw [cell_of_row _ _ _ (l.map encB).toArray t fr (heap_alloc_new _ _)]
      simp [hx]
    | succ j => simp at hj
/-- What Encode answers. -/
def EncP (q : Bool) (s : Sm) (w : World) (e : Ending) (w' : World) : Prop := ∃ v, e = .returned (.tuple #[v, .int .i64 (if q then 0 else 130)]) ∧ OwnB w' w.heap.size v (if q then symB s else []) ∧ Below w.heap.size w w'
set_option maxHeartbeats 4000000 in
set_option maxRecDepth 100000 in
theorem encode_no (s : Sm) {cv vv pv : Value} (hS : SmAt w s cv vv pv) (hc : ¬ smOk s) :
    Calls Try.prog 11 #[.agg (scells s cv vv pv)] w (EncP false s w) := by
  have c1 := hS.c.1.one
  have c2 := hS.v.1.one
  have c3 : pv.oneCell' = true := by obtain ⟨pvs, _, h, _⟩ := hS.p; exact h.one
  have HB0 := Lib.hid ((Below.refl w.heap.size w).alloc (Nat.le_refl _) (.cells (scells s cv vv pv) 26))
  have hl0 := load_blk Try.underlying26 rfl sz_sym (Blk.new w (scells s cv vv pv) 26) rfl
  have H1 := Lib.hid (right_any (w := w.alloc (.cells (scells s cv vv pv) 26)) s (hS.below HB0.out) (q := false) ⟨(fun h => by cases h), fun h => absurd h hc⟩)
  clear hS hc
  go_enter Try.func11, Try.ntmps11
  go_wp2_with (go_at_call 10; refine H1.out.mono ?_; rintro e w1 ⟨rfl, hb1⟩; have HB1 := Lib.hid (HB0.out.trans (hb1.mono HB0.out.size)); clear hb1)
  go_ret2
  exact ⟨_, rfl, World.ownsRow_nil _ _ _ _, HB1.out⟩
set_option maxHeartbeats 4000000 in
set_option maxRecDepth 100000 in
theorem encode_yes (s : Sm) {cv vv pv : Value} (hS : SmAt w s cv vv pv) (hc : smOk s) :
    Calls Try.prog 11 #[.agg (scells s cv vv pv)] w (EncP true s w) := by
  have c1 := hS.c.1.one
  have c2 := hS.v.1.one
  have c3 : pv.oneCell' = true := by obtain ⟨pvs, _, h, _⟩ := hS.p; exact h.one
  have HB0 := Lib.hid ((Below.refl w.heap.size w).alloc (Nat.le_refl _) (.cells (scells s cv vv pv) 26))
  have KX0 := Lib.hid (Blk.new w (scells s cv vv pv) 26)
  have hl0 := load_blk Try.underlying26 rfl sz_sym (Blk.new w (scells s cv vv pv) 26) rfl
  have H1 := Lib.hid (right_any (w := w.alloc (.cells (scells s cv vv pv) 26)) s (hS.below HB0.out) (q := true) ⟨fun _ => hc, fun _ => rfl⟩)
  have HL := Lib.hid (symB_len hc)
  have HC := Lib.hid hc
  have HS := Lib.hid hS
  clear hS hc
  have kc := fun (w : World) (C : Array Value) (n c : Nat) => Lib.run_convert_bytes_const (P := Try.prog) w 30 5 C n c Try.underlying30 Try.underlying5
  go_enter Try.func11, Try.ntmps11
  go_wp2_with (go_at_call 10; refine H1.out.mono ?_; rintro e w1 ⟨rfl, hb1⟩; have HB1 := Lib.hid (HB0.out.trans (hb1.mono HB0.out.size)); have KX1 := Lib.hid (KX0.out.step hb1); clear hb1; have z1 := (KX1.out.old (.cells #[.int .u8 67, .int .u8 82, .int .u8 83, .int .u8 49] 5 (4, 5))).cell 0; have HF1 := Lib.hid (show BytesAt (w1.alloc (.cells #[.int .u8 67, .int .u8 82, .int .u8 83, .int .u8 49] 5 (4, 5))) (.slice (some ⟨w1.heap.size, 0, none⟩) 4 4) [67, 82, 83, 49] from bytes_new w1 [67, 82, 83, 49] (by decide) 5 (4, 5)); have HBA := Lib.hid ((Below.refl w1.heap.size w1).alloc (Nat.le_refl _) (.cells #[.int .u8 67, .int .u8 82, .int .u8 83, .int .u8 49] 5 (4, 5))))
  refine (puttext_any HF1.out s.name (by have := HC.out.1.2.1; omega) (by decide)).mono ?_
  rintro e w2 ⟨v2, rfl, ho2, hb2⟩
  have HB2 := Lib.hid (HB1.out.trans ((HBA.out.trans (hb2.mono HBA.out.size)).mono HB1.out.size))
  have HO2 := Lib.hid (own_bytes ho2)
  have KX2 := Lib.hid ((KX1.out.old _).step hb2)
  clear ho2 hb2 HF1 HBA z1
  have z2 := KX2.out.cell 1
  go_wp2_with fail
  refine (row_const s.consts HO2.out (HS.out.c.below HB2.out) (fun c hc => ⟨by have := (cst_fit (HC.out.2.2.2.2.2.2.1 c hc)).1; omega, by have := cst_name HC.out hc; omega, by have := (cst_fit (HC.out.2.2.2.2.2.2.1 c hc)).2.1; omega, by have := (cst_fit (HC.out.2.2.2.2.2.2.1 c hc)).2.2; omega⟩) HC.out.2.1 ?_).mono ?_
  · have := HL.out; unfold symB txt at this; simp only [List.length_append] at this ⊢; omega
  rintro e w3 ⟨v3, rfl, ho3, hb3⟩
  have HB3 := Lib.hid (HB2.out.trans (hb3.mono HB2.out.size))
  have HO3 := Lib.hid (own_bytes ho3)
  have KX3 := Lib.hid (KX2.out.step hb3)
  clear ho3 hb3 HO2 z2
  have z3 := KX3.out.cell 2
  go_wp2_with fail
  refine (row_var s.vars HO3.out (HS.out.v.below HB3.out) (fun c hc => ⟨(HC.out.2.2.2.2.2.2.2.1 c hc).1, by have := vr_name HC.out hc; omega, (HC.out.2.2.2.2.2.2.2.1 c hc).2.1, vr_fit (HC.out.2.2.2.2.2.2.2.1 c hc)⟩) HC.out.2.2.1 ?_).mono ?_
  · have := HL.out; unfold symB txt at this; simp only [List.length_append] at this ⊢; omega
  rintro e w4 ⟨v4, rfl, ho4, hb4⟩
  have HB4 := Lib.hid (HB3.out.trans (hb4.mono HB3.out.size))
  have HO4 := Lib.hid (own_bytes ho4)
  have KX4 := Lib.hid (KX3.out.step hb4)
  clear ho4 hb4 HO3 z3
  have z4 := KX4.out.cell 3
  go_wp2_with fail
  refine (row_proc s.procs HO4.out (HS.out.p.below HB4.out) (fun c hc => ⟨by have := (HC.out.2.2.2.2.2.2.2.2 c hc).2.2; unfold plainF at this; omega, by have := pr_name HC.out hc; omega, fun q hq => ((HC.out.2.2.2.2.2.2.2.2 c hc).1 q hq).1, by have := (HC.out.2.2.2.2.2.2.2.2 c hc).2.1; omega⟩) (by have := HC.out.2.2.2.1; omega) ?_).mono ?_
  · have := HL.out; unfold symB txt at this; simp only [List.length_append] at this ⊢; omega
  rintro e w5 ⟨v5, rfl, ho5, hb5⟩
  have HB5 := Lib.hid (HB4.out.trans (hb5.mono HB4.out.size))
  have HO5 := Lib.hid (own_weak ho5 HB4.out.size)
  clear ho5 hb5 HO4 z4
  go_wp2_with fail
  go_ret2
  exact ⟨_, rfl, by have h := HO5.out; unfold symB txt; simp only [List.append_assoc, if_true] at h ⊢; exact h, HB5.out⟩
end
end Go.Proofs.Ytgemnmceflcpcaa
