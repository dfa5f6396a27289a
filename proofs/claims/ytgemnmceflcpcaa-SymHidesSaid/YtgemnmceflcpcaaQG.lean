/- The reader: a procedure. -/
import Derived.Test.YtgemnmceflcpcaaSdL
import Derived.DataShut
namespace Go.Proofs.Ytgemnmceflcpcaa
open Go Go.RowKit Go.Lib Go.Proofs.Ytgemnmceflcpcaa.Sy Pl
set_option linter.unusedVariables false
set_option linter.unusedSimpArgs false
attribute [local go_sem ↓] exec_load_const exec_store_const exec_load_var exec_store_var exec_load_proc exec_store_proc
theorem OwnL.weak {w : World} {B B' : Nat} {ty : TypeId} {sz : Nat} {v : Value} {rows : List (List Value)} (h : OwnL w B ty sz v rows) (hB : B' ≤ B) : OwnL w B' ty sz v rows := by
  refine ⟨h.1, ?_⟩
  rcases h.2 with h2 | ⟨g, cp, cur, e, h1, r⟩
  · exact .inl h2
  · exact .inr ⟨g, cp, cur, e, by omega, r⟩
theorem OwnL.one {w : World} {B : Nat} {ty : TypeId} {sz : Nat} {v : Value} {rows : List (List Value)} (h : OwnL w B ty sz v rows) : v.oneCell' = true := by
  rcases h.2 with ⟨e, _⟩ | ⟨g, cp, cur, e, _⟩ <;> rw [e] <;> rfl
@[reducible] def zPrc : Array Value := #[.string ⟨#[]⟩, .slice none 0 0, .int .i64 0]
abbrev vrows (l : List Vr) : List (List Value) := l.map fun c => (vcells c).toList
section
variable {w : World} {g : Nat} {v : Value} {l : List Int}
/-- A procedure read. -/
def PrP (g : Nat) (v : Value) (l : List Int) (w : World) (r' : Rd) (x : Pr) (e : Ending) (w' : World) : Prop :=
  ∃ pv, e = .returned (.agg (pcells x pv)) ∧ OwnL w' w.heap.size 73 5 pv (vrows x.params) ∧ RdAt w' g v l r' ∧ Touch w w' [g]
set_option maxHeartbeats 4000000 in
set_option maxRecDepth 100000 in
theorem proc_r {r : Rd} (hR : RdAt w g v l r) :
    Calls Try.prog 59 #[.pointer (some ⟨g, 0, none⟩)] w (PrP g v l w (procS l r).2 (procS l r).1) := by
  have hg := hR.blk.lt
  have KB0 := Lib.hid ((Blk.new w #[.pointer (some ⟨g, 0, none⟩)] 97).old (.cells zPrc 63))
  have KZ0 := Lib.hid (Blk.new (w.alloc (.cells #[.pointer (some ⟨g, 0, none⟩)] 97)) zPrc 63)
  have HR0 := Lib.hid ((hR.new #[.pointer (some ⟨g, 0, none⟩)] 97).new zPrc 63)
  have HT0 := Lib.hid (((Touch.alloc w (.cells #[.pointer (some ⟨g, 0, none⟩)] 97)).trans (Touch.alloc _ (.cells zPrc 63)) (fun x h _ => h)).mono (r' := [g]) (fun x h => by cases h))
  obtain ⟨a, r1, ha⟩ : ∃ a r1, textS l 20 r = (a, r1) := ⟨_, _, rfl⟩
  obtain ⟨ps, r2, hp⟩ : ∃ ps r2, countS l (parS l) 8 r1 = (ps, r2) := ⟨_, _, rfl⟩
  obtain ⟨f, r3, hf⟩ : ∃ f r3, byteS l resB r2 = (f, r3) := ⟨_, _, rfl⟩
  have HE := Lib.hid (show procS l r = (⟨a, ps, f⟩, r3) by unfold procS; simp only [ha, hp, hf])
  have HA := Lib.hid ha
  have HP := Lib.hid hp
  have HF := Lib.hid hf
  have hmf := hmf_sy
  simp only [World.size_alloc] at KZ0
  have b0 := KB0.out.cell 0
  clear ha hp hf hR
  go_enter Try.func59, Try.ntmps59
  go_upto_region 1 with fail
  generalize (w.alloc (.cells #[.pointer (some ⟨g, 0, none⟩)] 97)).alloc (.cells zPrc 63) = w0 at KB0 KZ0 HR0 HT0 b0 ⊢
  go_wp2_with fail
  refine (text_r HR0.out 20 (by decide)).mono ?_
  rintro e w1 ⟨rfl, hr, ht⟩
  have KB1 := Lib.hid (ht.blk KB0.out (by simp; omega))
  have KZ1 := Lib.hid (ht.blk KZ0.out (by simp; omega))
  have HT1 := Lib.hid (HT0.out.trans ht (fun x h _ => h))
  simp only [HA.out] at hr ⊢
  have HR1 := Lib.hid hr
  have hst1 := store_blk_new w1 zPrc (pcells ⟨a, [], 0⟩ (.slice none 0 0)) 63 sz_proc rfl rfl (pcells_one _ rfl)
  have KB2 := Lib.hid (KB1.out.old (.cells (pcells ⟨a, [], 0⟩ (.slice none 0 0)) 63))
  have KZ2 := Lib.hid (KZ1.out.old (.cells (pcells ⟨a, [], 0⟩ (.slice none 0 0)) 63))
  have KV2 := Lib.hid (Blk.new w1 (pcells ⟨a, [], 0⟩ (.slice none 0 0)) 63)
  have HR2 := Lib.hid (HR1.out.new (pcells ⟨a, [], 0⟩ (.slice none 0 0)) 63)
  have HT2 := Lib.hid (HT1.out.trans ((Touch.alloc w1 (.cells (pcells ⟨a, [], 0⟩ (.slice none 0 0)) 63)).mono (r' := [g]) (fun x h => by cases h)) (fun x h _ => h))
  have hgv := KZ1.out.lt
  clear hr ht b0 KB0 KZ0 HR0 HT0 KB1 KZ1 HR1 HT1
  go_upto_region 2 with fail
  clear hst1
  generalize w1.heap.size = gv at KV2 hgv ⊢
  generalize w1.alloc (.cells (pcells ⟨a, [], 0⟩ (.slice none 0 0)) 63) = w2 at KB2 KZ2 KV2 HR2 HT2 ⊢
  have b2 := KB2.out.cell 0
  go_wp2_with fail
  refine (rows_par HR2.out 8 (by decide) KB2.out (by omega)).mono ?_
  rintro e w4 ⟨pv, rfl, ow, hr, ht⟩
  have hw2 := KV2.out.lt
  have KB4 := Lib.hid (ht.blk KB2.out (by simp; omega))
  have KZ4 := Lib.hid (ht.blk KZ2.out (by simp; omega))
  have KV4 := Lib.hid (ht.blk KV2.out (by simp; omega))
  have HT4 := Lib.hid (HT2.out.trans ht (fun x h _ => h))
  simp only [HP.out] at hr ow ⊢
  have HR4 := Lib.hid hr
  have OW4 := Lib.hid ow
  have pv1 := OwnL.one ow
  obtain ⟨A, pn, pc, rfl⟩ : ∃ A pn pc, pv = .slice A pn pc := by
    rcases ow.2 with ⟨e, _⟩ | ⟨g', cp, cur, e, _⟩
    · exact ⟨_, _, _, e⟩
    · exact ⟨_, _, _, e⟩
  generalize w2.heap.size = B2 at OW4 hw2
  clear hr ht ow b2 KB2 KZ2 KV2 HR2 HT2
  have c1 := KV4.out.cell 1
  have f1 := KV4.out.frozen 1
  have KV5 : Hid (Blk (w4.setCell ⟨gv, 1, none⟩ (.slice A pn pc)) gv (pcells ⟨a, ps, 0⟩ (.slice A pn pc)) 63) := Lib.hid (KV4.out.set 1 _)
  have KB5 := Lib.hid (KB4.out.far (p := ⟨gv, 1, none⟩) (show w.heap.size ≠ gv by omega) (.slice A pn pc))
  have KZ5 := Lib.hid (KZ4.out.far (p := ⟨gv, 1, none⟩) (show w.heap.size + 1 ≠ gv by omega) (.slice A pn pc))
  have HR5 := Lib.hid (HR4.out.touch (Touch.set w4 ⟨gv, 1, none⟩ (.slice A pn pc)) (fun x hx => by simp only [List.mem_singleton] at hx; subst hx; omega))
  have OW5 := Lib.hid (OW4.out.touch (Touch.set w4 ⟨gv, 1, none⟩ (.slice A pn pc)) (fun x hx => by simp only [List.mem_singleton] at hx; subst hx; omega))
  have HT5 := Lib.hid (Touch.trans HT4.out ((Touch.set w4 ⟨gv, 1, none⟩ (.slice A pn pc)).mono (r' := [gv]) (fun x h => h)) (fun x hx hlt => by simp only [List.mem_singleton] at hx; omega))
  go_upto_region 3 with fail
  generalize w4.setCell ⟨gv, 1, none⟩ (.slice A pn pc) = w5 at KB5 KV5 KZ5 HR5 OW5 HT5 ⊢
  clear c1 f1 KB4 KV4 KZ4 HR4 OW4 HT4
  have b5 := KB5.out.cell 0
  go_wp2_with fail
  refine (byte_r HR5.out asks_res).mono ?_
  rintro e w6 ⟨rfl, hr, ht⟩
  have KZ6 := Lib.hid (ht.blk KZ5.out (by simp; omega))
  have KV6 := Lib.hid (ht.blk KV5.out (by simp; omega))
  have HT6 := Lib.hid (HT5.out.trans ht (fun x h _ => h))
  have OW6 := Lib.hid (OW5.out.touch ht (fun x hx => by simp only [List.mem_singleton] at hx; subst hx; omega))
  simp only [HF.out] at hr ⊢
  have HR6 := Lib.hid hr
  clear hr ht b5 KB5 KZ5 KV5 HR5 OW5 HT5
  have c2 := KV6.out.cell 2
  have f2 := KV6.out.frozen 2
  have KV7 : Hid (Blk (w6.setCell ⟨gv, 2, none⟩ (.int .i64 f)) gv (pcells ⟨a, ps, f⟩ (.slice A pn pc)) 63) := Lib.hid (KV6.out.set 2 _)
  have KZ7 := Lib.hid (KZ6.out.far (p := ⟨gv, 2, none⟩) (show w.heap.size + 1 ≠ gv by omega) (.int .i64 f))
  have HR7 := Lib.hid (HR6.out.touch (Touch.set w6 ⟨gv, 2, none⟩ (.int .i64 f)) (fun x hx => by simp only [List.mem_singleton] at hx; subst hx; omega))
  have OW7 := Lib.hid (OW6.out.touch (Touch.set w6 ⟨gv, 2, none⟩ (.int .i64 f)) (fun x hx => by simp only [List.mem_singleton] at hx; subst hx; omega))
  have HT7 := Lib.hid (Touch.trans HT6.out ((Touch.set w6 ⟨gv, 2, none⟩ (.int .i64 f)).mono (r' := [gv]) (fun x h => h)) (fun x hx hlt => by simp only [List.mem_singleton] at hx; omega))
  go_upto_region 4 with fail
  generalize w6.setCell ⟨gv, 2, none⟩ (.int .i64 f) = w7 at KV7 KZ7 HR7 OW7 HT7 ⊢
  clear c2 f2 KV6 KZ6 HR6 OW6 HT6
  have hl5 := load_blk Try.underlying63 rfl sz_proc KV7.out rfl
  have hst5 := store_blk sz_proc KZ7.out rfl rfl (pcells_one ⟨a, ps, f⟩ pv1)
  have hres := loadVar_blk Try.underlying63 rfl sz_proc (KZ7.out.setRow (pcells ⟨a, ps, f⟩ (.slice A pn pc))) rfl
  have HRF := Lib.hid (HR7.out.touch (Touch.row w7 (w.heap.size + 1) (pcells ⟨a, ps, f⟩ (.slice A pn pc))) (fun x hx => by simp only [List.mem_singleton] at hx; subst hx; omega))
  have OWF := Lib.hid (OW7.out.touch (Touch.row w7 (w.heap.size + 1) (pcells ⟨a, ps, f⟩ (.slice A pn pc))) (fun x hx => by simp only [List.mem_singleton] at hx; subst hx; omega))
  have HTF := Lib.hid (Touch.trans HT7.out (Touch.row w7 (w.heap.size + 1) (pcells ⟨a, ps, f⟩ (.slice A pn pc))) (fun x hx hlt => by simp only [List.mem_singleton] at hx; omega))
  go_wp2_with fail
  rw [HE.out]
  refine bodyPost_ret (v := .agg (pcells ⟨a, ps, f⟩ (.slice A pn pc))) ?_ rfl ⟨_, rfl, OWF.out.weak (by omega), HRF.out, HTF.out⟩
  simp [results, Try.results59, asAddr, hres]
end
end Go.Proofs.Ytgemnmceflcpcaa
namespace Go.Proofs.Ytgemnmceflcpcaa
open Go Go.RowKit Go.Lib Go.Proofs.Ytgemnmceflcpcaa.Sy Pl
set_option linter.unusedVariables false
set_option linter.unusedSimpArgs false
attribute [local go_sem ↓] exec_load_const exec_store_const exec_load_var exec_store_var exec_load_proc exec_store_proc
attribute [local go_sem] ccells vcells pcells
abbrev prows (l : List Pr) (pvs : List Value) : List (List Value) := List.zipWith (fun p pv => (pcells p pv).toList) l pvs
/-- Procedures of the call's own, each with a parameters' list of the call's own. -/
structure OwnPs (w : World) (B : Nat) (u : Value) (l : List Pr) (pvs : List Value) : Prop where
  len : pvs.length = l.length
  own : OwnL w B 63 3 u (prows l pvs)
  each : ∀ (k : Nat) (p : Pr) (pv : Value), l[k]? = some p → pvs[k]? = some pv → OwnL w B 73 5 pv (vrows p.params)
theorem own_ne {w : World} {B B' : Nat} {t1 t2 : TypeId} {s1 s2 n1 n2 : Nat} {v1 v2 : Value} {x1 x2 : List Value} (h1 : w.ownsRow B t1 s1 v1 n1 x1) (h2 : w.ownsRow B' t2 s2 v2 n2 x2) (ht : t1 ≠ t2) (a b : Nat) (ha : v1.ownBlock = some a) (hb : v2.ownBlock = some b) : a ≠ b := by
  rcases h1.2 with ⟨e, _⟩ | ⟨g1, c1, cur1, e1, _, k1, _⟩
  · rw [e] at ha; cases ha
  · rcases h2.2 with ⟨e, _⟩ | ⟨g2, c2, cur2, e2, _, k2, _⟩
    · rw [e] at hb; cases hb
    · rw [e1] at ha; rw [e2] at hb
      cases ha; cases hb
      rintro rfl
      rw [k1] at k2
      cases k2; exact ht rfl
theorem OwnPs.touch {w w' : World} {B : Nat} {u : Value} {l : List Pr} {pvs : List Value} {s : List Nat} (h : OwnPs w B u l pvs) (T : Touch w w' s) (hn : ∀ x ∈ s, x < B) : OwnPs w' B u l pvs :=
  ⟨h.len, h.own.touch T hn, fun k p pv hp hv => (h.each k p pv hp hv).touch T hn⟩
theorem OwnPs.nil_ (w : World) (B : Nat) : OwnPs w B (.slice none 0 0) [] [] := ⟨rfl, World.ownsRow_nil _ _ _ _, fun k p pv h => by cases h⟩
theorem prows_len {l : List Pr} {pvs : List Value} (h : pvs.length = l.length) : (prows l pvs).length = l.length := by unfold prows; rw [List.length_zipWith, h, Nat.min_self]
theorem prows_snoc {l : List Pr} {pvs : List Value} (h : pvs.length = l.length) (p : Pr) (pv : Value) : prows (l ++ [p]) (pvs ++ [pv]) = prows l pvs ++ [(pcells p pv).toList] := by
  unfold prows; rw [List.zipWith_append h.symm]; rfl
/-- One more behind. -/
theorem OwnPs.push {w w' : World} {B : Nat} {u u' : Value} {l : List Pr} {pvs : List Value} {p : Pr} {pv : Value} (h : OwnPs w B u l pvs) (hp : OwnL w B 73 5 pv (vrows p.params)) (T : Touch w w' u.ownBlock.toList) (ho : OwnL w' B 63 3 u' (prows (l ++ [p]) (pvs ++ [pv]))) : OwnPs w' B u' (l ++ [p]) (pvs ++ [pv]) := by
  have far : ∀ qv rows, OwnL w B 73 5 qv rows → OwnL w' B 73 5 qv rows := fun qv rows hq => T.owns hq (fun g hg hm => by
    simp only [Option.mem_toList, Option.mem_def] at hm
    exact own_ne h.own hq (by decide) g g hm hg rfl)
  refine ⟨by rw [List.length_append, List.length_append, h.len]; rfl, ho, fun k q qv hq hv => far _ _ ?_⟩
  by_cases hk : k < l.length
  · rw [List.getElem?_append_left hk] at hq
    rw [List.getElem?_append_left (by rw [h.len]; exact hk)] at hv
    exact h.each k q qv hq hv
  · rw [List.getElem?_append_right (by omega)] at hq
    rw [List.getElem?_append_right (by rw [h.len]; omega), h.len] at hv
    cases hz : k - l.length with
    | zero => rw [hz] at hq hv; simp at hq hv; rw [← hq, ← hv]; exact hp
    | succ n => rw [hz] at hq; simp at hq
theorem info_proc : (Try.prog.info? 63).map (fun i => (i.zero, i.size, i.bytes)) = some (some (.agg #[.string ⟨#[]⟩, .slice none 0 0, .int .i64 0]), 3, 48) := by kernel_rfl
theorem OwnL.form {w : World} {B : Nat} {ty : TypeId} {sz : Nat} {v : Value} {rows : List (List Value)} (h : OwnL w B ty sz v rows) : ∃ A n c, v = .slice A n c := by
  rcases h.2 with ⟨e, _⟩ | ⟨g', cp, cur, e, _⟩
  · exact ⟨_, _, _, e⟩
  · exact ⟨_, _, _, e⟩
section
variable {w : World} {g : Nat} {v : Value} {l : List Int}
set_option maxHeartbeats 4000000 in
set_option maxRecDepth 100000 in
theorem rows_proc {r : Rd} (hR : RdAt w g v l r) (most : Nat) (hm : most ≤ 200) :
    Calls Try.prog 58 #[.pointer (some ⟨g, 0, none⟩), .int .u32 most, .func (.func 59) #[.pointer (some ⟨g, 0, none⟩)] #[]] w fun e w' => ∃ u pvs, e = .returned u ∧ OwnPs w' w.heap.size u (countS l (procS l) most r).1 pvs ∧ RdAt w' g v l (countS l (procS l) most r).2 ∧ Touch w w' [g] := by
  have hg := hR.blk.lt
  have HM := Lib.hid (numS_le l most r)
  have H1 := Lib.hid (number_r hR most (by omega))
  have HMM := Lib.hid hm
  obtain ⟨i0, hi, hz0, hz1, hz2⟩ := info_parts info_proc
  have HI := Lib.hid hi
  have HZ0 := Lib.hid hz0
  have HZ1 := Lib.hid hz1
  have HZ2 := Lib.hid hz2
  unfold countS
  obtain ⟨n0, r0, hn⟩ : ∃ n0 r0, numS l most r = (n0, r0) := ⟨_, _, rfl⟩
  rw [hn] at HM H1 ⊢
  simp only at HM H1 ⊢
  clear hi hz0 hz1 hz2 hn hR hm
  go_enter Try.func58, Try.ntmps58
  go_wp2_with (go_at_call 57; refine H1.out.mono ?_; rintro e w1 ⟨rfl, hr1, ht1⟩; have HR1 := Lib.hid hr1; have HT1 := Lib.hid ht1; clear hr1 ht1)
  go_loopw [7, 8] (fun u i wr => ∃ (k : Nat) (acc : List Pr) (pvs : List Value) (rk : Rd), i = .int .i64 k ∧ Hid (acc.length + k ≤ 200) ∧ Hid (rowsS (procS l) n0 r0 = (acc ++ (rowsS (procS l) k rk).1, (rowsS (procS l) k rk).2)) ∧ Hid (RdAt wr g v l rk) ∧ Hid (Touch w wr [g]) ∧ Hid (OwnPs wr w.heap.size u acc pvs)) (fun _ i _ => (intOf i).toNat)
  case atStart => exact ⟨n0, [], [], r0, rfl, Lib.hid (by have := HM.out; have := HMM.out; simp; omega), Lib.hid (by simp), HR1, HT1, Lib.hid (OwnPs.nil_ _ _)⟩
  case round =>
    obtain ⟨k, acc, pvs, rk, rfl, HK, HE, HR, HT, OWN⟩ := hrel
    by_cases hk0 : k = 0
    · subst hk0
      go_wp2_with fail
      go_ret
      refine ⟨_, pvs, rfl, ?_, ?_, HT.out⟩
      · rw [HE.out, rowsS_zero, List.append_nil]; exact OWN.out
      · rw [HE.out, rowsS_zero]; exact HR.out
    · have hk1 : (0 : Int) < (k : Int) := by omega
      cases hok : rk.ok with
      | false =>
        have c2 : wr.cell? ⟨g, 2, none⟩ = some (.int .i64 (rk.pos : Int)) := by have := HR.out.blk.cell 2; rw [this]; simp [rcells, Rd.bad, hok]
        have hp0 : (0 : Int) ≤ (rk.pos : Int) := by omega
        have HOK := Lib.hid hok
        clear hok
        go_wp2_with fail
        go_ret
        refine ⟨_, pvs, rfl, ?_, ?_, HT.out⟩
        · rw [HE.out, rowsS_bad _ _ HOK.out, List.append_nil]; exact OWN.out
        · rw [HE.out, rowsS_bad _ _ HOK.out]; exact HR.out
      | true =>
        have c2 : wr.cell? ⟨g, 2, none⟩ = some (.int .i64 (-1)) := by have := HR.out.blk.cell 2; rw [this]; simp [rcells, Rd.bad, hok]
        obtain ⟨j, rfl⟩ : ∃ j, k = j + 1 := ⟨k - 1, by omega⟩
        obtain ⟨x, r', hx⟩ : ∃ x r', procS l rk = (x, r') := ⟨_, _, rfl⟩
        have HE2 := Lib.hid (show rowsS (procS l) n0 r0 = ((acc ++ [x]) ++ (rowsS (procS l) j r').1, (rowsS (procS l) j r').2) by rw [HE.out, rowsS_step _ _ hok hx]; simp)
        have H2 := Lib.hid (proc_r HR.out)
        rw [hx] at H2
        have H2 : Hid (Calls Try.prog 59 #[.pointer (some ⟨g, 0, none⟩)] wr (PrP g v l wr r' x)) := H2
        have hj9 : (j : Int) ≤ 200 := by have := HK.out; omega
        clear hok hx HE
        go_wp2_with (first
          | (at_builtin; refine wpList_append_own _ rfl _ _ 24 rfl w.heap.size 63 i0 (.agg #[.string ⟨#[]⟩, .slice none 0 0, .int .i64 0]) 3 48 Try.underlying24 HI.out HZ0.out HZ1.out HZ2.out rfl (by decide) _ _ _ rfl (World.ownsRow.alloc OWN3.out.own _) ⟨w3.heap.size, 0, none⟩ 1 1 (pcells x (.slice A pn pc)).toList rfl rfl ?c1 ?c2 ?c3 ?c4 ?c5 ?_)
          | (go_at_call 59; refine H2.out.mono ?_; rintro e w3 ⟨qv, rfl, oq3, hr3, ht3⟩; obtain ⟨A, pn, pc, rfl⟩ := oq3.form; have OQ3 := Lib.hid (oq3.weak (B' := w.heap.size) HT.out.size); have OWN3 := Lib.hid (OWN.out.touch ht3 (fun y hy => by simp only [List.mem_singleton] at hy; omega)); clear oq3; have HR3 := Lib.hid hr3; have HT3 := Lib.hid (HT.out.trans ht3 (fun x h _ => h)); clear hr3 ht3))
        case c2 => exact ⟨rfl, rfl, rfl⟩
        case c3 => have := HK.out; have := prows_len OWN3.out.len; unfold maxLen; omega
        case c4 => have := HK.out; have := prows_len OWN3.out.len; omega
        case c5 => have := HT3.out.size; simp; omega
        intro v' w8 hown8 hgrow8 _
        have T8 := Touch.of_grown hgrow8
        have TA8 := Lib.hid (Touch.alloc w3 (.cells (pcells x (.slice A pn pc)) 63))
        have OWN8 := Lib.hid (OwnPs.push (OWN3.out.touch TA8.out (fun y h => by cases h)) (OQ3.out.touch TA8.out (fun y h => by cases h)) T8 (by rw [prows_snoc OWN3.out.len]; exact ownL_push (by unfold prows; rw [List.length_zipWith]; exact hown8)))
        have HR8 := Lib.hid ((HR3.out.new (pcells x (.slice A pn pc)) 63).touch T8 (fun y hy => by simp only [Option.mem_toList, Option.mem_def] at hy; have := (own_lt OWN3.out.own y hy).2; omega))
        have HT8 := Lib.hid (Touch.trans (HT3.out.trans ((Touch.alloc w3 (.cells (pcells x (.slice A pn pc)) 63)).mono (r' := [g]) (fun y h => by cases h)) (fun y h _ => h)) T8 (fun y hy hlt => by simp only [Option.mem_toList, Option.mem_def] at hy; have := (own_lt OWN3.out.own y hy).2; omega))
        clear hown8 hgrow8 T8
        go_wp2_with fail
        go_roundw
        case rel => exact ⟨j, acc ++ [x], pvs ++ [.slice A pn pc], r', by first | go_num | rfl, Lib.hid (by have := HK.out; simp; omega), HE2, HR8, HT8, OWN8⟩
        case measure => simp [intOf]
end
end Go.Proofs.Ytgemnmceflcpcaa
namespace Go.Proofs.Ytgemnmceflcpcaa
open Go Go.RowKit Go.Lib Go.Proofs.Ytgemnmceflcpcaa.Sy Pl
set_option linter.unusedVariables false
set_option linter.unusedSimpArgs false
section
variable {l : List Int}
theorem textS_size (most : Nat) (r : Rd) : (textS l most r).1.size ≤ most := by
  unfold textS
  split
  · split
    · next h => exact (textL_len h).2
    · exact Nat.zero_le _
  · exact Nat.zero_le _
theorem byteS_bd (ho : Oct l) (may : Int → Bool) (r : Rd) : 0 ≤ (byteS l may r).1 ∧ (byteS l may r).1 ≤ 255 := by
  unfold byteS
  split
  · split
    · exact oct_getD ho r.pos
    · exact ⟨Int.le_refl 0, show (0 : Int) ≤ 255 by decide⟩
  · exact ⟨Int.le_refl 0, show (0 : Int) ≤ 255 by decide⟩
theorem wordS_bd (ho : Oct l) (r : Rd) : 0 ≤ (wordS l r).1 ∧ (wordS l r).1 < 4294967296 := by
  unfold wordS wordL
  have h0 := oct_getD ho r.pos; have h1 := oct_getD ho (r.pos + 1); have h2 := oct_getD ho (r.pos + 2); have h3 := oct_getD ho (r.pos + 3)
  split
  · split
    · simp only; omega
    · exact ⟨Int.le_refl 0, show (0 : Int) < 4294967296 by decide⟩
  · exact ⟨Int.le_refl 0, show (0 : Int) < 4294967296 by decide⟩
theorem wf64 {n : Int} (h : -9223372036854775808 ≤ n ∧ n ≤ 9223372036854775807) : (Lit.int .i64 n).wf = true := (Lit.wf_int_iff _ _).2 h
theorem cfit {a s : ByteArray} {t n : Int} {b : Bool} (h1 : a.size ≤ 1000) (h2 : s.size ≤ 1000) (h3 : 0 ≤ t ∧ t ≤ 255) (h4 : -2147483648 ≤ n ∧ n ≤ 4294967295) : CFit ⟨a, t, n, s, b⟩ := ⟨show a.size ≤ maxLen by unfold maxLen; omega, show s.size ≤ maxLen by unfold maxLen; omega, wf64 (show _ ≤ t ∧ t ≤ _ from ⟨by omega, by omega⟩), wf64 (show _ ≤ n ∧ n ≤ _ from ⟨by omega, by omega⟩)⟩
theorem vfit {a : ByteArray} {f n : Int} {b c : Bool} (h1 : a.size ≤ 1000) (h3 : 0 ≤ f ∧ f ≤ 255) (h4 : 0 ≤ n ∧ n ≤ 4294967295) : VFit ⟨a, f, n, b, c⟩ := ⟨show a.size ≤ maxLen by unfold maxLen; omega, wf64 (show _ ≤ f ∧ f ≤ _ from ⟨by omega, by omega⟩), wf64 (show _ ≤ n ∧ n ≤ _ from ⟨by omega, by omega⟩)⟩
theorem const_fit (ho : Oct l) (r : Rd) : CFit (constS l r).1 := by
  have h1 := textS_size (l := l) 20 r
  have ht := byteS_bd ho typeB (textS l 20 r).2
  unfold constS
  simp only
  split
  · have h2 := textS_size (l := l) 200 (byteS l typeB (textS l 20 r).2).2
    exact cfit (by omega) (by omega) (by omega) (by omega)
  · have hw := wordS_bd ho (byteS l typeB (textS l 20 r).2).2
    refine cfit (by omega) (show (0 : Nat) ≤ 1000 by omega) ht ?_
    split
    · unfold sgnW; split <;> omega
    · omega
theorem var_fit (ho : Oct l) (r : Rd) : VFit (varS l r).1 := by
  have h1 := textS_size (l := l) 20 r
  have ht := byteS_bd ho plainB (textS l 20 r).2
  have hn := numS_le l 4294967295 (byteS l plainB (textS l 20 r).2).2
  unfold varS
  exact vfit (by omega) ht ⟨by omega, by omega⟩
theorem par_fit (ho : Oct l) (r : Rd) : VFit (parS l r).1 := by
  have ht := byteS_bd ho plainB r
  unfold parS
  exact vfit (show (0 : Nat) ≤ 1000 by omega) ht ⟨by omega, by omega⟩
theorem rows_all {α : Type} {one : Rd → α × Rd} {P : α → Prop} (h : ∀ r, P (one r).1) : ∀ (n : Nat) (r : Rd), ∀ x ∈ (rowsS one n r).1, P x
  | 0, r, x, hx => by cases hx
  | n + 1, r, x, hx => by
    unfold rowsS at hx
    split at hx
    · rcases List.mem_cons.1 hx with e | e
      · rw [e]; exact h r
      · exact rows_all h n _ x e
    · cases hx
def PFit (p : Pr) : Prop := p.name.size ≤ maxLen ∧ (Lit.int .i64 p.result).wf = true ∧ ∀ x ∈ p.params, VFit x
theorem pfit {a : ByteArray} {ps : List Vr} {f : Int} (h1 : a.size ≤ 1000) (h2 : 0 ≤ f ∧ f ≤ 255) (h3 : ∀ x ∈ ps, VFit x) : PFit ⟨a, ps, f⟩ := ⟨show a.size ≤ maxLen by unfold maxLen; omega, wf64 (show _ ≤ f ∧ f ≤ _ from ⟨by omega, by omega⟩), h3⟩
theorem proc_fit (ho : Oct l) (r : Rd) : PFit (procS l r).1 := by
  have h1 := textS_size (l := l) 20 r
  have ht := byteS_bd ho resB (countS l (parS l) 8 (textS l 20 r).2).2
  unfold procS
  exact pfit (by omega) ht (rows_all (P := VFit) (par_fit ho) _ _)
/-- Symbols whose values are values of their types. -/
structure SFit (s : Sm) : Prop where
  name : s.name.size ≤ maxLen
  c : ∀ x ∈ s.consts, CFit x
  v : ∀ x ∈ s.vars, VFit x
  p : ∀ x ∈ s.procs, PFit x
theorem sfit {a : ByteArray} {c : List Cst} {v : List Vr} {p : List Pr} (h1 : a.size ≤ 1000) (hc : ∀ x ∈ c, CFit x) (hv : ∀ x ∈ v, VFit x) (hp : ∀ x ∈ p, PFit x) : SFit ⟨a, c, v, p⟩ := ⟨show a.size ≤ maxLen by unfold maxLen; omega, hc, hv, hp⟩
theorem read_fit (ho : Oct l) : SFit (readS l).1 := by
  have h1 := textS_size (l := l) 20 ⟨4, true⟩
  unfold readS
  exact sfit (by omega) (rows_all (P := CFit) (const_fit ho) _ _) (rows_all (P := VFit) (var_fit ho) _ _) (rows_all (P := PFit) (proc_fit ho) _ _)
theorem noSym_fit : SFit noSym := ⟨by decide, (fun x h => by cases h), (fun x h => by cases h), (fun x h => by cases h)⟩
end
theorem OwnPs.weak {w : World} {B B' : Nat} {u : Value} {l : List Pr} {pvs : List Value} (h : OwnPs w B u l pvs) (hB : B' ≤ B) : OwnPs w B' u l pvs := ⟨h.len, h.own.weak hB, fun k p pv hp hv => (h.each k p pv hp hv).weak hB⟩
/-- Symbols in memory of the call's own, from block B on. -/
structure SmOwn (w : World) (B : Nat) (s : Sm) (cv vv pv : Value) (pvs : List Value) : Prop where
  fit : SFit s
  c : OwnL w B 48 5 cv (s.consts.map fun c => (ccells c).toList)
  v : OwnL w B 73 5 vv (vrows s.vars)
  p : OwnPs w B pv s.procs pvs
theorem SmOwn.touch {w w' : World} {B : Nat} {s : Sm} {cv vv pv : Value} {pvs : List Value} {r : List Nat} (h : SmOwn w B s cv vv pv pvs) (T : Touch w w' r) (hn : ∀ x ∈ r, x < B) : SmOwn w' B s cv vv pv pvs :=
  ⟨h.fit, h.c.touch T hn, h.v.touch T hn, h.p.touch T hn⟩
theorem SmOwn.weak {w : World} {B B' : Nat} {s : Sm} {cv vv pv : Value} {pvs : List Value} (h : SmOwn w B s cv vv pv pvs) (hB : B' ≤ B) : SmOwn w B' s cv vv pv pvs :=
  ⟨h.fit, h.c.weak hB, h.v.weak hB, ⟨h.p.len, h.p.own.weak hB, fun k p pv hp hv => (h.p.each k p pv hp hv).weak hB⟩⟩
theorem SmOwn.below {w w' : World} {B : Nat} {s : Sm} {cv vv pv : Value} {pvs : List Value} (h : SmOwn w B s cv vv pv pvs) (b : Below w.heap.size w w') : SmOwn w' B s cv vv pv pvs :=
  h.touch (Touch.of_below b []) (fun x hx => by cases hx)
theorem vrows_own {w : World} {B : Nat} {v : Value} {l : List Vr} (h : OwnL w B 73 5 v (vrows l)) (hf : ∀ x ∈ l, VFit x) : VrsAt w v l :=
  ⟨own_rows (fun r hr => by obtain ⟨x, _, rfl⟩ := List.mem_map.1 hr; rfl) h, hf⟩
theorem SmOwn.at {w : World} {B : Nat} {s : Sm} {cv vv pv : Value} {pvs : List Value} (h : SmOwn w B s cv vv pv pvs) : SmAt w s cv vv pv := by
  refine ⟨h.fit.name, ⟨own_rows (fun r hr => by obtain ⟨x, _, rfl⟩ := List.mem_map.1 hr; rfl) h.c, h.fit.c⟩, vrows_own h.v h.fit.v, pvs, h.p.len, own_rows (fun r hr => ?_) h.p.own, fun k p qv hp hv => ?_⟩
  · unfold prows at hr
    obtain ⟨k, hk, rfl⟩ := List.getElem_of_mem hr
    rw [List.getElem_zipWith]; rfl
  · have hm := List.mem_of_getElem? hp
    exact ⟨(h.fit.p p hm).1, (h.fit.p p hm).2.1, vrows_own (h.p.each k p qv hp hv) (h.fit.p p hm).2.2⟩
theorem noSym_own (w : World) (B : Nat) : SmOwn w B noSym (.slice none 0 0) (.slice none 0 0) (.slice none 0 0) [] := ⟨noSym_fit, World.ownsRow_nil _ _ _ _, World.ownsRow_nil _ _ _ _, OwnPs.nil_ _ _⟩
end Go.Proofs.Ytgemnmceflcpcaa
