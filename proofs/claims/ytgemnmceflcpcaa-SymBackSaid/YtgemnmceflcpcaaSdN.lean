/- The reader: rows of procedures. -/
import Derived.Test.YtgemnmceflcpcaaSdM
namespace Go.Proofs.Ytgemnmceflcpcaa
open Go Go.RowKit Go.Lib Go.Proofs.Ytgemnmceflcpcaa.Sy Pl
set_option linter.unusedVariables false
set_option linter.unusedSimpArgs false
attribute [local go_sem ↓] exec_load_const exec_store_const exec_load_var exec_store_var exec_load_proc exec_store_proc
attribute [local go_sem] ccells vcells pcells
abbrev prows (l : List Pr) (pvs : List Value) : List (List Value) := List.zipWith (fun p pv => (pcells p pv).toList) l pvs
/-- Procedures of the call's own, each with a parameters' list of the call's own. -/
structure OwnPs (w : World) (B : Nat) (u : Value) (l : List Pr) (pvs : List Value) : Prop where
  len : pvs.length = l.length
  own : OwnL w B 63 3 u (prows l pvs)
  each : ∀ (k : Nat) (p : Pr) (pv : Value), l[k]? = some p → pvs[k]? = some pv → OwnL w B 73 5 pv (vrows p.params)
theorem own_ne {w : World} {B B' : Nat} {t1 t2 : TypeId} {s1 s2 n1 n2 : Nat} {v1 v2 : Value} {x1 x2 : List Value} (h1 : w.ownsRow B t1 s1 v1 n1 x1) (h2 : w.ownsRow B' t2 s2 v2 n2 x2) (ht : t1 ≠ t2) (a b : Nat) (ha : v1.ownBlock = some a) (hb : v2.ownBlock = some b) : a ≠ b := by
  rcases h1.2 with ⟨e, _⟩ | ⟨g1, c1, cur1, e1, _, k1, _⟩
  · rw [e] at ha; cases ha
  · rcases h2.2 with ⟨e, _⟩ | ⟨g2, c2, cur2, e2, _, k2, _⟩
    · rw [e] at hb; cases hb
    · rw [e1] at ha; rw [e2] at hb
      cases ha; cases hb
      rintro rfl
      rw [k1] at k2
      cases k2; exact ht rfl
theorem OwnPs.touch {w w' : World} {B : Nat} {u : Value} {l : List Pr} {pvs : List Value} {s : List Nat} (h : OwnPs w B u l pvs) (T : Touch w w' s) (hn : ∀ x ∈ s, x < B) : OwnPs w' B u l pvs :=
  ⟨h.len, h.own.touch T hn, fun k p pv hp hv => (h.each k p pv hp hv).touch T hn⟩
theorem OwnPs.nil_ (w : World) (B : Nat) : OwnPs w B (.slice none 0 0) [] [] := ⟨rfl, World.ownsRow_nil _ _ _ _, fun k p pv h => by cases h⟩
theorem prows_len {l : List Pr} {pvs : List Value} (h : pvs.length = l.length) : (prows l pvs).length = l.length := by unfold prows; rw [List.length_zipWith, h, Nat.min_self]
theorem prows_snoc {l : List Pr} {pvs : List Value} (h : pvs.length = l.length) (p : Pr) (pv : Value) : prows (l ++ [p]) (pvs ++ [pv]) = prows l pvs ++ [(pcells p pv).toList] := by
  unfold prows; rw [List.zipWith_append h.symm]; rfl
/-- One more behind. -/
theorem OwnPs.push {w w' : World} {B : Nat} {u u' : Value} {l : List Pr} {pvs : List Value} {p : Pr} {pv : Value} (h : OwnPs w B u l pvs) (hp : OwnL w B 73 5 pv (vrows p.params)) (T : Touch w w' u.ownBlock.toList) (ho : OwnL w' B 63 3 u' (prows (l ++ [p]) (pvs ++ [pv]))) : OwnPs w' B u' (l ++ [p]) (pvs ++ [pv]) := by
  have far : ∀ qv rows, OwnL w B 73 5 qv rows → OwnL w' B 73 5 qv rows := fun qv rows hq => T.owns hq (fun g hg hm => by
    simp only [Option.mem_toList, Option.mem_def] at hm
    exact own_ne h.own hq (by decide) g g hm hg rfl)
  refine ⟨by rw [List.length_append, List.length_append, h.len]; rfl, ho, fun k q qv hq hv => far _ _ ?_⟩
  by_cases hk : k < l.length
  · rw [List.getElem?_append_left hk] at hq
    rw [List.getElem?_append_left (by rw [h.len]; exact hk)] at hv
    exact h.each k q qv hq hv
  · rw [List.getElem?_append_right (by omega)] at hq
    rw [List.getElem?_append_right (by rw [h.len]; omega), h.len] at hv
    cases hz : k - l.length with
    | zero => rw [hz] at hq hv; simp at hq hv; rw [← hq, ← hv]; exact hp
    | succ n => rw [hz] at hq; simp at hq
theorem info_proc : (Try.prog.info? 63).map (fun i => (i.zero, i.size, i.bytes)) = some (some (.agg #[.string ⟨#[]⟩, .slice none 0 0, .int .i64 0]), 3, 48) := by kernel_rfl
theorem OwnL.form {w : World} {B : Nat} {ty : TypeId} {sz : Nat} {v : Value} {rows : List (List Value)} (h : OwnL w B ty sz v rows) : ∃ A n c, v = .slice A n c := by
  rcases h.2 with ⟨e, _⟩ | ⟨g', cp, cur, e, _⟩
  · exact ⟨_, _, _, e⟩
  · exact ⟨_, _, _, e⟩
section
variable {w : World} {g : Nat} {v : Value} {l : List Int}
set_option maxHeartbeats 4000000 in
set_option maxRecDepth 100000 in
theorem rows_proc {r : Rd} (hR : RdAt w g v l r) (most : Nat) (hm : most ≤ 200) :
    Calls Try.prog 58 #[.pointer (some ⟨g, 0, none⟩), .int .u32 most, .func (.func 59) #[.pointer (some ⟨g, 0, none⟩)] #[]] w fun e w' => ∃ u pvs, e = .returned u ∧ OwnPs w' w.heap.size u (countS l (procS l) most r).1 pvs ∧ RdAt w' g v l (countS l (procS l) most r).2 ∧ Touch w w' [g] := by
  have hg := hR.blk.lt
  have HM := Lib.hid (numS_le l most r)
  have H1 := Lib.hid (number_r hR most (by omega))
  have HMM := Lib.hid hm
  obtain ⟨i0, hi, hz0, hz1, hz2⟩ := info_parts info_proc
  have HI := Lib.hid hi
  have HZ0 := Lib.hid hz0
  have HZ1 := Lib.hid hz1
  have HZ2 := Lib.hid hz2
  unfold countS
  obtain ⟨n0, r0, hn⟩ : ∃ n0 r0, numS l most r = (n0, r0) := ⟨_, _, rfl⟩
  rw [hn] at HM H1 ⊢
  simp only at HM H1 ⊢
  clear hi hz0 hz1 hz2 hn hR hm
  go_enter Try.func58, Try.ntmps58
  go_wp2_with (go_at_call 57; refine H1.out.mono ?_; rintro e w1 ⟨rfl, hr1, ht1⟩; have HR1 := Lib.hid hr1; have HT1 := Lib.hid ht1; clear hr1 ht1)
  go_loopw [7, 8] (fun u i wr => ∃ (k : Nat) (acc : List Pr) (pvs : List Value) (rk : Rd), i = .int .i64 k ∧ Hid (acc.length + k ≤ 200) ∧ Hid (rowsS (procS l) n0 r0 = (acc ++ (rowsS (procS l) k rk).1, (rowsS (procS l) k rk).2)) ∧ Hid (RdAt wr g v l rk) ∧ Hid (Touch w wr [g]) ∧ Hid (OwnPs wr w.heap.size u acc pvs)) (fun _ i _ => (intOf i).toNat)
  case atStart => exact ⟨n0, [], [], r0, rfl, Lib.hid (by have := HM.out; have := HMM.out; simp; omega), Lib.hid (by simp), HR1, HT1, Lib.hid (OwnPs.nil_ _ _)⟩
  case round =>
    obtain ⟨k, acc, pvs, rk, rfl, HK, HE, HR, HT, OWN⟩ := hrel
    by_cases hk0 : k = 0
    · subst hk0
      go_wp2_with fail
      go_ret
      refine ⟨_, pvs, rfl, ?_, ?_, HT.out⟩
      · rw [HE.out, rowsS_zero, List.append_nil]; exact OWN.out
      · rw [HE.out, rowsS_zero]; exact HR.out
    · have hk1 : (0 : Int) < (k : Int) := by omega
      cases hok : rk.ok with
      | false =>
        have c2 : wr.cell? ⟨g, 2, none⟩ = some (.int .i64 (rk.pos : Int)) := by have := HR.out.blk.cell 2; rw [this]; simp [rcells, Rd.bad, hok]
        have hp0 : (0 : Int) ≤ (rk.pos : Int) := by omega
        have HOK := Lib.hid hok
        clear hok
        go_wp2_with fail
        go_ret
        refine ⟨_, pvs, rfl, ?_, ?_, HT.out⟩
        · rw [HE.out, rowsS_bad _ _ HOK.out, List.append_nil]; exact OWN.out
        · rw [HE.out, rowsS_bad _ _ HOK.out]; exact HR.out
      | true =>
        have c2 : wr.cell? ⟨g, 2, none⟩ = some (.int .i64 (-1)) := by have := HR.out.blk.cell 2; rw [this]; simp [rcells, Rd.bad, hok]
        obtain ⟨j, rfl⟩ : ∃ j, k = j + 1 := ⟨k - 1, by omega⟩
        obtain ⟨x, r', hx⟩ : ∃ x r', procS l rk = (x, r') := ⟨_, _, rfl⟩
        have HE2 := Lib.hid (show rowsS (procS l) n0 r0 = ((acc ++ [x]) ++ (rowsS (procS l) j r').1, (rowsS (procS l) j r').2) by rw [HE.out, rowsS_step _ _ hok hx]; simp)
        have H2 := Lib.hid (proc_r HR.out)
        rw [hx] at H2
        have H2 : Hid (Calls Try.prog 59 #[.pointer (some ⟨g, 0, none⟩)] wr (PrP g v l wr r' x)) := H2
        have hj9 : (j : Int) ≤ 200 := by have := HK.out; omega
        clear hok hx HE
        go_wp2_with (first
          | (at_builtin; refine wpList_append_own _ rfl _ _ 24 rfl w.heap.size 63 i0 (.agg #[.string ⟨#[]⟩, .slice none 0 0, .int .i64 0]) 3 48 Try.underlying24 HI.out HZ0.out HZ1.out HZ2.out rfl (by decide) _ _ _ rfl (World.ownsRow.alloc OWN3.out.own _) ⟨w3.heap.size, 0, none⟩ 1 1 (pcells x (.slice A pn pc)).toList rfl rfl ?c1 ?c2 ?c3 ?c4 ?c5 ?_)
          | (go_at_call 59; refine H2.out.mono ?_; rintro e w3 ⟨qv, rfl, oq3, hr3, ht3⟩; obtain ⟨A, pn, pc, rfl⟩ := oq3.form; have OQ3 := Lib.hid (oq3.weak (B' := w.heap.size) HT.out.size); have OWN3 := Lib.hid (OWN.out.touch ht3 (fun y hy => by simp only [List.mem_singleton] at hy; omega)); clear oq3; have HR3 := Lib.hid hr3; have HT3 := Lib.hid (HT.out.trans ht3 (fun x h _ => h)); clear hr3 ht3))
        case c2 => exact ⟨rfl, rfl, rfl⟩
        case c3 => have := HK.out; have := prows_len OWN3.out.len; unfold maxLen; omega
        case c4 => have := HK.out; have := prows_len OWN3.out.len; omega
        case c5 => have := HT3.out.size; simp; omega
        intro v' w8 hown8 hgrow8 _
        have T8 := Touch.of_grown hgrow8
        have TA8 := Lib.hid (Touch.alloc w3 (.cells (pcells x (.slice A pn pc)) 63))
        have OWN8 := Lib.hid (OwnPs.push (OWN3.out.touch TA8.out (fun y h => by cases h)) (OQ3.out.touch TA8.out (fun y h => by cases h)) T8 (by rw [prows_snoc OWN3.out.len]; exact ownL_push (by unfold prows; rw [List.length_zipWith]; exact hown8)))
        have HR8 := Lib.hid ((HR3.out.new (pcells x (.slice A pn pc)) 63).touch T8 (fun y hy => by simp only [Option.mem_toList, Option.mem_def] at hy; have := (own_lt OWN3.out.own y hy).2; omega))
        have HT8 := Lib.hid (Touch.trans (HT3.out.trans ((Touch.alloc w3 (.cells (pcells x (.slice A pn pc)) 63)).mono (r' := [g]) (fun y h => by cases h)) (fun y h _ => h)) T8 (fun y hy hlt => by simp only [Option.mem_toList, Option.mem_def] at hy; have := (own_lt OWN3.out.own y hy).2; omega))
        clear hown8 hgrow8 T8
        go_wp2_with fail
        go_roundw
        case rel => exact ⟨j, acc ++ [x], pvs ++ [.slice A pn pc], r', by first | go_num | rfl, Lib.hid (by have := HK.out; simp; omega), HE2, HR8, HT8, OWN8⟩
        case measure => simp [intOf]
end
end Go.Proofs.Ytgemnmceflcpcaa
