/- The document's Decode: its body. -/
import Derived.Test.YtgemnmceflcpcaaSrL
import Derived.StillTailTactics
import Derived.Deep.CutBlock
namespace Go.Proofs.Ytgemnmceflcpcaa
open Go Go.RowKit Go.Lib Go.Proofs.Ytgemnmceflcpcaa.Sy Pl
set_option linter.unusedVariables false
set_option linter.unusedSimpArgs false
attribute [local go_sem ↓] exec_load_const exec_store_const exec_load_var exec_store_var exec_load_proc exec_store_proc exec_load_sym exec_store_sym
theorem iteWanted {c : Prop} [Decidable c] {A B : Prop} (h : c) (k : A) : if c then A else B := by rw [if_pos h]; exact k
section
variable {w : World} {l : List Int}
set_option maxHeartbeats 8000000 in
set_option maxRecDepth 100000 in
theorem rdecode_body {v : Value} (hF : BytesAt w v l) (ho : Oct l) (hh : headOk l) :
    Calls Try.prog 19 #[v] w (DecP l w) := by
  have hlen : 4 ≤ l.length := by have := congrArg List.length hh.2; rw [List.length_take] at this; simp at this; omega
  obtain ⟨A, cap, rfl, hc1, hc2, hrd⟩ := bytes_form hF
  have HBz := Lib.hid ((Below.refl w.heap.size w).alloc (Nat.le_refl _) (.cells zSym 26))
  have hm : ((strOfNums (l.take 4)).toList == [67, 82, 83, 49]) = true := by
    rw [magic_iff (oct_take ho 4)]; exact decide_eq_true hh.2
  obtain ⟨b, off, rfl, hb, hcl⟩ := hrd (by omega)
  have hF0 : BytesAt (w.alloc (.cells zSym 26)) _ l := hF.below HBz.out
  obtain ⟨_, _, e, _, _, hrd0⟩ := bytes_form hF0
  cases e
  obtain ⟨b0, off0, e, hb0, hcl0⟩ := hrd0 (by omega)
  cases e
  have hcv := take_four (v := .slice none 0 0) hb0 hcl0 hc2 (by omega) hc1
  have h4i : 4 ≤ (l.length : Int) := by omega
  have h1i : (l.length : Int) ≤ 1048576 := by have := hh.1; omega
  have HHD := Lib.hid hh
  have HF := Lib.hid hF
  have HO := Lib.hid ho
  obtain ⟨V, hV⟩ : ∃ V, V = Value.slice (some ⟨b, off, none⟩) l.length cap := ⟨_, rfl⟩
  have KZ2 := Lib.hid ((Blk.new w zSym 26).old (.cells (rcells (.slice (some ⟨b, off, none⟩) l.length cap) 4 (-1)) 112))
  have KR2 := Blk.new (w.alloc (.cells zSym 26)) (rcells (.slice (some ⟨b, off, none⟩) l.length cap) 4 (-1)) 112
  have HB2 := Lib.hid (HBz.out.alloc (by simp) (.cells (rcells (.slice (some ⟨b, off, none⟩) l.length cap) 4 (-1)) 112))
  simp only [World.size_alloc] at KR2
  have HR2 := Lib.hid (show RrAt _ (w.heap.size + 1) (.slice (some ⟨b, off, none⟩) l.length cap) l ⟨4, true⟩ from ⟨KR2, hF.below HB2.out, (fun _ x hx => by cases hx; show b < w.heap.size + 1; omega), ho, by have := hh.1; omega, hlen⟩)
  unfold maxLen at hc2
  clear hF ho hh hcl hcl0 hF0 KR2
  go_enter Try.func19, Try.ntmps19
  go_upto_region 4 with fail
  generalize (w.alloc (.cells zSym 26)).alloc (.cells (rcells (.slice (some ⟨b, off, none⟩) l.length cap) 4 (-1)) 112) = w2 at KZ2 HB2 HR2 ⊢
  clear hcv hm HBz
  have HT2 := Lib.hid (Touch.refl w2 [w.heap.size + 1])
  have hs2 := HR2.out.blk.lt
  obtain ⟨a, r1, ha⟩ : ∃ a r1, textS l 20 ⟨4, true⟩ = (a, r1) := ⟨_, _, rfl⟩
  obtain ⟨n1, q1, hn1⟩ : ∃ n q, numS l 200 r1 = (n, q) := ⟨_, _, rfl⟩
  obtain ⟨cs, r2, hcs⟩ : ∃ cs r2, rowsS (constS l) n1 q1 = (cs, r2) := ⟨_, _, rfl⟩
  obtain ⟨n2, q2, hn2⟩ : ∃ n q, numS l 200 r2 = (n, q) := ⟨_, _, rfl⟩
  obtain ⟨vs, r3, hvs⟩ : ∃ vs r3, rowsS (varS l) n2 q2 = (vs, r3) := ⟨_, _, rfl⟩
  obtain ⟨n3, q3, hn3⟩ : ∃ n q, numS l 100 r3 = (n, q) := ⟨_, _, rfl⟩
  obtain ⟨ps, r4, hps⟩ : ∃ ps r4, rowsS (procS l) n3 q3 = (ps, r4) := ⟨_, _, rfl⟩
  have HE := Lib.hid (show readS l = (⟨a, cs, vs, ps⟩, if r4.ok = true then ⟨r4.pos, decide (r4.pos = l.length)⟩ else r4) by unfold readS countS; simp only [ha, hn1, hcs, hn2, hvs, hn3, hps])
  have hl1 : n1 ≤ 200 := by have := numS_le l 200 r1; rw [hn1] at this; exact this
  have hl2 : n2 ≤ 200 := by have := numS_le l 200 r2; rw [hn2] at this; exact this
  have hl3 : n3 ≤ 100 := by have := numS_le l 100 r3; rw [hn3] at this; exact this
  have HA := Lib.hid ha
  have HN1 := Lib.hid hn1
  have HN2 := Lib.hid hn2
  have HN3 := Lib.hid hn3
  have HCS := Lib.hid hcs
  have HVS := Lib.hid hvs
  have HPS := Lib.hid hps
  clear ha hn1 hn2 hn3 hcs hvs hps hV V
  obtain ⟨i0, hi, hz0, hz1, hz2⟩ := info_parts info_const
  have HI := Lib.hid hi
  have HZ0 := Lib.hid hz0
  have HZ1 := Lib.hid hz1
  have HZ2 := Lib.hid hz2
  clear hi hz0 hz1 hz2
  go_wp2_with fail
  refine (rtext_r HR2.out 20 (by decide)).mono ?_
  rintro e w3 ⟨rfl, hr, ht⟩
  have KZ3 := Lib.hid (ht.blk KZ2.out (by simp))
  have HT3 := Lib.hid (HT2.out.trans ht (fun x h _ => h))
  simp only [HA.out] at hr ⊢
  have HR3 := Lib.hid hr
  have hst1 := store_blk_new w3 zSym (scells ⟨a, [], [], []⟩ (.slice none 0 0) (.slice none 0 0) (.slice none 0 0)) 26 sz_sym rfl rfl (scells_one _ rfl rfl rfl)
  have KZ4 := Lib.hid (KZ3.out.old (.cells (scells ⟨a, [], [], []⟩ (.slice none 0 0) (.slice none 0 0) (.slice none 0 0)) 26))
  have KS4 := Lib.hid (Blk.new w3 (scells ⟨a, [], [], []⟩ (.slice none 0 0) (.slice none 0 0) (.slice none 0 0)) 26)
  have HR4 := Lib.hid (HR3.out.new (scells ⟨a, [], [], []⟩ (.slice none 0 0) (.slice none 0 0) (.slice none 0 0)) 26)
  have HT4 := Lib.hid (HT3.out.trans ((Touch.alloc w3 (.cells (scells ⟨a, [], [], []⟩ (.slice none 0 0) (.slice none 0 0) (.slice none 0 0)) 26)).mono (r' := [w.heap.size + 1]) (fun x h => by cases h)) (fun x h _ => h))
  have hgs := HR3.out.blk.lt
  have hgw2 : w2.heap.size ≤ w3.heap.size := HT3.out.size
  clear hr ht KZ2 HR2 HT2 KZ3 HR3 HT3
  go_upto_region 5 with fail
  clear hst1
  generalize w3.heap.size = gs at KS4 hgs hgw2 ⊢
  generalize w3.alloc (.cells (scells ⟨a, [], [], []⟩ (.slice none 0 0) (.slice none 0 0) (.slice none 0 0)) 26) = w4 at KZ4 KS4 HR4 HT4 ⊢
  go_wp2_with fail
  refine (rnumber_r HR4.out 200 (by decide)).mono ?_
  rintro e w5 ⟨rfl, hr, ht⟩
  have KZ5 := Lib.hid (ht.blk KZ4.out (by simp))
  have KS5 := Lib.hid (ht.blk KS4.out (by simp; omega))
  have HT5 := Lib.hid (HT4.out.trans ht (fun x h _ => h))
  simp only [HN1.out] at hr ⊢
  have HR5 := Lib.hid hr
  clear hr ht KZ4 KS4 HR4 HT4
  go_upto_block 0 with fail
  go_cut [7] from 8 to 55 (fun s7 wx => ∃ u, Hid (Blk wx gs (scells ⟨a, [], [], []⟩ u (.slice none 0 0) (.slice none 0 0)) 26) ∧ Hid (Blk wx w.heap.size zSym 26) ∧ Hid (RrAt wx (w.heap.size + 1) (.slice (some ⟨b, off, none⟩) l.length cap) l r2) ∧ Hid (Touch w2 wx [w.heap.size + 1]) ∧ Hid (OwnL wx (gs + 1) 48 5 u (cs.map fun c => (ccells c).toList)))
  case first =>
    go_wp2_with fail
    go_loopw [8] (fun i wr => ∃ (k : Nat) (acc : List Cst) (rk : Rd) (u : Value), i = .int .i64 (acc.length : Nat) ∧ Hid (acc.length + k = n1) ∧ Hid (rowsS (constS l) n1 q1 = (acc ++ (rowsS (constS l) k rk).1, (rowsS (constS l) k rk).2)) ∧ Hid (RrAt wr (w.heap.size + 1) (.slice (some ⟨b, off, none⟩) l.length cap) l rk) ∧ Hid (Touch w2 wr [w.heap.size + 1]) ∧ Hid (Blk wr gs (scells ⟨a, [], [], []⟩ u (.slice none 0 0) (.slice none 0 0)) 26) ∧ Hid (Blk wr w.heap.size zSym 26) ∧ Hid (OwnL wr (gs + 1) 48 5 u (acc.map fun c => (ccells c).toList))) (fun i _ => n1 - (intOf i).toNat)
    case atStart => exact ⟨n1, [], q1, _, rfl, Lib.hid (by simp), Lib.hid (by simp), HR5, HT5, KS5, KZ5, Lib.hid (World.ownsRow_nil _ _ _ _)⟩
    case round =>
      obtain ⟨k, acc, rk, u, rfl, HK, HEE, HR, HT, KS, KZ, OW⟩ := hrel
      clear KS5 KZ5 HR5 HT5
      obtain ⟨Au, un, uc, hu⟩ := OwnL.form OW.out
      subst hu
      by_cases hk0 : k = 0
      · subst hk0
        have hk1 : (acc.length : Int) = (n1 : Int) := by have := HK.out; omega
        have hps : acc = cs ∧ rk = r2 := by have := HEE.out; rw [HCS.out, rowsS_zero, List.append_nil] at this; cases this; exact ⟨rfl, rfl⟩
        obtain ⟨rfl, rfl⟩ := hps
        go_wp2_with fail
        go_meet
        exact ⟨_, KS, KZ, HR, HT, OW⟩
      · have hk1 : (acc.length : Int) < (n1 : Int) := by have := HK.out; omega
        cases hok : rk.ok with
        | false =>
          have l2 := HR.out.isBad hok
          have hps : acc = cs ∧ rk = r2 := by have := HEE.out; rw [HCS.out, rowsS_bad _ _ hok, List.append_nil] at this; cases this; exact ⟨rfl, rfl⟩
          obtain ⟨rfl, rfl⟩ := hps
          go_wp2_with fail
          go_meet
          exact ⟨_, KS, KZ, HR, HT, OW⟩
        | true =>
          have l2 := HR.out.isOk hok
          obtain ⟨jj, rfl⟩ : ∃ j, k = j + 1 := ⟨k - 1, by omega⟩
          obtain ⟨x, r', hx⟩ : ∃ x r', constS l rk = (x, r') := ⟨_, _, rfl⟩
          have HE2 := Lib.hid (show rowsS (constS l) n1 q1 = ((acc ++ [x]) ++ (rowsS (constS l) jj r').1, (rowsS (constS l) jj r').2) by rw [HEE.out, rowsS_step _ _ hok hx]; simp)
          have HX := Lib.hid hx
          clear hok hx HEE
          go_wp2_with fail
          have hgw : gs + 1 ≤ wr.heap.size := KS.out.lt
          refine wp_region_held_drew (S := (fun w' => True)) (by kernel_rfl) trivial (fun hHeld0 => ?_)
          clear hHeld0
          have KSd := Lib.hid KS.out.drew
          have KZd := Lib.hid KZ.out.drew
          have HRd := Lib.hid (show RrAt wr.drew _ _ l rk from HR.out.drewN 1)
          have OWd := Lib.hid (show OwnL wr.drew (gs + 1) 48 5 _ (acc.map fun c => (ccells c).toList) from OwnL.touch OW.out (Touch.drewN wr 1) (fun x h => by cases h))
          have HTd := Lib.hid (show Touch w2 wr.drew [w.heap.size + 1] from HT.out.trans ((Touch.drewN wr 1).mono (fun x h => by cases h)) (fun x h _ => h))
          generalize wr.drew = wd at KSd KZd HRd OWd HTd ⊢
          have hHeld : (fun (w' : World) => True) wd := trivial
          refine tke 0 (v := ?v0a) ?hy0a hHeld ?rest0a
          case hy0a => intro wq qT; clear qT; simp only [List.getElem_toArray, List.getElem_cons_zero, List.getElem_cons_succ]; go_simp; try with_reducible rfl
          refine tke 2 (v := ?v2a) ?hy2a hHeld ?rest2a
          case hy2a => intro wq qT; clear qT; simp only [List.getElem_toArray, List.getElem_cons_zero, List.getElem_cons_succ]; go_simp; try with_reducible rfl
          have hxx := HX.out
          clear hHeld
          refine wpAnyH_ready (rs := [1, 3]) (by kernel_rfl) (by simp) ?_
          refine (AllReadyH.cons (o := _) rfl (fun K hK => ?_) (AllReadyH.cons (o := _) rfl (fun K hK => ?_) AllReadyH.nil))
          · skip
            try simp only [List.getElem_toArray, List.getElem_cons_zero, List.getElem_cons_succ]
            have c1 := KSd.out.cell 1
            go_simp
            clear c1
            refine hK.out _ _ trivial (fun _ => ?_)
            refine wpAnyH_ready (rs := [3]) (by kernel_rfl) (by simp) ?_
            refine (AllReadyH.cons (o := _) rfl (fun K hK => ?_) AllReadyH.nil)
            · skip
              try simp only [List.getElem_toArray, List.getElem_cons_zero, List.getElem_cons_succ]
              go_simp
              go_at_call 63
              refine (rconstant_r HRd.out).mono ?_
              rintro e w6 ⟨rfl, hr, ht⟩
              have KS6 := Lib.hid (ht.blk KSd.out (by simp; omega))
              have KZ6 := Lib.hid (ht.blk KZd.out (by simp))
              have OW6 := Lib.hid (OwnL.touch OWd.out ht (fun x hx => by simp only [List.mem_singleton] at hx; subst hx; omega))
              have HT6 := Lib.hid (HTd.out.trans ht (fun x h _ => h))
              simp only [HX.out] at hr ⊢
              have HR6 := Lib.hid hr
              clear hr ht KSd KZd OWd HTd HRd
              refine hK.out _ _ trivial (fun _ => ?_)
              refine wpAnyH_ready (rs := [4]) (by kernel_rfl) (by simp) ?_
              refine (AllReadyH.cons (o := _) rfl (fun K hK => ?_) AllReadyH.nil)
              · skip
                try simp only [List.getElem_toArray, List.getElem_cons_zero, List.getElem_cons_succ]
                go_simp
                have KS7 := Lib.hid (KS6.out.old (.cells (ccells x) 48))
                refine hK.out _ _ trivial (fun _ => ?_)
                refine wpAnyH_ready (rs := [5]) (by kernel_rfl) (by simp) ?_
                refine (AllReadyH.cons (o := _) rfl (fun K hK => ?_) AllReadyH.nil)
                · skip
                  try simp only [List.getElem_toArray, List.getElem_cons_zero, List.getElem_cons_succ]
                  refine iteWanted (by first | rfl | kernel_rfl) ?_
                  refine wp_append_lies _ _ _ 22 (by rfl) (gs + 1) 48 i0 (.agg #[.string ⟨#[]⟩, .int .i64 0, .int .i64 0, .string ⟨#[]⟩, .bool false]) 5 56 Try.underlying22 HI.out HZ0.out HZ1.out HZ2.out rfl (by decide) (.slice Au un uc) _ _ (by rfl) (World.ownsRow.alloc OW6.out _) ⟨w6.heap.size, 0, none⟩ 1 1 (ccells x).toList (by rfl) rfl (World.news_of_block (Blk.new w6 (ccells x) 48)) (fun u hu => ccells_one x u (by simpa using hu)) (by decide) (by have := HK.out; rw [List.length_map]; unfold maxLen; omega) (by have := HK.out; rw [List.length_map]; omega) (by have := KS6.out.lt; simp; omega) _ rfl ?_
                  intro g9 cap9 w8 hown8 hgrow8 _ hg8
                  have T8 := Touch.of_grown hgrow8
                  have hne : ∀ y ∈ (Value.slice Au un uc).ownBlock.toList, gs + 1 ≤ y := fun y hy => by simp only [Option.mem_toList, Option.mem_def] at hy; exact (own_lt OW6.out y hy).2
                  have OW8 := Lib.hid (show OwnL w8 (gs + 1) 48 5 (.slice (some ⟨g9, 0, none⟩) ((acc.map fun c => (ccells c).toList).length + 1) cap9) ((acc ++ [x]).map fun c => (ccells c).toList) by rw [List.map_append]; exact ownL_push hown8)
                  have KS8 := Lib.hid (T8.blk (KS6.out.old (.cells (ccells x) 48)) (fun hm => by have := hne _ hm; omega))
                  have KZ8 := Lib.hid (T8.blk (KZ6.out.old (.cells (ccells x) 48)) (fun hm => by have := hne _ hm; omega))
                  have HR8 := Lib.hid ((HR6.out.new (ccells x) 48).touch T8 (fun y hy => by have := hne y hy; omega))
                  have HT8 := Lib.hid (Touch.trans (HT6.out.trans ((Touch.alloc w6 (.cells (ccells x) 48)).mono (r' := [w.heap.size + 1]) (fun y h => by cases h)) (fun y h _ => h)) T8 (fun y hy hlt => by have := hne y hy; omega))
                  generalize ((acc.map fun c => (ccells c).toList).length + 1) = nn at OW8 ⊢
                  clear hown8 hgrow8 T8 hne KS6 KZ6 OW6 HT6 HR6
                  refine hK.out _ _ trivial (fun _ => ?_)
                  refine tke 6 (v := ?v61) ?hy61 trivial ?rest61
                  case hy61 => intro wq qT; clear qT; simp only [List.getElem_toArray, List.getElem_cons_zero, List.getElem_cons_succ]; go_simp; try with_reducible rfl
                  refine wpAnyH_ready (rs := [7]) (by kernel_rfl) (by simp) ?_
                  refine AllReadyH.cons (o := _) rfl (fun K hK => ?_) AllReadyH.nil
                  have c1 := KS8.out.cell 1
                  have ff1 := KS8.out.frozen 1
                  try simp only [List.getElem_toArray, List.getElem_cons_zero, List.getElem_cons_succ]
                  go_simp
                  have KS9 : Hid (Blk (w8.setCell ⟨gs, 1, none⟩ (.slice (some ⟨g9, 0, none⟩) nn cap9)) gs (scells ⟨a, [], [], []⟩ (.slice (some ⟨g9, 0, none⟩) nn cap9) (.slice none 0 0) (.slice none 0 0)) 26) := Lib.hid (KS8.out.set 1 _)
                  have KZ9 := Lib.hid (KZ8.out.far (p := ⟨gs, 1, none⟩) (show w.heap.size ≠ gs by omega) (.slice (some ⟨g9, 0, none⟩) nn cap9))
                  have HR9 := Lib.hid (HR8.out.touch (Touch.set w8 ⟨gs, 1, none⟩ (.slice (some ⟨g9, 0, none⟩) nn cap9)) (fun x hx => by simp only [List.mem_singleton] at hx; subst hx; omega))
                  have OW9 := Lib.hid (OwnL.touch OW8.out (Touch.set w8 ⟨gs, 1, none⟩ (.slice (some ⟨g9, 0, none⟩) nn cap9)) (fun x hx => by simp only [List.mem_singleton] at hx; subst hx; omega))
                  have HT9 := Lib.hid (Touch.trans HT8.out ((Touch.set w8 ⟨gs, 1, none⟩ (.slice (some ⟨g9, 0, none⟩) nn cap9)).mono (r' := [gs]) (fun x h => h)) (fun x hx hlt => by simp only [List.mem_singleton] at hx; omega))
                  refine hK.out _ _ trivial (fun _ => ?_)
                  refine wpAnyH_done (by kernel_rfl) ?_ _
                  go_wp2_with fail
                  go_roundw
                  case rel => exact ⟨jj, acc ++ [x], r', _, by first | go_num | simp | rfl, Lib.hid (by have := HK.out; simp; omega), HE2, HR9, HT9, KS9, KZ9, OW9⟩
                  case measure => simp [intOf]; omega
          · skip
            try simp only [List.getElem_toArray, List.getElem_cons_zero, List.getElem_cons_succ]
            go_simp
            go_at_call 63
            refine (rconstant_r HRd.out).mono ?_
            rintro e w6 ⟨rfl, hr, ht⟩
            have KS6 := Lib.hid (ht.blk KSd.out (by simp; omega))
            have KZ6 := Lib.hid (ht.blk KZd.out (by simp))
            have OW6 := Lib.hid (OwnL.touch OWd.out ht (fun x hx => by simp only [List.mem_singleton] at hx; subst hx; omega))
            have HT6 := Lib.hid (HTd.out.trans ht (fun x h _ => h))
            simp only [HX.out] at hr ⊢
            have HR6 := Lib.hid hr
            clear hr ht KSd KZd OWd HTd HRd
            refine hK.out _ _ trivial (fun _ => ?_)
            refine wpAnyH_ready (rs := [1, 4]) (by kernel_rfl) (by simp) ?_
            refine (AllReadyH.cons (o := _) rfl (fun K hK => ?_) (AllReadyH.cons (o := _) rfl (fun K hK => ?_) AllReadyH.nil))
            · skip
              try simp only [List.getElem_toArray, List.getElem_cons_zero, List.getElem_cons_succ]
              have c1 := KS6.out.cell 1
              go_simp
              clear c1
              refine hK.out _ _ trivial (fun _ => ?_)
              refine wpAnyH_ready (rs := [4]) (by kernel_rfl) (by simp) ?_
              refine (AllReadyH.cons (o := _) rfl (fun K hK => ?_) AllReadyH.nil)
              · skip
                try simp only [List.getElem_toArray, List.getElem_cons_zero, List.getElem_cons_succ]
                go_simp
                have KS7 := Lib.hid (KS6.out.old (.cells (ccells x) 48))
                refine hK.out _ _ trivial (fun _ => ?_)
                refine wpAnyH_ready (rs := [5]) (by kernel_rfl) (by simp) ?_
                refine (AllReadyH.cons (o := _) rfl (fun K hK => ?_) AllReadyH.nil)
                · skip
                  try simp only [List.getElem_toArray, List.getElem_cons_zero, List.getElem_cons_succ]
                  refine iteWanted (by first | rfl | kernel_rfl) ?_
                  refine wp_append_lies _ _ _ 22 (by rfl) (gs + 1) 48 i0 (.agg #[.string ⟨#[]⟩, .int .i64 0, .int .i64 0, .string ⟨#[]⟩, .bool false]) 5 56 Try.underlying22 HI.out HZ0.out HZ1.out HZ2.out rfl (by decide) (.slice Au un uc) _ _ (by rfl) (World.ownsRow.alloc OW6.out _) ⟨w6.heap.size, 0, none⟩ 1 1 (ccells x).toList (by rfl) rfl (World.news_of_block (Blk.new w6 (ccells x) 48)) (fun u hu => ccells_one x u (by simpa using hu)) (by decide) (by have := HK.out; rw [List.length_map]; unfold maxLen; omega) (by have := HK.out; rw [List.length_map]; omega) (by have := KS6.out.lt; simp; omega) _ rfl ?_
                  intro g9 cap9 w8 hown8 hgrow8 _ hg8
                  have T8 := Touch.of_grown hgrow8
                  have hne : ∀ y ∈ (Value.slice Au un uc).ownBlock.toList, gs + 1 ≤ y := fun y hy => by simp only [Option.mem_toList, Option.mem_def] at hy; exact (own_lt OW6.out y hy).2
                  have OW8 := Lib.hid (show OwnL w8 (gs + 1) 48 5 (.slice (some ⟨g9, 0, none⟩) ((acc.map fun c => (ccells c).toList).length + 1) cap9) ((acc ++ [x]).map fun c => (ccells c).toList) by rw [List.map_append]; exact ownL_push hown8)
                  have KS8 := Lib.hid (T8.blk (KS6.out.old (.cells (ccells x) 48)) (fun hm => by have := hne _ hm; omega))
                  have KZ8 := Lib.hid (T8.blk (KZ6.out.old (.cells (ccells x) 48)) (fun hm => by have := hne _ hm; omega))
                  have HR8 := Lib.hid ((HR6.out.new (ccells x) 48).touch T8 (fun y hy => by have := hne y hy; omega))
                  have HT8 := Lib.hid (Touch.trans (HT6.out.trans ((Touch.alloc w6 (.cells (ccells x) 48)).mono (r' := [w.heap.size + 1]) (fun y h => by cases h)) (fun y h _ => h)) T8 (fun y hy hlt => by have := hne y hy; omega))
                  generalize ((acc.map fun c => (ccells c).toList).length + 1) = nn at OW8 ⊢
                  clear hown8 hgrow8 T8 hne KS6 KZ6 OW6 HT6 HR6
                  refine hK.out _ _ trivial (fun _ => ?_)
                  refine tke 6 (v := ?v62) ?hy62 trivial ?rest62
                  case hy62 => intro wq qT; clear qT; simp only [List.getElem_toArray, List.getElem_cons_zero, List.getElem_cons_succ]; go_simp; try with_reducible rfl
                  refine wpAnyH_ready (rs := [7]) (by kernel_rfl) (by simp) ?_
                  refine AllReadyH.cons (o := _) rfl (fun K hK => ?_) AllReadyH.nil
                  have c1 := KS8.out.cell 1
                  have ff1 := KS8.out.frozen 1
                  try simp only [List.getElem_toArray, List.getElem_cons_zero, List.getElem_cons_succ]
                  go_simp
                  have KS9 : Hid (Blk (w8.setCell ⟨gs, 1, none⟩ (.slice (some ⟨g9, 0, none⟩) nn cap9)) gs (scells ⟨a, [], [], []⟩ (.slice (some ⟨g9, 0, none⟩) nn cap9) (.slice none 0 0) (.slice none 0 0)) 26) := Lib.hid (KS8.out.set 1 _)
                  have KZ9 := Lib.hid (KZ8.out.far (p := ⟨gs, 1, none⟩) (show w.heap.size ≠ gs by omega) (.slice (some ⟨g9, 0, none⟩) nn cap9))
                  have HR9 := Lib.hid (HR8.out.touch (Touch.set w8 ⟨gs, 1, none⟩ (.slice (some ⟨g9, 0, none⟩) nn cap9)) (fun x hx => by simp only [List.mem_singleton] at hx; subst hx; omega))
                  have OW9 := Lib.hid (OwnL.touch OW8.out (Touch.set w8 ⟨gs, 1, none⟩ (.slice (some ⟨g9, 0, none⟩) nn cap9)) (fun x hx => by simp only [List.mem_singleton] at hx; subst hx; omega))
                  have HT9 := Lib.hid (Touch.trans HT8.out ((Touch.set w8 ⟨gs, 1, none⟩ (.slice (some ⟨g9, 0, none⟩) nn cap9)).mono (r' := [gs]) (fun x h => h)) (fun x hx hlt => by simp only [List.mem_singleton] at hx; omega))
                  refine hK.out _ _ trivial (fun _ => ?_)
                  refine wpAnyH_done (by kernel_rfl) ?_ _
                  go_wp2_with fail
                  go_roundw
                  case rel => exact ⟨jj, acc ++ [x], r', _, by first | go_num | simp | rfl, Lib.hid (by have := HK.out; simp; omega), HE2, HR9, HT9, KS9, KZ9, OW9⟩
                  case measure => simp [intOf]; omega
            · skip
              try simp only [List.getElem_toArray, List.getElem_cons_zero, List.getElem_cons_succ]
              go_simp
              have KS7 := Lib.hid (KS6.out.old (.cells (ccells x) 48))
              refine hK.out _ _ trivial (fun _ => ?_)
              refine wpAnyH_ready (rs := [1]) (by kernel_rfl) (by simp) ?_
              refine (AllReadyH.cons (o := _) rfl (fun K hK => ?_) AllReadyH.nil)
              · skip
                try simp only [List.getElem_toArray, List.getElem_cons_zero, List.getElem_cons_succ]
                have c1 := KS7.out.cell 1
                go_simp
                clear c1
                refine hK.out _ _ trivial (fun _ => ?_)
                refine wpAnyH_ready (rs := [5]) (by kernel_rfl) (by simp) ?_
                refine (AllReadyH.cons (o := _) rfl (fun K hK => ?_) AllReadyH.nil)
                · skip
                  try simp only [List.getElem_toArray, List.getElem_cons_zero, List.getElem_cons_succ]
                  refine iteWanted (by first | rfl | kernel_rfl) ?_
                  refine wp_append_lies _ _ _ 22 (by rfl) (gs + 1) 48 i0 (.agg #[.string ⟨#[]⟩, .int .i64 0, .int .i64 0, .string ⟨#[]⟩, .bool false]) 5 56 Try.underlying22 HI.out HZ0.out HZ1.out HZ2.out rfl (by decide) (.slice Au un uc) _ _ (by rfl) (World.ownsRow.alloc OW6.out _) ⟨w6.heap.size, 0, none⟩ 1 1 (ccells x).toList (by rfl) rfl (World.news_of_block (Blk.new w6 (ccells x) 48)) (fun u hu => ccells_one x u (by simpa using hu)) (by decide) (by have := HK.out; rw [List.length_map]; unfold maxLen; omega) (by have := HK.out; rw [List.length_map]; omega) (by have := KS6.out.lt; simp; omega) _ rfl ?_
                  intro g9 cap9 w8 hown8 hgrow8 _ hg8
                  have T8 := Touch.of_grown hgrow8
                  have hne : ∀ y ∈ (Value.slice Au un uc).ownBlock.toList, gs + 1 ≤ y := fun y hy => by simp only [Option.mem_toList, Option.mem_def] at hy; exact (own_lt OW6.out y hy).2
                  have OW8 := Lib.hid (show OwnL w8 (gs + 1) 48 5 (.slice (some ⟨g9, 0, none⟩) ((acc.map fun c => (ccells c).toList).length + 1) cap9) ((acc ++ [x]).map fun c => (ccells c).toList) by rw [List.map_append]; exact ownL_push hown8)
                  have KS8 := Lib.hid (T8.blk (KS6.out.old (.cells (ccells x) 48)) (fun hm => by have := hne _ hm; omega))
                  have KZ8 := Lib.hid (T8.blk (KZ6.out.old (.cells (ccells x) 48)) (fun hm => by have := hne _ hm; omega))
                  have HR8 := Lib.hid ((HR6.out.new (ccells x) 48).touch T8 (fun y hy => by have := hne y hy; omega))
                  have HT8 := Lib.hid (Touch.trans (HT6.out.trans ((Touch.alloc w6 (.cells (ccells x) 48)).mono (r' := [w.heap.size + 1]) (fun y h => by cases h)) (fun y h _ => h)) T8 (fun y hy hlt => by have := hne y hy; omega))
                  generalize ((acc.map fun c => (ccells c).toList).length + 1) = nn at OW8 ⊢
                  clear hown8 hgrow8 T8 hne KS6 KZ6 OW6 HT6 HR6
                  refine hK.out _ _ trivial (fun _ => ?_)
                  refine tke 6 (v := ?v63) ?hy63 trivial ?rest63
                  case hy63 => intro wq qT; clear qT; simp only [List.getElem_toArray, List.getElem_cons_zero, List.getElem_cons_succ]; go_simp; try with_reducible rfl
                  refine wpAnyH_ready (rs := [7]) (by kernel_rfl) (by simp) ?_
                  refine AllReadyH.cons (o := _) rfl (fun K hK => ?_) AllReadyH.nil
                  have c1 := KS8.out.cell 1
                  have ff1 := KS8.out.frozen 1
                  try simp only [List.getElem_toArray, List.getElem_cons_zero, List.getElem_cons_succ]
                  go_simp
                  have KS9 : Hid (Blk (w8.setCell ⟨gs, 1, none⟩ (.slice (some ⟨g9, 0, none⟩) nn cap9)) gs (scells ⟨a, [], [], []⟩ (.slice (some ⟨g9, 0, none⟩) nn cap9) (.slice none 0 0) (.slice none 0 0)) 26) := Lib.hid (KS8.out.set 1 _)
                  have KZ9 := Lib.hid (KZ8.out.far (p := ⟨gs, 1, none⟩) (show w.heap.size ≠ gs by omega) (.slice (some ⟨g9, 0, none⟩) nn cap9))
                  have HR9 := Lib.hid (HR8.out.touch (Touch.set w8 ⟨gs, 1, none⟩ (.slice (some ⟨g9, 0, none⟩) nn cap9)) (fun x hx => by simp only [List.mem_singleton] at hx; subst hx; omega))
                  have OW9 := Lib.hid (OwnL.touch OW8.out (Touch.set w8 ⟨gs, 1, none⟩ (.slice (some ⟨g9, 0, none⟩) nn cap9)) (fun x hx => by simp only [List.mem_singleton] at hx; subst hx; omega))
                  have HT9 := Lib.hid (Touch.trans HT8.out ((Touch.set w8 ⟨gs, 1, none⟩ (.slice (some ⟨g9, 0, none⟩) nn cap9)).mono (r' := [gs]) (fun x h => h)) (fun x hx hlt => by simp only [List.mem_singleton] at hx; omega))
                  refine hK.out _ _ trivial (fun _ => ?_)
                  refine wpAnyH_done (by kernel_rfl) ?_ _
                  go_wp2_with fail
                  go_roundw
                  case rel => exact ⟨jj, acc ++ [x], r', _, by first | go_num | simp | rfl, Lib.hid (by have := HK.out; simp; omega), HE2, HR9, HT9, KS9, KZ9, OW9⟩
                  case measure => simp [intOf]; omega
  case rest =>
  obtain ⟨u, KS6, KZ6, HR6, HT6, OC6⟩ := hcut
  clear KS5 KZ5 HR5 HT5
  obtain ⟨i1, hi, hz0, hz1, hz2⟩ := info_parts info_var
  have VI := Lib.hid hi
  have VZ0 := Lib.hid hz0
  have VZ1 := Lib.hid hz1
  have VZ2 := Lib.hid hz2
  clear hi hz0 hz1 hz2
  obtain ⟨Ac, nc, cc, hu0⟩ := OwnL.form OC6.out
  subst hu0
  go_wp2_with fail
  refine (rnumber_r HR6.out 200 (by decide)).mono ?_
  rintro e w7 ⟨rfl, hr, ht⟩
  have KZ7 := Lib.hid (ht.blk KZ6.out (by simp))
  have KS7 := Lib.hid (ht.blk KS6.out (by simp; omega))
  have OC7 := Lib.hid (OwnL.touch OC6.out ht (fun x hx => by simp only [List.mem_singleton] at hx; subst hx; omega))
  have HT7 := Lib.hid (HT6.out.trans ht (fun x h _ => h))
  simp only [HN2.out] at hr ⊢
  have HR7 := Lib.hid hr
  have hB7 : gs < w7.heap.size := KS7.out.lt
  have HUC := Lib.hid (fun g hg => (OwnL.lt OC7.out g hg).1)
  have hBB : w7.heap.size ≤ w7.heap.size := Nat.le_refl _
  obtain ⟨B2, hB2⟩ : ∃ B, B = w7.heap.size := ⟨_, rfl⟩
  have HB7 := Lib.hid (show B2 ≤ w7.heap.size by omega)
  rw [← hB2] at HUC hB7
  clear hr ht KZ6 KS6 OC6 HT6 HR6 hB2 hBB
  go_upto_block 2 with fail
  go_cut [7] from 9 to 84 (fun s7 wx => ∃ u, Hid (RrAt wx (w.heap.size + 1) (.slice (some ⟨b, off, none⟩) l.length cap) l r3) ∧ Hid (Touch w2 wx [w.heap.size + 1]) ∧ Hid (Blk wx gs (scells ⟨a, [], [], []⟩ (.slice Ac nc cc) u (.slice none 0 0)) 26) ∧ Hid (Blk wx w.heap.size zSym 26) ∧ Hid (OwnL wx (gs + 1) 48 5 (.slice Ac nc cc) (cs.map fun c => (ccells c).toList)) ∧ Hid (OwnL wx B2 73 5 u (vrows vs)) ∧ Hid (B2 ≤ wx.heap.size))
  case first =>
    go_wp2_with fail
    go_loopw [9] (fun i wr => ∃ (k : Nat) (acc : List Vr) (rk : Rd) (u : Value), i = .int .i64 (acc.length : Nat) ∧ Hid (acc.length + k = n2) ∧ Hid (rowsS (varS l) n2 q2 = (acc ++ (rowsS (varS l) k rk).1, (rowsS (varS l) k rk).2)) ∧ Hid (RrAt wr (w.heap.size + 1) (.slice (some ⟨b, off, none⟩) l.length cap) l rk) ∧ Hid (Touch w2 wr [w.heap.size + 1]) ∧ Hid (Blk wr gs (scells ⟨a, [], [], []⟩ (.slice Ac nc cc) u (.slice none 0 0)) 26) ∧ Hid (Blk wr w.heap.size zSym 26) ∧ Hid (OwnL wr (gs + 1) 48 5 (.slice Ac nc cc) (cs.map fun c => (ccells c).toList)) ∧ Hid (OwnL wr B2 73 5 u (vrows acc)) ∧ Hid (B2 ≤ wr.heap.size)) (fun i _ => n2 - (intOf i).toNat)
    case atStart => exact ⟨n2, [], q2, _, rfl, Lib.hid (by simp), Lib.hid (by simp), HR7, HT7, KS7, KZ7, OC7, Lib.hid (World.ownsRow_nil _ _ _ _), HB7⟩
    case round =>
      obtain ⟨k, acc, rk, u, rfl, HK, HEE, HR, HT, KS, KZ, OC, OW, HB⟩ := hrel
      clear KS7 KZ7 HR7 HT7 OC7 HB7
      obtain ⟨A1, un, uc, hu⟩ := OwnL.form OW.out
      subst hu
      by_cases hk0 : k = 0
      · subst hk0
        have hk1 : (acc.length : Int) = (n2 : Int) := by have := HK.out; omega
        have hps : acc = vs ∧ rk = r3 := by have := HEE.out; rw [HVS.out, rowsS_zero, List.append_nil] at this; cases this; exact ⟨rfl, rfl⟩
        obtain ⟨rfl, rfl⟩ := hps
        go_wp2_with fail
        go_meet
        exact ⟨_, HR, HT, KS, KZ, OC, OW, HB⟩
      · have hk1 : (acc.length : Int) < (n2 : Int) := by have := HK.out; omega
        cases hok : rk.ok with
        | false =>
          have l2 := HR.out.isBad hok
          have hps : acc = vs ∧ rk = r3 := by have := HEE.out; rw [HVS.out, rowsS_bad _ _ hok, List.append_nil] at this; cases this; exact ⟨rfl, rfl⟩
          obtain ⟨rfl, rfl⟩ := hps
          go_wp2_with fail
          go_meet
          exact ⟨_, HR, HT, KS, KZ, OC, OW, HB⟩
        | true =>
          have l2 := HR.out.isOk hok
          obtain ⟨jj, rfl⟩ : ∃ j, k = j + 1 := ⟨k - 1, by omega⟩
          obtain ⟨fa, p1, hfa⟩ : ∃ fa p1, textS l 20 rk = (fa, p1) := ⟨_, _, rfl⟩
          obtain ⟨ff, p2, hff⟩ : ∃ ff p2, byteS l plainB p1 = (ff, p2) := ⟨_, _, rfl⟩
          obtain ⟨fm, p3, hfm⟩ : ∃ fm p3, numS l 4294967295 p2 = (fm, p3) := ⟨_, _, rfl⟩
          have HE2 := Lib.hid (show rowsS (varS l) n2 q2 = ((acc ++ [⟨fa, ff, (fm : Int), false, false⟩]) ++ (rowsS (varS l) jj p3).1, (rowsS (varS l) jj p3).2) by rw [HEE.out, rowsS_step _ _ hok (show varS l rk = (⟨fa, ff, (fm : Int), false, false⟩, p3) by unfold varS; simp only [hfa, hff, hfm])]; simp)
          have HFA := Lib.hid hfa
          have HFF := Lib.hid hff
          have HFM := Lib.hid hfm
          clear hok hfa hff hfm HEE
          go_upto_region 15 with fail
          have hgx : gs < wr.heap.size := KS.out.lt
          have hbx : B2 ≤ wr.heap.size := HB.out
          have hux : ∀ b, (Value.slice A1 un uc).ownBlock = some b → b ≠ wr.heap.size := fun b hb => by have := (OwnL.lt OW.out b hb).1; omega
          have KX8 := Lib.hid (Blk.new wr zVar 73)
          have KS8 := Lib.hid (KS.out.old (.cells zVar 73))
          have KZ8 := Lib.hid (KZ.out.old (.cells zVar 73))
          have HR8 := Lib.hid (HR.out.new zVar 73)
          have OC8 := Lib.hid (OwnL.touch OC.out (Touch.alloc wr (.cells zVar 73)) (fun x h => by cases h))
          have OW8 := Lib.hid (OwnL.touch OW.out (Touch.alloc wr (.cells zVar 73)) (fun x h => by cases h))
          have HT8 := Lib.hid (HT.out.trans ((Touch.alloc wr (.cells zVar 73)).mono (r' := [w.heap.size + 1]) (fun x h => by cases h)) (fun x h _ => h))
          generalize wr.heap.size = gx at KX8 hgx hbx hux ⊢
          generalize wr.alloc (.cells zVar 73) = w8 at KX8 KS8 KZ8 HR8 OC8 OW8 HT8 ⊢
          clear l2 KS KZ HR OC OW HT HB
          go_wp2_with fail
          refine (rtext_r HR8.out 20 (by decide)).mono ?_
          rintro e w9 ⟨rfl, hr, ht⟩
          have KX9 := Lib.hid (ht.blk KX8.out (by simp; omega))
          have KS9 := Lib.hid (ht.blk KS8.out (by simp; omega))
          have KZ9 := Lib.hid (ht.blk KZ8.out (by simp))
          have OC9 := Lib.hid (OwnL.touch OC8.out ht (fun x hx => by simp only [List.mem_singleton] at hx; subst hx; omega))
          have OW9 := Lib.hid (OwnL.touch OW8.out ht (fun x hx => by simp only [List.mem_singleton] at hx; subst hx; omega))
          have HT9 := Lib.hid (HT8.out.trans ht (fun x h _ => h))
          have hz9 := ht.size
          simp only [HFA.out] at hr ⊢
          have HR9 := Lib.hid hr
          clear hr ht KX8 KS8 KZ8 HR8 OC8 OW8 HT8
          have c1 := KX9.out.cell 0
          have ff1 := KX9.out.frozen 0
          go_upto_region 16 with fail
          clear c1 ff1
          have KX10 : Hid (Blk (w9.setCell ⟨gx, 0, none⟩ (.string fa)) gx (vcells ⟨fa, 0, 0, false, false⟩) 73) := Lib.hid (KX9.out.set 0 _)
          have KS10 := Lib.hid (KS9.out.far (p := ⟨gx, 0, none⟩) (show gs ≠ gx by omega) (.string fa))
          have KZ10 := Lib.hid (KZ9.out.far (p := ⟨gx, 0, none⟩) (show w.heap.size ≠ gx by omega) (.string fa))
          have HR10 := Lib.hid (HR9.out.touch (Touch.set w9 ⟨gx, 0, none⟩ (.string fa)) (fun x hx => by simp only [List.mem_singleton] at hx; subst hx; omega))
          have OC10 := Lib.hid (Touch.ownNe OC9.out (Touch.set w9 ⟨gx, 0, none⟩ (.string fa)) (fun y hy => show y ≠ gx by have := HUC.out y hy; omega))
          have OW10 := Lib.hid (Touch.ownNe OW9.out (Touch.set w9 ⟨gx, 0, none⟩ (.string fa)) hux)
          have HT10 := Lib.hid (Touch.trans HT9.out ((Touch.set w9 ⟨gx, 0, none⟩ (.string fa)).mono (r' := [gx]) (fun x h => h)) (fun x hx hlt => by simp only [List.mem_singleton] at hx; omega))
          have hz10 : w9.heap.size ≤ (w9.setCell ⟨gx, 0, none⟩ (.string fa)).heap.size := (Touch.set w9 ⟨gx, 0, none⟩ (.string fa)).size
          generalize w9.setCell ⟨gx, 0, none⟩ (.string fa) = w10 at KX10 KS10 KZ10 HR10 OC10 OW10 HT10 hz10 ⊢
          clear KX9 KS9 KZ9 HR9 OC9 OW9 HT9
          go_wp2_with fail
          refine (one_any HR10.out 1 5).mono ?_
          rintro e w11 ⟨rfl, hr, ht⟩
          have KX11 := Lib.hid (ht.blk KX10.out (by simp; omega))
          have KS11 := Lib.hid (ht.blk KS10.out (by simp; omega))
          have KZ11 := Lib.hid (ht.blk KZ10.out (by simp))
          have OC11 := Lib.hid (OwnL.touch OC10.out ht (fun x hx => by simp only [List.mem_singleton] at hx; subst hx; omega))
          have OW11 := Lib.hid (OwnL.touch OW10.out ht (fun x hx => by simp only [List.mem_singleton] at hx; subst hx; omega))
          have HT11 := Lib.hid (HT10.out.trans ht (fun x h _ => h))
          have hz11 := ht.size
          simp only [within_plain, HFF.out] at hr ⊢
          have HR11 := Lib.hid hr
          clear hr ht KX10 KS10 KZ10 HR10 OC10 OW10 HT10
          have c1 := KX11.out.cell 1
          have ff1 := KX11.out.frozen 1
          go_upto_region 17 with fail
          clear c1 ff1
          have KX12 : Hid (Blk (w11.setCell ⟨gx, 1, none⟩ (.int .i64 ff)) gx (vcells ⟨fa, ff, 0, false, false⟩) 73) := Lib.hid (KX11.out.set 1 _)
          have KS12 := Lib.hid (KS11.out.far (p := ⟨gx, 1, none⟩) (show gs ≠ gx by omega) (.int .i64 ff))
          have KZ12 := Lib.hid (KZ11.out.far (p := ⟨gx, 1, none⟩) (show w.heap.size ≠ gx by omega) (.int .i64 ff))
          have HR12 := Lib.hid (HR11.out.touch (Touch.set w11 ⟨gx, 1, none⟩ (.int .i64 ff)) (fun x hx => by simp only [List.mem_singleton] at hx; subst hx; omega))
          have OC12 := Lib.hid (Touch.ownNe OC11.out (Touch.set w11 ⟨gx, 1, none⟩ (.int .i64 ff)) (fun y hy => show y ≠ gx by have := HUC.out y hy; omega))
          have OW12 := Lib.hid (Touch.ownNe OW11.out (Touch.set w11 ⟨gx, 1, none⟩ (.int .i64 ff)) hux)
          have HT12 := Lib.hid (Touch.trans HT11.out ((Touch.set w11 ⟨gx, 1, none⟩ (.int .i64 ff)).mono (r' := [gx]) (fun x h => h)) (fun x hx hlt => by simp only [List.mem_singleton] at hx; omega))
          have hz12 : w11.heap.size ≤ (w11.setCell ⟨gx, 1, none⟩ (.int .i64 ff)).heap.size := (Touch.set w11 ⟨gx, 1, none⟩ (.int .i64 ff)).size
          generalize w11.setCell ⟨gx, 1, none⟩ (.int .i64 ff) = w12 at KX12 KS12 KZ12 HR12 OC12 OW12 HT12 hz12 ⊢
          clear KX11 KS11 KZ11 HR11 OC11 OW11 HT11
          go_wp2_with fail
          refine (rnumber_r HR12.out 4294967295 (by decide)).mono ?_
          rintro e w13 ⟨rfl, hr, ht⟩
          have KX13 := Lib.hid (ht.blk KX12.out (by simp; omega))
          have KS13 := Lib.hid (ht.blk KS12.out (by simp; omega))
          have KZ13 := Lib.hid (ht.blk KZ12.out (by simp))
          have OC13 := Lib.hid (OwnL.touch OC12.out ht (fun x hx => by simp only [List.mem_singleton] at hx; subst hx; omega))
          have OW13 := Lib.hid (OwnL.touch OW12.out ht (fun x hx => by simp only [List.mem_singleton] at hx; subst hx; omega))
          have HT13 := Lib.hid (HT12.out.trans ht (fun x h _ => h))
          have hz13 := ht.size
          simp only [HFM.out] at hr ⊢
          have HR13 := Lib.hid hr
          clear hr ht KX12 KS12 KZ12 HR12 OC12 OW12 HT12
          have c1 := KX13.out.cell 2
          have ff1 := KX13.out.frozen 2
          go_upto_region 18 with fail
          clear c1 ff1
          have KX14 : Hid (Blk (w13.setCell ⟨gx, 2, none⟩ (.int .i64 (fm : Int))) gx (vcells ⟨fa, ff, (fm : Int), false, false⟩) 73) := Lib.hid (KX13.out.set 2 _)
          have KS14 := Lib.hid (KS13.out.far (p := ⟨gx, 2, none⟩) (show gs ≠ gx by omega) (.int .i64 (fm : Int)))
          have KZ14 := Lib.hid (KZ13.out.far (p := ⟨gx, 2, none⟩) (show w.heap.size ≠ gx by omega) (.int .i64 (fm : Int)))
          have HR14 := Lib.hid (HR13.out.touch (Touch.set w13 ⟨gx, 2, none⟩ (.int .i64 (fm : Int))) (fun x hx => by simp only [List.mem_singleton] at hx; subst hx; omega))
          have OC14 := Lib.hid (Touch.ownNe OC13.out (Touch.set w13 ⟨gx, 2, none⟩ (.int .i64 (fm : Int))) (fun y hy => show y ≠ gx by have := HUC.out y hy; omega))
          have OW14 := Lib.hid (Touch.ownNe OW13.out (Touch.set w13 ⟨gx, 2, none⟩ (.int .i64 (fm : Int))) hux)
          have HT14 := Lib.hid (Touch.trans HT13.out ((Touch.set w13 ⟨gx, 2, none⟩ (.int .i64 (fm : Int))).mono (r' := [gx]) (fun x h => h)) (fun x hx hlt => by simp only [List.mem_singleton] at hx; omega))
          have hz14 : w13.heap.size ≤ (w13.setCell ⟨gx, 2, none⟩ (.int .i64 (fm : Int))).heap.size := (Touch.set w13 ⟨gx, 2, none⟩ (.int .i64 (fm : Int))).size
          generalize w13.setCell ⟨gx, 2, none⟩ (.int .i64 (fm : Int)) = w14 at KX14 KS14 KZ14 HR14 OC14 OW14 HT14 hz14 ⊢
          clear KX13 KS13 KZ13 HR13 OC13 OW13 HT13
          have hlx := load_blk Try.underlying73 rfl sz_var KX14.out rfl
          have c1 := KS14.out.cell 2
          have ff1 := KS14.out.frozen 2
          have hjj : acc.length + (jj + 1) = n2 := HK.out
          have hsz : gx < w14.heap.size := KX14.out.lt
          go_wp2_with (at_builtin; refine wpList_append_own _ rfl _ _ 23 rfl B2 73 i1 (.agg #[.string ⟨#[]⟩, .int .i64 0, .int .i64 0, .bool false, .bool false]) 5 40 Try.underlying23 VI.out VZ0.out VZ1.out VZ2.out rfl (by decide) _ _ _ rfl (World.ownsRow.alloc OW14.out _) ⟨w14.heap.size, 0, none⟩ 1 1 (vcells ⟨fa, ff, (fm : Int), false, false⟩).toList rfl rfl ?m1 ?m2 ?m3 ?m4 ?m5 ?_)
          case m2 => first | exact ⟨rfl, rfl, rfl, rfl, rfl⟩ | exact ⟨rfl, rfl, rfl, rfl⟩ | exact rfl
          case m3 => rw [List.length_map]; unfold maxLen; omega
          case m4 => rw [List.length_map]; omega
          case m5 => simp; omega
          intro v' wa hown8 hgrow8 _
          have T8 := Touch.of_grown hgrow8
          have hne : ∀ y ∈ (Value.slice A1 un uc).ownBlock.toList, B2 ≤ y := fun y hy => by simp only [Option.mem_toList, Option.mem_def] at hy; exact (own_lt OW14.out y hy).2
          have KSa := Lib.hid (T8.blk (KS14.out.old (.cells (vcells ⟨fa, ff, (fm : Int), false, false⟩) 73)) (fun hm => by have := hne _ hm; omega))
          have KZa := Lib.hid (T8.blk (KZ14.out.old (.cells (vcells ⟨fa, ff, (fm : Int), false, false⟩) 73)) (fun hm => by have := hne _ hm; omega))
          have OCa := Lib.hid (show OwnL wa (gs + 1) 48 5 (.slice Ac nc cc) (cs.map fun c => (ccells c).toList) from T8.owns (World.ownsRow.alloc OC14.out _) (fun g hg hm => by have := hne _ hm; have := HUC.out g hg; omega))
          have OWa := Lib.hid (show OwnL wa B2 73 5 v' (vrows (acc ++ [⟨fa, ff, (fm : Int), false, false⟩])) by unfold vrows; rw [List.map_append]; exact ownL_push (by rw [List.length_map]; exact hown8))
          have HRa := Lib.hid ((HR14.out.new (vcells ⟨fa, ff, (fm : Int), false, false⟩) 73).touch T8 (fun y hy => by have := hne y hy; omega))
          have HTa := Lib.hid (Touch.trans (HT14.out.trans ((Touch.alloc w14 (.cells (vcells ⟨fa, ff, (fm : Int), false, false⟩) 73)).mono (r' := [w.heap.size + 1]) (fun y h => by cases h)) (fun y h _ => h)) T8 (fun y hy hlt => by have := hne y hy; omega))
          have hza : B2 ≤ wa.heap.size := by have := T8.size; simp at this; omega
          clear hown8 hgrow8 T8 hne c1 ff1 hlx
          obtain ⟨A', un', uc', hv'⟩ := OwnL.form OWa.out
          subst hv'
          have c1 := KSa.out.cell 2
          have ff1 := KSa.out.frozen 2
          have KSb : Hid (Blk (wa.setCell ⟨gs, 2, none⟩ (.slice A' un' uc')) gs (scells ⟨a, [], [], []⟩ (.slice Ac nc cc) (.slice A' un' uc') (.slice none 0 0)) 26) := Lib.hid (KSa.out.set 2 _)
          have KZb := Lib.hid (KZa.out.far (p := ⟨gs, 2, none⟩) (show w.heap.size ≠ gs by omega) (.slice A' un' uc'))
          have HRb := Lib.hid (HRa.out.touch (Touch.set wa ⟨gs, 2, none⟩ (.slice A' un' uc')) (fun x hx => by simp only [List.mem_singleton] at hx; subst hx; omega))
          have OCb := Lib.hid (OwnL.touch OCa.out (Touch.set wa ⟨gs, 2, none⟩ (.slice A' un' uc')) (fun x hx => by simp only [List.mem_singleton] at hx; subst hx; omega))
          have OWb := Lib.hid (OwnL.touch OWa.out (Touch.set wa ⟨gs, 2, none⟩ (.slice A' un' uc')) (fun x hx => by simp only [List.mem_singleton] at hx; subst hx; omega))
          have HTb := Lib.hid (Touch.trans HTa.out ((Touch.set wa ⟨gs, 2, none⟩ (.slice A' un' uc')).mono (r' := [gs]) (fun x h => h)) (fun x hx hlt => by simp only [List.mem_singleton] at hx; omega))
          have HBb := Lib.hid (Nat.le_trans hza (Touch.set wa ⟨gs, 2, none⟩ (.slice A' un' uc')).size)
          clear hux
          go_wp2_with fail
          go_roundw
          case rel => exact ⟨jj, acc ++ [⟨fa, ff, (fm : Int), false, false⟩], p3, _, by first | go_num | (simp) | rfl, Lib.hid (by simp; omega), HE2, HRb, HTb, KSb, KZb, OCb, OWb, HBb⟩
          case measure => simp [intOf]; omega
  case rest =>
  obtain ⟨u1, HR8, HT8, KS8, KZ8, OC8, OV8, HB8⟩ := hcut
  clear KS7 KZ7 HR7 HT7 OC7 HB7
  obtain ⟨i2, hi, hz0, hz1, hz2⟩ := info_parts info_proc
  have PI := Lib.hid hi
  have PZ0 := Lib.hid hz0
  have PZ1 := Lib.hid hz1
  have PZ2 := Lib.hid hz2
  clear hi hz0 hz1 hz2
  obtain ⟨Av, nv, cv, hu1⟩ := OwnL.form OV8.out
  subst hu1
  go_wp2_with fail
  refine (rnumber_r HR8.out 100 (by decide)).mono ?_
  rintro e w9 ⟨rfl, hr, ht⟩
  have KZ9 := Lib.hid (ht.blk KZ8.out (by simp))
  have KS9 := Lib.hid (ht.blk KS8.out (by simp; omega))
  have OC9 := Lib.hid (OwnL.touch OC8.out ht (fun x hx => by simp only [List.mem_singleton] at hx; subst hx; omega))
  have OV9 := Lib.hid (OwnL.touch OV8.out ht (fun x hx => by simp only [List.mem_singleton] at hx; subst hx; omega))
  have HT9 := Lib.hid (HT8.out.trans ht (fun x h _ => h))
  simp only [HN3.out] at hr ⊢
  have HR9 := Lib.hid hr
  have hB9 : gs < w9.heap.size := KS9.out.lt
  have hB29 : B2 ≤ w9.heap.size := Nat.le_trans HB8.out ht.size
  have HUV := Lib.hid (fun g hg => (OwnL.lt OV9.out g hg).1)
  obtain ⟨B3, hB3⟩ : ∃ B, B = w9.heap.size := ⟨_, rfl⟩
  have HB9 := Lib.hid (show B3 ≤ w9.heap.size by omega)
  rw [← hB3] at HUV hB9 hB29
  clear hr ht KZ8 KS8 OC8 OV8 HT8 HR8 HB8 hB3
  go_upto_block 4 with fail
  go_cut [7] from 11 to 105 (fun s7 wx => ∃ u pvs, Hid (RrAt wx (w.heap.size + 1) (.slice (some ⟨b, off, none⟩) l.length cap) l r4) ∧ Hid (Touch w2 wx [w.heap.size + 1]) ∧ Hid (Blk wx gs (scells ⟨a, [], [], []⟩ (.slice Ac nc cc) (.slice Av nv cv) u) 26) ∧ Hid (Blk wx w.heap.size zSym 26) ∧ Hid (OwnL wx (gs + 1) 48 5 (.slice Ac nc cc) (cs.map fun c => (ccells c).toList)) ∧ Hid (OwnL wx B2 73 5 (.slice Av nv cv) (vrows vs)) ∧ Hid (OwnPs wx B3 u ps pvs) ∧ Hid (B3 ≤ wx.heap.size))
  case first =>
    go_wp2_with fail
    go_loopw [11] (fun i wr => ∃ (k : Nat) (acc : List Pr) (pvs : List Value) (rk : Rd) (u : Value), i = .int .i64 (acc.length : Nat) ∧ Hid (acc.length + k = n3) ∧ Hid (rowsS (procS l) n3 q3 = (acc ++ (rowsS (procS l) k rk).1, (rowsS (procS l) k rk).2)) ∧ Hid (RrAt wr (w.heap.size + 1) (.slice (some ⟨b, off, none⟩) l.length cap) l rk) ∧ Hid (Touch w2 wr [w.heap.size + 1]) ∧ Hid (Blk wr gs (scells ⟨a, [], [], []⟩ (.slice Ac nc cc) (.slice Av nv cv) u) 26) ∧ Hid (Blk wr w.heap.size zSym 26) ∧ Hid (OwnL wr (gs + 1) 48 5 (.slice Ac nc cc) (cs.map fun c => (ccells c).toList)) ∧ Hid (OwnL wr B2 73 5 (.slice Av nv cv) (vrows vs)) ∧ Hid (OwnPs wr B3 u acc pvs) ∧ Hid (B3 ≤ wr.heap.size)) (fun i _ => n3 - (intOf i).toNat)
    case atStart => exact ⟨n3, [], [], q3, _, rfl, Lib.hid (by simp), Lib.hid (by simp), HR9, HT9, KS9, KZ9, OC9, OV9, Lib.hid (OwnPs.nil_ _ _), HB9⟩
    case round =>
      obtain ⟨k, acc, pvs, rk, u, rfl, HK, HEE, HR, HT, KS, KZ, OC, OV, OW, HB⟩ := hrel
      clear KS9 KZ9 HR9 HT9 OC9 OV9 HB9
      obtain ⟨Au, un, uc, hu⟩ := OwnL.form OW.out.own
      subst hu
      by_cases hk0 : k = 0
      · subst hk0
        have hk1 : (acc.length : Int) = (n3 : Int) := by have := HK.out; omega
        have hps : acc = ps ∧ rk = r4 := by have := HEE.out; rw [HPS.out, rowsS_zero, List.append_nil] at this; cases this; exact ⟨rfl, rfl⟩
        obtain ⟨rfl, rfl⟩ := hps
        go_wp2_with fail
        go_meet
        exact ⟨_, _, HR, HT, KS, KZ, OC, OV, OW, HB⟩
      · have hk1 : (acc.length : Int) < (n3 : Int) := by have := HK.out; omega
        cases hok : rk.ok with
        | false =>
          have l2 := HR.out.isBad hok
          have hps : acc = ps ∧ rk = r4 := by have := HEE.out; rw [HPS.out, rowsS_bad _ _ hok, List.append_nil] at this; cases this; exact ⟨rfl, rfl⟩
          obtain ⟨rfl, rfl⟩ := hps
          go_wp2_with fail
          go_meet
          exact ⟨_, _, HR, HT, KS, KZ, OC, OV, OW, HB⟩
        | true =>
          have l2 := HR.out.isOk hok
          obtain ⟨jj, rfl⟩ : ∃ j, k = j + 1 := ⟨k - 1, by omega⟩
          obtain ⟨x, r', hx⟩ : ∃ x r', procS l rk = (x, r') := ⟨_, _, rfl⟩
          have HE2 := Lib.hid (show rowsS (procS l) n3 q3 = ((acc ++ [x]) ++ (rowsS (procS l) jj r').1, (rowsS (procS l) jj r').2) by rw [HEE.out, rowsS_step _ _ hok hx]; simp)
          have HX := Lib.hid hx
          clear hok hx HEE
          go_wp2_with fail
          have hgw : gs + 1 ≤ wr.heap.size := KS.out.lt
          refine wp_region_held_drew (S := (fun w' => True)) (by kernel_rfl) trivial (fun hHeld0 => ?_)
          clear hHeld0
          have KSd := Lib.hid KS.out.drew
          have KZd := Lib.hid KZ.out.drew
          have HRd := Lib.hid (show RrAt wr.drew _ _ l rk from HR.out.drewN 1)
          have TD := Lib.hid (show Touch wr wr.drew [] from (Touch.drewN wr 1).mono (fun x h => by cases h))
          have OCd := Lib.hid (OwnL.touch OC.out TD.out (fun x h => by cases h))
          have OVd := Lib.hid (OwnL.touch OV.out TD.out (fun x h => by cases h))
          have OWd := Lib.hid (OW.out.touch TD.out (fun x h => by cases h))
          have HTd := Lib.hid (show Touch w2 wr.drew [w.heap.size + 1] from HT.out.trans (TD.out.mono (fun x h => by cases h)) (fun x h _ => h))
          have hbd : B3 ≤ wr.drew.heap.size := HB.out
          clear TD
          generalize wr.drew = wd at KSd KZd HRd OCd OVd OWd HTd hbd ⊢
          have hHeld : (fun (w' : World) => True) wd := trivial
          refine tke 0 (v := ?v0c) ?hy0c hHeld ?rest0c
          case hy0c => intro wq qT; clear qT; simp only [List.getElem_toArray, List.getElem_cons_zero, List.getElem_cons_succ]; go_simp; try with_reducible rfl
          refine tke 2 (v := ?v2c) ?hy2c hHeld ?rest2c
          case hy2c => intro wq qT; clear qT; simp only [List.getElem_toArray, List.getElem_cons_zero, List.getElem_cons_succ]; go_simp; try with_reducible rfl
          clear hHeld
          refine wpAnyH_ready (rs := [1, 3]) (by kernel_rfl) (by simp) ?_
          refine (AllReadyH.cons (o := _) rfl (fun K hK => ?_) (AllReadyH.cons (o := _) rfl (fun K hK => ?_) AllReadyH.nil))
          · skip
            try simp only [List.getElem_toArray, List.getElem_cons_zero, List.getElem_cons_succ]
            have c1 := KSd.out.cell 3
            go_simp
            clear c1
            refine hK.out _ _ trivial (fun _ => ?_)
            refine wpAnyH_ready (rs := [3]) (by kernel_rfl) (by simp) ?_
            refine (AllReadyH.cons (o := _) rfl (fun K hK => ?_) AllReadyH.nil)
            · skip
              try simp only [List.getElem_toArray, List.getElem_cons_zero, List.getElem_cons_succ]
              go_simp
              go_at_call 65
              refine (rproc_r HRd.out).mono ?_
              rintro e w6 ⟨qv, rfl, oq, hr, ht⟩
              obtain ⟨Aq, nq, cq, rfl⟩ := OwnL.form oq
              have OQ6 := Lib.hid (OwnL.weak oq hbd)
              have KS6 := Lib.hid (ht.blk KSd.out (by simp; omega))
              have KZ6 := Lib.hid (ht.blk KZd.out (by simp))
              have OC6 := Lib.hid (OwnL.touch OCd.out ht (fun x hx => by simp only [List.mem_singleton] at hx; subst hx; omega))
              have OV6 := Lib.hid (OwnL.touch OVd.out ht (fun x hx => by simp only [List.mem_singleton] at hx; subst hx; omega))
              have OW6 := Lib.hid (OWd.out.touch ht (fun x hx => by simp only [List.mem_singleton] at hx; subst hx; omega))
              have HT6 := Lib.hid (HTd.out.trans ht (fun x h _ => h))
              have hz6 := ht.size
              simp only [HX.out] at hr OQ6 ⊢
              have HR6 := Lib.hid hr
              clear hr ht oq KSd KZd OCd OVd OWd HTd HRd
              refine hK.out _ _ trivial (fun _ => ?_)
              refine wpAnyH_ready (rs := [4]) (by kernel_rfl) (by simp) ?_
              refine (AllReadyH.cons (o := _) rfl (fun K hK => ?_) AllReadyH.nil)
              · skip
                try simp only [List.getElem_toArray, List.getElem_cons_zero, List.getElem_cons_succ]
                go_simp
                have KS7 := Lib.hid (KS6.out.old (.cells (pcells x (.slice Aq nq cq)) 63))
                refine hK.out _ _ trivial (fun _ => ?_)
                refine wpAnyH_ready (rs := [5]) (by kernel_rfl) (by simp) ?_
                refine (AllReadyH.cons (o := _) rfl (fun K hK => ?_) AllReadyH.nil)
                · skip
                  try simp only [List.getElem_toArray, List.getElem_cons_zero, List.getElem_cons_succ]
                  refine iteWanted (by first | rfl | kernel_rfl) ?_
                  refine wp_append_lies _ _ _ 24 (by rfl) B3 63 i2 (.agg #[.string ⟨#[]⟩, .slice none 0 0, .int .i64 0]) 3 48 Try.underlying24 PI.out PZ0.out PZ1.out PZ2.out rfl (by decide) (.slice Au un uc) _ _ (by rfl) (World.ownsRow.alloc OW6.out.own _) ⟨w6.heap.size, 0, none⟩ 1 1 (pcells x (.slice Aq nq cq)).toList (by rfl) rfl (World.news_of_block (Blk.new w6 (pcells x (.slice Aq nq cq)) 63)) (fun u hu => pcells_one x (pv := .slice Aq nq cq) rfl u (by simpa using hu)) (by decide) (by have := HK.out; have := prows_len OW6.out.len; unfold maxLen; omega) (by have := HK.out; have := prows_len OW6.out.len; omega) (by simp; omega) _ rfl ?_
                  intro g9 cap9 w8 hown8 hgrow8 _ hg8
                  have T8 := Touch.of_grown hgrow8
                  have hne : ∀ y ∈ (Value.slice Au un uc).ownBlock.toList, B3 ≤ y := fun y hy => by simp only [Option.mem_toList, Option.mem_def] at hy; exact (own_lt OW6.out.own y hy).2
                  have TA := Lib.hid (Touch.alloc w6 (.cells (pcells x (.slice Aq nq cq)) 63))
                  have OW8 := Lib.hid (show OwnPs w8 B3 (.slice (some ⟨g9, 0, none⟩) ((prows acc pvs).length + 1) cap9) (acc ++ [x]) (pvs ++ [.slice Aq nq cq]) from OwnPs.push (OW6.out.touch TA.out (fun y h => by cases h)) (OwnL.touch OQ6.out TA.out (fun y h => by cases h)) T8 (by rw [prows_snoc OW6.out.len]; exact ownL_push hown8))
                  have KS8 := Lib.hid (T8.blk (KS6.out.old (.cells (pcells x (.slice Aq nq cq)) 63)) (fun hm => by have := hne _ hm; omega))
                  have KZ8 := Lib.hid (T8.blk (KZ6.out.old (.cells (pcells x (.slice Aq nq cq)) 63)) (fun hm => by have := hne _ hm; omega))
                  have OC8 := Lib.hid (show OwnL w8 (gs + 1) 48 5 (.slice Ac nc cc) (cs.map fun c => (ccells c).toList) from T8.owns (World.ownsRow.alloc OC6.out _) (fun g hg hm => by have := hne _ hm; have := HUC.out g hg; omega))
                  have OV8 := Lib.hid (show OwnL w8 B2 73 5 (.slice Av nv cv) (vrows vs) from T8.owns (World.ownsRow.alloc OV6.out _) (fun g hg hm => by have := hne _ hm; have := HUV.out g hg; omega))
                  have HR8 := Lib.hid ((HR6.out.new (pcells x (.slice Aq nq cq)) 63).touch T8 (fun y hy => by have := hne y hy; omega))
                  have HT8 := Lib.hid (Touch.trans (HT6.out.trans ((Touch.alloc w6 (.cells (pcells x (.slice Aq nq cq)) 63)).mono (r' := [w.heap.size + 1]) (fun y h => by cases h)) (fun y h _ => h)) T8 (fun y hy hlt => by have := hne y hy; omega))
                  have hz8 : B3 ≤ w8.heap.size := by have := T8.size; simp at this; omega
                  generalize (prows acc pvs).length + 1 = nn at OW8 ⊢
                  clear hown8 hgrow8 T8 hne KS6 KZ6 OW6 HT6 HR6 OC6 OV6 OQ6
                  refine hK.out _ _ trivial (fun _ => ?_)
                  refine tke 6 (v := ?v6101) ?hy6101 trivial ?rest6101
                  case hy6101 => intro wq qT; clear qT; simp only [List.getElem_toArray, List.getElem_cons_zero, List.getElem_cons_succ]; go_simp; try with_reducible rfl
                  refine wpAnyH_ready (rs := [7]) (by kernel_rfl) (by simp) ?_
                  refine AllReadyH.cons (o := _) rfl (fun K hK => ?_) AllReadyH.nil
                  have c1 := KS8.out.cell 3
                  have ff1 := KS8.out.frozen 3
                  try simp only [List.getElem_toArray, List.getElem_cons_zero, List.getElem_cons_succ]
                  go_simp
                  have KS9 : Hid (Blk (w8.setCell ⟨gs, 3, none⟩ (.slice (some ⟨g9, 0, none⟩) nn cap9)) gs (scells ⟨a, [], [], []⟩ (.slice Ac nc cc) (.slice Av nv cv) (.slice (some ⟨g9, 0, none⟩) nn cap9)) 26) := Lib.hid (KS8.out.set 3 _)
                  have TS := Lib.hid (Touch.set w8 ⟨gs, 3, none⟩ (.slice (some ⟨g9, 0, none⟩) nn cap9))
                  have KZ9 := Lib.hid (KZ8.out.far (p := ⟨gs, 3, none⟩) (show w.heap.size ≠ gs by omega) (.slice (some ⟨g9, 0, none⟩) nn cap9))
                  have HR9 := Lib.hid (HR8.out.touch TS.out (fun x hx => by simp only [List.mem_singleton] at hx; subst hx; omega))
                  have OC9 := Lib.hid (OwnL.touch OC8.out TS.out (fun x hx => by simp only [List.mem_singleton] at hx; subst hx; omega))
                  have OV9 := Lib.hid (OwnL.touch OV8.out TS.out (fun x hx => by simp only [List.mem_singleton] at hx; subst hx; omega))
                  have OW9 := Lib.hid (OW8.out.touch TS.out (fun x hx => by simp only [List.mem_singleton] at hx; subst hx; omega))
                  have HT9 := Lib.hid (Touch.trans HT8.out (TS.out.mono (r' := [gs]) (fun x h => h)) (fun x hx hlt => by simp only [List.mem_singleton] at hx; omega))
                  have HB9 := Lib.hid (Nat.le_trans hz8 TS.out.size)
                  refine hK.out _ _ trivial (fun _ => ?_)
                  refine wpAnyH_done (by kernel_rfl) ?_ _
                  go_wp2_with fail
                  go_roundw
                  case rel => exact ⟨jj, acc ++ [x], _, r', _, by first | go_num | simp | rfl, Lib.hid (by have := HK.out; simp; omega), HE2, HR9, HT9, KS9, KZ9, OC9, OV9, OW9, HB9⟩
                  case measure => simp [intOf]; omega
          · skip
            try simp only [List.getElem_toArray, List.getElem_cons_zero, List.getElem_cons_succ]
            go_simp
            go_at_call 65
            refine (rproc_r HRd.out).mono ?_
            rintro e w6 ⟨qv, rfl, oq, hr, ht⟩
            obtain ⟨Aq, nq, cq, rfl⟩ := OwnL.form oq
            have OQ6 := Lib.hid (OwnL.weak oq hbd)
            have KS6 := Lib.hid (ht.blk KSd.out (by simp; omega))
            have KZ6 := Lib.hid (ht.blk KZd.out (by simp))
            have OC6 := Lib.hid (OwnL.touch OCd.out ht (fun x hx => by simp only [List.mem_singleton] at hx; subst hx; omega))
            have OV6 := Lib.hid (OwnL.touch OVd.out ht (fun x hx => by simp only [List.mem_singleton] at hx; subst hx; omega))
            have OW6 := Lib.hid (OWd.out.touch ht (fun x hx => by simp only [List.mem_singleton] at hx; subst hx; omega))
            have HT6 := Lib.hid (HTd.out.trans ht (fun x h _ => h))
            have hz6 := ht.size
            simp only [HX.out] at hr OQ6 ⊢
            have HR6 := Lib.hid hr
            clear hr ht oq KSd KZd OCd OVd OWd HTd HRd
            refine hK.out _ _ trivial (fun _ => ?_)
            refine wpAnyH_ready (rs := [1, 4]) (by kernel_rfl) (by simp) ?_
            refine (AllReadyH.cons (o := _) rfl (fun K hK => ?_) (AllReadyH.cons (o := _) rfl (fun K hK => ?_) AllReadyH.nil))
            · skip
              try simp only [List.getElem_toArray, List.getElem_cons_zero, List.getElem_cons_succ]
              have c1 := KS6.out.cell 3
              go_simp
              clear c1
              refine hK.out _ _ trivial (fun _ => ?_)
              refine wpAnyH_ready (rs := [4]) (by kernel_rfl) (by simp) ?_
              refine (AllReadyH.cons (o := _) rfl (fun K hK => ?_) AllReadyH.nil)
              · skip
                try simp only [List.getElem_toArray, List.getElem_cons_zero, List.getElem_cons_succ]
                go_simp
                have KS7 := Lib.hid (KS6.out.old (.cells (pcells x (.slice Aq nq cq)) 63))
                refine hK.out _ _ trivial (fun _ => ?_)
                refine wpAnyH_ready (rs := [5]) (by kernel_rfl) (by simp) ?_
                refine (AllReadyH.cons (o := _) rfl (fun K hK => ?_) AllReadyH.nil)
                · skip
                  try simp only [List.getElem_toArray, List.getElem_cons_zero, List.getElem_cons_succ]
                  refine iteWanted (by first | rfl | kernel_rfl) ?_
                  refine wp_append_lies _ _ _ 24 (by rfl) B3 63 i2 (.agg #[.string ⟨#[]⟩, .slice none 0 0, .int .i64 0]) 3 48 Try.underlying24 PI.out PZ0.out PZ1.out PZ2.out rfl (by decide) (.slice Au un uc) _ _ (by rfl) (World.ownsRow.alloc OW6.out.own _) ⟨w6.heap.size, 0, none⟩ 1 1 (pcells x (.slice Aq nq cq)).toList (by rfl) rfl (World.news_of_block (Blk.new w6 (pcells x (.slice Aq nq cq)) 63)) (fun u hu => pcells_one x (pv := .slice Aq nq cq) rfl u (by simpa using hu)) (by decide) (by have := HK.out; have := prows_len OW6.out.len; unfold maxLen; omega) (by have := HK.out; have := prows_len OW6.out.len; omega) (by simp; omega) _ rfl ?_
                  intro g9 cap9 w8 hown8 hgrow8 _ hg8
                  have T8 := Touch.of_grown hgrow8
                  have hne : ∀ y ∈ (Value.slice Au un uc).ownBlock.toList, B3 ≤ y := fun y hy => by simp only [Option.mem_toList, Option.mem_def] at hy; exact (own_lt OW6.out.own y hy).2
                  have TA := Lib.hid (Touch.alloc w6 (.cells (pcells x (.slice Aq nq cq)) 63))
                  have OW8 := Lib.hid (show OwnPs w8 B3 (.slice (some ⟨g9, 0, none⟩) ((prows acc pvs).length + 1) cap9) (acc ++ [x]) (pvs ++ [.slice Aq nq cq]) from OwnPs.push (OW6.out.touch TA.out (fun y h => by cases h)) (OwnL.touch OQ6.out TA.out (fun y h => by cases h)) T8 (by rw [prows_snoc OW6.out.len]; exact ownL_push hown8))
                  have KS8 := Lib.hid (T8.blk (KS6.out.old (.cells (pcells x (.slice Aq nq cq)) 63)) (fun hm => by have := hne _ hm; omega))
                  have KZ8 := Lib.hid (T8.blk (KZ6.out.old (.cells (pcells x (.slice Aq nq cq)) 63)) (fun hm => by have := hne _ hm; omega))
                  have OC8 := Lib.hid (show OwnL w8 (gs + 1) 48 5 (.slice Ac nc cc) (cs.map fun c => (ccells c).toList) from T8.owns (World.ownsRow.alloc OC6.out _) (fun g hg hm => by have := hne _ hm; have := HUC.out g hg; omega))
                  have OV8 := Lib.hid (show OwnL w8 B2 73 5 (.slice Av nv cv) (vrows vs) from T8.owns (World.ownsRow.alloc OV6.out _) (fun g hg hm => by have := hne _ hm; have := HUV.out g hg; omega))
                  have HR8 := Lib.hid ((HR6.out.new (pcells x (.slice Aq nq cq)) 63).touch T8 (fun y hy => by have := hne y hy; omega))
                  have HT8 := Lib.hid (Touch.trans (HT6.out.trans ((Touch.alloc w6 (.cells (pcells x (.slice Aq nq cq)) 63)).mono (r' := [w.heap.size + 1]) (fun y h => by cases h)) (fun y h _ => h)) T8 (fun y hy hlt => by have := hne y hy; omega))
                  have hz8 : B3 ≤ w8.heap.size := by have := T8.size; simp at this; omega
                  generalize (prows acc pvs).length + 1 = nn at OW8 ⊢
                  clear hown8 hgrow8 T8 hne KS6 KZ6 OW6 HT6 HR6 OC6 OV6 OQ6
                  refine hK.out _ _ trivial (fun _ => ?_)
                  refine tke 6 (v := ?v6102) ?hy6102 trivial ?rest6102
                  case hy6102 => intro wq qT; clear qT; simp only [List.getElem_toArray, List.getElem_cons_zero, List.getElem_cons_succ]; go_simp; try with_reducible rfl
                  refine wpAnyH_ready (rs := [7]) (by kernel_rfl) (by simp) ?_
                  refine AllReadyH.cons (o := _) rfl (fun K hK => ?_) AllReadyH.nil
                  have c1 := KS8.out.cell 3
                  have ff1 := KS8.out.frozen 3
                  try simp only [List.getElem_toArray, List.getElem_cons_zero, List.getElem_cons_succ]
                  go_simp
                  have KS9 : Hid (Blk (w8.setCell ⟨gs, 3, none⟩ (.slice (some ⟨g9, 0, none⟩) nn cap9)) gs (scells ⟨a, [], [], []⟩ (.slice Ac nc cc) (.slice Av nv cv) (.slice (some ⟨g9, 0, none⟩) nn cap9)) 26) := Lib.hid (KS8.out.set 3 _)
                  have TS := Lib.hid (Touch.set w8 ⟨gs, 3, none⟩ (.slice (some ⟨g9, 0, none⟩) nn cap9))
                  have KZ9 := Lib.hid (KZ8.out.far (p := ⟨gs, 3, none⟩) (show w.heap.size ≠ gs by omega) (.slice (some ⟨g9, 0, none⟩) nn cap9))
                  have HR9 := Lib.hid (HR8.out.touch TS.out (fun x hx => by simp only [List.mem_singleton] at hx; subst hx; omega))
                  have OC9 := Lib.hid (OwnL.touch OC8.out TS.out (fun x hx => by simp only [List.mem_singleton] at hx; subst hx; omega))
                  have OV9 := Lib.hid (OwnL.touch OV8.out TS.out (fun x hx => by simp only [List.mem_singleton] at hx; subst hx; omega))
                  have OW9 := Lib.hid (OW8.out.touch TS.out (fun x hx => by simp only [List.mem_singleton] at hx; subst hx; omega))
                  have HT9 := Lib.hid (Touch.trans HT8.out (TS.out.mono (r' := [gs]) (fun x h => h)) (fun x hx hlt => by simp only [List.mem_singleton] at hx; omega))
                  have HB9 := Lib.hid (Nat.le_trans hz8 TS.out.size)
                  refine hK.out _ _ trivial (fun _ => ?_)
                  refine wpAnyH_done (by kernel_rfl) ?_ _
                  go_wp2_with fail
                  go_roundw
                  case rel => exact ⟨jj, acc ++ [x], _, r', _, by first | go_num | simp | rfl, Lib.hid (by have := HK.out; simp; omega), HE2, HR9, HT9, KS9, KZ9, OC9, OV9, OW9, HB9⟩
                  case measure => simp [intOf]; omega
            · skip
              try simp only [List.getElem_toArray, List.getElem_cons_zero, List.getElem_cons_succ]
              go_simp
              have KS7 := Lib.hid (KS6.out.old (.cells (pcells x (.slice Aq nq cq)) 63))
              refine hK.out _ _ trivial (fun _ => ?_)
              refine wpAnyH_ready (rs := [1]) (by kernel_rfl) (by simp) ?_
              refine (AllReadyH.cons (o := _) rfl (fun K hK => ?_) AllReadyH.nil)
              · skip
                try simp only [List.getElem_toArray, List.getElem_cons_zero, List.getElem_cons_succ]
                have c1 := KS7.out.cell 3
                go_simp
                clear c1
                refine hK.out _ _ trivial (fun _ => ?_)
                refine wpAnyH_ready (rs := [5]) (by kernel_rfl) (by simp) ?_
                refine (AllReadyH.cons (o := _) rfl (fun K hK => ?_) AllReadyH.nil)
                · skip
                  try simp only [List.getElem_toArray, List.getElem_cons_zero, List.getElem_cons_succ]
                  refine iteWanted (by first | rfl | kernel_rfl) ?_
                  refine wp_append_lies _ _ _ 24 (by rfl) B3 63 i2 (.agg #[.string ⟨#[]⟩, .slice none 0 0, .int .i64 0]) 3 48 Try.underlying24 PI.out PZ0.out PZ1.out PZ2.out rfl (by decide) (.slice Au un uc) _ _ (by rfl) (World.ownsRow.alloc OW6.out.own _) ⟨w6.heap.size, 0, none⟩ 1 1 (pcells x (.slice Aq nq cq)).toList (by rfl) rfl (World.news_of_block (Blk.new w6 (pcells x (.slice Aq nq cq)) 63)) (fun u hu => pcells_one x (pv := .slice Aq nq cq) rfl u (by simpa using hu)) (by decide) (by have := HK.out; have := prows_len OW6.out.len; unfold maxLen; omega) (by have := HK.out; have := prows_len OW6.out.len; omega) (by simp; omega) _ rfl ?_
                  intro g9 cap9 w8 hown8 hgrow8 _ hg8
                  have T8 := Touch.of_grown hgrow8
                  have hne : ∀ y ∈ (Value.slice Au un uc).ownBlock.toList, B3 ≤ y := fun y hy => by simp only [Option.mem_toList, Option.mem_def] at hy; exact (own_lt OW6.out.own y hy).2
                  have TA := Lib.hid (Touch.alloc w6 (.cells (pcells x (.slice Aq nq cq)) 63))
                  have OW8 := Lib.hid (show OwnPs w8 B3 (.slice (some ⟨g9, 0, none⟩) ((prows acc pvs).length + 1) cap9) (acc ++ [x]) (pvs ++ [.slice Aq nq cq]) from OwnPs.push (OW6.out.touch TA.out (fun y h => by cases h)) (OwnL.touch OQ6.out TA.out (fun y h => by cases h)) T8 (by rw [prows_snoc OW6.out.len]; exact ownL_push hown8))
                  have KS8 := Lib.hid (T8.blk (KS6.out.old (.cells (pcells x (.slice Aq nq cq)) 63)) (fun hm => by have := hne _ hm; omega))
                  have KZ8 := Lib.hid (T8.blk (KZ6.out.old (.cells (pcells x (.slice Aq nq cq)) 63)) (fun hm => by have := hne _ hm; omega))
                  have OC8 := Lib.hid (show OwnL w8 (gs + 1) 48 5 (.slice Ac nc cc) (cs.map fun c => (ccells c).toList) from T8.owns (World.ownsRow.alloc OC6.out _) (fun g hg hm => by have := hne _ hm; have := HUC.out g hg; omega))
                  have OV8 := Lib.hid (show OwnL w8 B2 73 5 (.slice Av nv cv) (vrows vs) from T8.owns (World.ownsRow.alloc OV6.out _) (fun g hg hm => by have := hne _ hm; have := HUV.out g hg; omega))
                  have HR8 := Lib.hid ((HR6.out.new (pcells x (.slice Aq nq cq)) 63).touch T8 (fun y hy => by have := hne y hy; omega))
                  have HT8 := Lib.hid (Touch.trans (HT6.out.trans ((Touch.alloc w6 (.cells (pcells x (.slice Aq nq cq)) 63)).mono (r' := [w.heap.size + 1]) (fun y h => by cases h)) (fun y h _ => h)) T8 (fun y hy hlt => by have := hne y hy; omega))
                  have hz8 : B3 ≤ w8.heap.size := by have := T8.size; simp at this; omega
                  generalize (prows acc pvs).length + 1 = nn at OW8 ⊢
                  clear hown8 hgrow8 T8 hne KS6 KZ6 OW6 HT6 HR6 OC6 OV6 OQ6
                  refine hK.out _ _ trivial (fun _ => ?_)
                  refine tke 6 (v := ?v6103) ?hy6103 trivial ?rest6103
                  case hy6103 => intro wq qT; clear qT; simp only [List.getElem_toArray, List.getElem_cons_zero, List.getElem_cons_succ]; go_simp; try with_reducible rfl
                  refine wpAnyH_ready (rs := [7]) (by kernel_rfl) (by simp) ?_
                  refine AllReadyH.cons (o := _) rfl (fun K hK => ?_) AllReadyH.nil
                  have c1 := KS8.out.cell 3
                  have ff1 := KS8.out.frozen 3
                  try simp only [List.getElem_toArray, List.getElem_cons_zero, List.getElem_cons_succ]
                  go_simp
                  have KS9 : Hid (Blk (w8.setCell ⟨gs, 3, none⟩ (.slice (some ⟨g9, 0, none⟩) nn cap9)) gs (scells ⟨a, [], [], []⟩ (.slice Ac nc cc) (.slice Av nv cv) (.slice (some ⟨g9, 0, none⟩) nn cap9)) 26) := Lib.hid (KS8.out.set 3 _)
                  have TS := Lib.hid (Touch.set w8 ⟨gs, 3, none⟩ (.slice (some ⟨g9, 0, none⟩) nn cap9))
                  have KZ9 := Lib.hid (KZ8.out.far (p := ⟨gs, 3, none⟩) (show w.heap.size ≠ gs by omega) (.slice (some ⟨g9, 0, none⟩) nn cap9))
                  have HR9 := Lib.hid (HR8.out.touch TS.out (fun x hx => by simp only [List.mem_singleton] at hx; subst hx; omega))
                  have OC9 := Lib.hid (OwnL.touch OC8.out TS.out (fun x hx => by simp only [List.mem_singleton] at hx; subst hx; omega))
                  have OV9 := Lib.hid (OwnL.touch OV8.out TS.out (fun x hx => by simp only [List.mem_singleton] at hx; subst hx; omega))
                  have OW9 := Lib.hid (OW8.out.touch TS.out (fun x hx => by simp only [List.mem_singleton] at hx; subst hx; omega))
                  have HT9 := Lib.hid (Touch.trans HT8.out (TS.out.mono (r' := [gs]) (fun x h => h)) (fun x hx hlt => by simp only [List.mem_singleton] at hx; omega))
                  have HB9 := Lib.hid (Nat.le_trans hz8 TS.out.size)
                  refine hK.out _ _ trivial (fun _ => ?_)
                  refine wpAnyH_done (by kernel_rfl) ?_ _
                  go_wp2_with fail
                  go_roundw
                  case rel => exact ⟨jj, acc ++ [x], _, r', _, by first | go_num | simp | rfl, Lib.hid (by have := HK.out; simp; omega), HE2, HR9, HT9, KS9, KZ9, OC9, OV9, OW9, HB9⟩
                  case measure => simp [intOf]; omega
  case rest =>
  obtain ⟨u2, pvs, HRz, HTz, KSz, KZz, OCz, OVz, OPz, HBz⟩ := hcut
  clear KS9 KZ9 HR9 HT9 OC9 OV9 HB9
  obtain ⟨A3, n4, p3, hu2⟩ := OwnL.form OPz.out.own
  subst hu2
  have OWNz := Lib.hid (show SmOwn wc (gs + 1) ⟨a, cs, vs, ps⟩ (.slice Ac nc cc) (.slice Av nv cv) (.slice A3 n4 p3) pvs from ⟨by have := read_fit HO.out; rw [HE.out] at this; exact this, OCz.out, OwnL.weak OVz.out (by omega), OPz.out.weak (by omega)⟩)
  have HE1 := Lib.hid (show (readS l).1 = ⟨a, cs, vs, ps⟩ by rw [HE.out])
  have HE2 := Lib.hid (show (readS l).2 = if r4.pos = l.length then r4 else tookS r4 0 false by
    rw [HE.out]; unfold tookS
    obtain ⟨p4, k4⟩ := r4
    cases k4 with
    | true => by_cases he : p4 = l.length <;> simp [he]
    | false => simp)
  have KSw := Lib.hid (show Blk wc gs (scells ⟨a, cs, vs, ps⟩ (.slice Ac nc cc) (.slice Av nv cv) (.slice A3 n4 p3)) 26 from KSz.out)
  clear OCz OVz OPz HE HA HN1 HN2 HN3 HCS HVS HPS KSz HI HZ0 HZ1 HZ2 VI VZ0 VZ1 VZ2 PI PZ0 PZ1 PZ2 HUC HUV
  have c1 : wc.cell? ⟨w.heap.size + 1, 1, none⟩ = some (.int .i64 (r4.pos : Int)) := HRz.out.blk.cell 1
  have hp4 := HRz.out.pos
  go_upto_if 111 with fail
  go_cut [113] from 111 to 114 (fun s113 wx => Hid (RrAt wx (w.heap.size + 1) (.slice (some ⟨b, off, none⟩) l.length cap) l (readS l).2) ∧ Hid (Touch wc wx [w.heap.size + 1]))
  case first =>
    by_cases he : r4.pos = l.length
    · have he1 : ¬ (r4.pos : Int) < (l.length : Int) := by omega
      have he2 : ¬ r4.pos < l.length := by omega
      rw [if_pos he] at HE2
      clear he c1
      go_wp2_with fail
      go_meet
      exact ⟨by rw [HE2.out]; exact HRz, Lib.hid (Touch.refl _ _)⟩
    · have he1 : (r4.pos : Int) < (l.length : Int) := by omega
      have he2 : r4.pos < l.length := by omega
      rw [if_neg he] at HE2
      clear he c1
      go_wp2_with fail
      refine (rwrong_any HRz.out 0).mono ?_
      rintro e w11 ⟨⟨av, rfl⟩, hr, ht⟩
      have HRq := Lib.hid hr
      have HTq := Lib.hid ht
      clear hr ht
      go_wp2_with fail
      go_meet
      exact ⟨by rw [HE2.out]; exact HRq, HTq⟩
  case rest =>
    obtain ⟨HR, HT⟩ := hcut
    have KZ := Lib.hid (HT.out.blk KZz.out (by simp))
    have KS := Lib.hid (HT.out.blk KSw.out (by simp; omega))
    have OWN := Lib.hid (OWNz.out.touch HT.out (fun x hx => by simp only [List.mem_singleton] at hx; subst hx; omega))
    have HBT := Lib.hid (HB2.out.trans ((HTz.out.trans HT.out (fun x h _ => h)).below HB2.out.size (fun x hx => by simp only [List.mem_singleton] at hx; omega)))
    clear KZz KSw HRz OWNz HE2 HTz HB2 c1
    obtain ⟨⟨p5, k5⟩, hrr⟩ : ∃ r5, (readS l).2 = r5 := ⟨_, rfl⟩
    rw [hrr] at HR
    have HRR := Lib.hid hrr
    clear hrr
    have hp5 : (0 : Int) ≤ (p5 : Int) := by omega
    cases k5 with
    | false =>
      have c2 : wc.cell? ⟨w.heap.size + 1, 2, none⟩ = some (.int .i64 (p5 : Int)) := HR.out.blk.cell 2
      go_wp2_with fail
      have HAN := Lib.hid (show DecAns l noSym (p5 : Int) 131 by
        have := DecAns.wrong HHD.out (by rw [HRR.out])
        rw [HRR.out] at this; exact this)
      refine wp_region_held_drew (S := (fun w' => Hid (w'.cell? ⟨w.heap.size + 1, 2, none⟩ = some (.int .i64 (p5 : Int))))) (by kernel_rfl) (Lib.hid c2) (fun hHeld0 => ?_)
      clear hHeld0
      have KZd := Lib.hid KZ.out.drew
      have KRd := Lib.hid HR.out.blk.drew
      have HBd := Lib.hid HBT.out.drew
      generalize wc.drew = wd at KZd KRd HBd ⊢
      have hHeld : (fun w' => Hid (w'.cell? ⟨w.heap.size + 1, 2, none⟩ = some (.int .i64 (p5 : Int)))) wd := Lib.hid (KRd.out.cell 2)
      refine tke 0 (v := ?v0e) ?hy0e hHeld ?rest0e
      case hy0e => rintro wq qB; clear qB; simp only [List.getElem_toArray, List.getElem_cons_zero, List.getElem_cons_succ]; go_simp; try with_reducible rfl
      refine tke 1 (v := ?v1e) ?hy1e hHeld ?rest1e
      case hy1e => rintro wq qB; clear qB; simp only [List.getElem_toArray, List.getElem_cons_zero, List.getElem_cons_succ]; go_simp; try with_reducible rfl
      refine tke 2 (v := ?v2e) ?hy2e hHeld ?rest2e
      case hy2e => rintro wq qB; clear qB; simp only [List.getElem_toArray, List.getElem_cons_zero, List.getElem_cons_succ]; go_simp; try with_reducible rfl
      refine tke 3 (v := ?v3e) ?hy3e hHeld ?rest3e
      case hy3e => rintro wq qB; clear qB; simp only [List.getElem_toArray, List.getElem_cons_zero, List.getElem_cons_succ]; go_simp; try with_reducible rfl
      refine tke 4 (v := ?v4e) ?hy4e hHeld ?rest4e
      case hy4e => rintro wq qB; have q1 := qB.out; clear qB; simp only [List.getElem_toArray, List.getElem_cons_zero, List.getElem_cons_succ]; go_simp; try with_reducible rfl
      refine wpAnyH_ready (rs := [5]) (by kernel_rfl) (by simp) ?_
      refine AllReadyH.cons (o := _) rfl (fun K hK => ?_) AllReadyH.nil
      have hst := store_blk sz_sym KZd.out rfl rfl zSym_one
      try simp only [List.getElem_toArray, List.getElem_cons_zero, List.getElem_cons_succ]
      go_simp
      have KZ9 := Lib.hid (KZd.out.setRow zSym)
      have KR9 := Lib.hid (KRd.out.farRow (k := w.heap.size) (by omega) zSym)
      have HB9 := Lib.hid (belRow HBd.out (Nat.le_refl _) zSym)
      have hres := loadVar_blk Try.underlying26 rfl sz_sym KZ9.out rfl
      refine hK.out _ _ (Lib.hid (KR9.out.cell 2)) (fun _ => ?_)
      refine tke 6 (v := ?v6e) ?hy6e (Lib.hid (KR9.out.cell 2)) ?rest6e
      case hy6e => rintro wq qB; clear qB; simp only [List.getElem_toArray, List.getElem_cons_zero, List.getElem_cons_succ]; go_simp; try with_reducible rfl
      refine tke 7 (v := ?v7e) ?hy7e (Lib.hid (KR9.out.cell 2)) ?rest7e
      case hy7e => rintro wq qB; clear qB; simp only [List.getElem_toArray, List.getElem_cons_zero, List.getElem_cons_succ]; go_simp; try with_reducible rfl
      refine wpAnyH_done (by kernel_rfl) ?_ _
      go_wp2_with fail
      refine bodyPost_ret (v := .tuple #[.agg zSym, .int .i64 (p5 : Int), .int .i64 131]) ?_ rfl ⟨noSym, _, 131, _, _, _, [], rfl, HAN.out, noSym_own _ _, HB9.out⟩
      simp [results, Try.results19, asAddr, hres]
    | true =>
      have c2 : wc.cell? ⟨w.heap.size + 1, 2, none⟩ = some (.int .i64 (-1)) := HR.out.blk.cell 2
      have hlS := load_blk Try.underlying26 rfl sz_sym KS.out rfl
      by_cases hok : smOk ⟨a, cs, vs, ps⟩
      · have H1 := Lib.hid (rright_any (w := wc) ⟨a, cs, vs, ps⟩ OWN.out.at (q := true) ⟨fun _ => hok, fun _ => rfl⟩)
        have HAN := Lib.hid (show DecAns l ⟨a, cs, vs, ps⟩ 0 0 by
          have := DecAns.right HHD.out (by rw [HRR.out]) (by rw [HE1.out]; exact hok)
          rw [HE1.out] at this; exact this)
        clear hok
        go_wp2_with (go_at_call 16; refine H1.out.mono ?_; rintro e w12 ⟨rfl, hb12⟩; have KZ12 := Lib.hid (KZ.out.step hb12); have KS12 := Lib.hid (KS.out.step hb12); have OWN12 := Lib.hid (OWN.out.below hb12); have HB12 := Lib.hid (HBT.out.trans (hb12.mono HBT.out.size)); clear hb12; have hl12 := load_blk Try.underlying26 rfl sz_sym KS12.out rfl; have hst12 := store_blk sz_sym KZ12.out rfl rfl (scells_one ⟨a, cs, vs, ps⟩ (cv := .slice Ac nc cc) (vv := .slice Av nv cv) (pv := .slice A3 n4 p3) rfl rfl rfl); have hres := loadVar_blk Try.underlying26 rfl sz_sym (KZ12.out.setRow (scells ⟨a, cs, vs, ps⟩ (.slice Ac nc cc) (.slice Av nv cv) (.slice A3 n4 p3))) rfl)
        have OWNF := Lib.hid ((OWN12.out.touch (Touch.row w12 w.heap.size (scells ⟨a, cs, vs, ps⟩ (.slice Ac nc cc) (.slice Av nv cv) (.slice A3 n4 p3))) (fun x hx => by simp only [List.mem_singleton] at hx; subst hx; omega)).weak (B' := w.heap.size) (by omega))
        refine bodyPost_ret (v := .tuple #[.agg (scells ⟨a, cs, vs, ps⟩ (.slice Ac nc cc) (.slice Av nv cv) (.slice A3 n4 p3)), .int .i64 0, .int .i64 0]) ?_ rfl ⟨_, 0, 0, _, _, _, pvs, rfl, HAN.out, OWNF.out, belRow HB12.out (Nat.le_refl _) _⟩
        simp [results, Try.results19, asAddr, hres]
      · have H1 := Lib.hid (rright_any (w := wc) ⟨a, cs, vs, ps⟩ OWN.out.at (q := false) ⟨(fun h => by cases h), fun h => absurd h hok⟩)
        have HAN := Lib.hid (DecAns.form HHD.out (by rw [HRR.out]) (by rw [HE1.out]; exact hok))
        clear hok
        go_wp2_with (go_at_call 16; refine H1.out.mono ?_; rintro e w12 ⟨rfl, hb12⟩; have KZ12 := Lib.hid (KZ.out.step hb12); have HB12 := Lib.hid (HBT.out.trans (hb12.mono HBT.out.size)); clear hb12; have hst12 := store_blk sz_sym KZ12.out rfl rfl zSym_one; have hres := loadVar_blk Try.underlying26 rfl sz_sym (KZ12.out.setRow zSym) rfl)
        refine bodyPost_ret (v := .tuple #[.agg zSym, .int .i64 0, .int .i64 130]) ?_ rfl ⟨noSym, 0, 130, _, _, _, [], rfl, HAN.out, noSym_own _ _, belRow HB12.out (Nat.le_refl _) _⟩
        simp [results, Try.results19, asAddr, hres]
/-- The document's Decode: what the pure reader reads. -/
theorem rdecode_any {v : Value} (hF : BytesAt w v l) (ho : Oct l) : Calls Try.prog 19 #[v] w (DecP l w) := by
  by_cases hh : headOk l
  · exact rdecode_body hF ho hh
  · exact rdecode_head hF ho hh
end
end Go.Proofs.Ytgemnmceflcpcaa
