/- The reader: rows. -/
import Derived.Test.YtgemnmceflcpcaaSdK
namespace Go.Proofs.Ytgemnmceflcpcaa
open Go Go.RowKit Go.Lib Go.Proofs.Ytgemnmceflcpcaa.Sy Pl
set_option linter.unusedVariables false
set_option linter.unusedSimpArgs false
attribute [local go_sem ↓] exec_load_const exec_store_const exec_load_var exec_store_var exec_load_proc exec_store_proc
attribute [local go_sem] ccells vcells pcells
/-- A list of the call's own, from block B on: its elements' cells. -/
abbrev OwnL (w : World) (B : Nat) (ty : TypeId) (sz : Nat) (v : Value) (rows : List (List Value)) : Prop := w.ownsRow B ty sz v rows.length rows.flatten
theorem ownL_push {w : World} {B : Nat} {ty : TypeId} {sz : Nat} {v : Value} {rows : List (List Value)} {r : List Value} (h : w.ownsRow B ty sz v (rows.length + 1) (rows.flatten ++ r)) : OwnL w B ty sz v (rows ++ [r]) := by
  unfold OwnL; rw [List.length_append, List.flatten_append]; simpa using h
theorem OwnL.lt {w : World} {B : Nat} {ty : TypeId} {sz : Nat} {v : Value} {rows : List (List Value)} (h : OwnL w B ty sz v rows) (g : Nat) (hg : v.ownBlock = some g) : g < w.heap.size ∧ B ≤ g := own_lt h g hg
theorem OwnL.touch {w w' : World} {B : Nat} {ty : TypeId} {sz : Nat} {v : Value} {rows : List (List Value)} {s : List Nat} (h : OwnL w B ty sz v rows) (T : Touch w w' s) (hn : ∀ x ∈ s, x < B) : OwnL w' B ty sz v rows :=
  T.owns h (fun g hg hm => by have := (own_lt h g hg).2; have := hn g hm; omega)
theorem rowsS_zero {α : Type} (one : Rd → α × Rd) (r : Rd) : rowsS one 0 r = ([], r) := rfl
theorem rowsS_bad {α : Type} (one : Rd → α × Rd) (n : Nat) {r : Rd} (h : r.ok = false) : rowsS one n r = ([], r) := by
  cases n with
  | zero => rfl
  | succ n => unfold rowsS; rw [if_neg (by rw [h]; decide)]
theorem rowsS_step {α : Type} (one : Rd → α × Rd) (n : Nat) {r r' : Rd} {x : α} (h : r.ok = true) (hx : one r = (x, r')) : rowsS one (n + 1) r = (x :: (rowsS one n r').1, (rowsS one n r').2) := by
  conv => lhs; unfold rowsS
  rw [if_pos h, hx]
theorem numS_le (l : List Int) (most : Nat) (r : Rd) : (numS l most r).1 ≤ most := by
  unfold numS
  split
  · split
    · split
      · assumption
      · exact Nat.zero_le _
    · exact Nat.zero_le _
  · exact Nat.zero_le _
theorem info_const : (Try.prog.info? 48).map (fun i => (i.zero, i.size, i.bytes)) = some (some (.agg #[.string ⟨#[]⟩, .int .i64 0, .int .i64 0, .string ⟨#[]⟩, .bool false]), 5, 56) := by kernel_rfl
theorem info_var : (Try.prog.info? 73).map (fun i => (i.zero, i.size, i.bytes)) = some (some (.agg #[.string ⟨#[]⟩, .int .i64 0, .int .i64 0, .bool false, .bool false]), 5, 40) := by kernel_rfl
section
variable {w : World} {g : Nat} {v : Value} {l : List Int}
set_option maxHeartbeats 4000000 in
set_option maxRecDepth 100000 in
theorem rows_const {r : Rd} (hR : RdAt w g v l r) (most : Nat) (hm : most ≤ 200) :
    Calls Try.prog 51 #[.pointer (some ⟨g, 0, none⟩), .int .u32 most, .func (.func 52) #[.pointer (some ⟨g, 0, none⟩)] #[]] w fun e w' => ∃ u, e = .returned u ∧ OwnL w' w.heap.size 48 5 u ((countS l (constS l) most r).1.map fun c => (ccells c).toList) ∧ RdAt w' g v l (countS l (constS l) most r).2 ∧ Touch w w' [g] := by
  have hg := hR.blk.lt
  have HM := Lib.hid (numS_le l most r)
  have H1 := Lib.hid (number_r hR most (by omega))
  have HMM := Lib.hid hm
  obtain ⟨i0, hi, hz0, hz1, hz2⟩ := info_parts info_const
  have HI := Lib.hid hi
  have HZ0 := Lib.hid hz0
  have HZ1 := Lib.hid hz1
  have HZ2 := Lib.hid hz2
  unfold countS
  obtain ⟨n0, r0, hn⟩ : ∃ n0 r0, numS l most r = (n0, r0) := ⟨_, _, rfl⟩
  rw [hn] at HM H1 ⊢
  simp only at HM H1 ⊢
  clear hi hz0 hz1 hz2 hn hR hm
  go_enter Try.func51, Try.ntmps51
  go_wp2_with (go_at_call 57; refine H1.out.mono ?_; rintro e w1 ⟨rfl, hr1, ht1⟩; have HR1 := Lib.hid hr1; have HT1 := Lib.hid ht1; clear hr1 ht1)
  go_loopw [7, 8] (fun u i wr => ∃ (k : Nat) (acc : List Cst) (rk : Rd), i = .int .i64 k ∧ Hid (acc.length + k ≤ 200) ∧ Hid (rowsS (constS l) n0 r0 = (acc ++ (rowsS (constS l) k rk).1, (rowsS (constS l) k rk).2)) ∧ Hid (RdAt wr g v l rk) ∧ Hid (Touch w wr [g]) ∧ Hid (OwnL wr w.heap.size 48 5 u (acc.map fun c => (ccells c).toList))) (fun _ i _ => (intOf i).toNat)
  case atStart => exact ⟨n0, [], r0, rfl, Lib.hid (by have := HM.out; have := HMM.out; simp; omega), Lib.hid (by simp), HR1, HT1, Lib.hid (World.ownsRow_nil _ _ _ _)⟩
  case round =>
    obtain ⟨k, acc, rk, rfl, HK, HE, HR, HT, OWN⟩ := hrel
    by_cases hk0 : k = 0
    · subst hk0
      go_wp2_with fail
      go_ret
      refine ⟨_, rfl, ?_, ?_, HT.out⟩
      · rw [HE.out, rowsS_zero, List.append_nil]; exact OWN.out
      · rw [HE.out, rowsS_zero]; exact HR.out
    · have hk1 : (0 : Int) < (k : Int) := by omega
      cases hok : rk.ok with
      | false =>
        have c2 : wr.cell? ⟨g, 2, none⟩ = some (.int .i64 (rk.pos : Int)) := by have := HR.out.blk.cell 2; rw [this]; simp [rcells, Rd.bad, hok]
        have hp0 : (0 : Int) ≤ (rk.pos : Int) := by omega
        have HOK := Lib.hid hok
        clear hok
        go_wp2_with fail
        go_ret
        refine ⟨_, rfl, ?_, ?_, HT.out⟩
        · rw [HE.out, rowsS_bad _ _ HOK.out, List.append_nil]; exact OWN.out
        · rw [HE.out, rowsS_bad _ _ HOK.out]; exact HR.out
      | true =>
        have c2 : wr.cell? ⟨g, 2, none⟩ = some (.int .i64 (-1)) := by have := HR.out.blk.cell 2; rw [this]; simp [rcells, Rd.bad, hok]
        obtain ⟨j, rfl⟩ : ∃ j, k = j + 1 := ⟨k - 1, by omega⟩
        obtain ⟨x, r', hx⟩ : ∃ x r', constS l rk = (x, r') := ⟨_, _, rfl⟩
        have HE2 := Lib.hid (show rowsS (constS l) n0 r0 = ((acc ++ [x]) ++ (rowsS (constS l) j r').1, (rowsS (constS l) j r').2) by rw [HE.out, rowsS_step _ _ hok hx]; simp)
        have H2 := Lib.hid (constant_r HR.out)
        rw [hx] at H2
        have H2 : Hid (Calls Try.prog 52 #[.pointer (some ⟨g, 0, none⟩)] wr (RdP g v l wr r' (.agg (ccells x)))) := H2
        have hj9 : (j : Int) ≤ 200 := by have := HK.out; omega
        clear hok hx HE
        go_wp2_with (first
          | (at_builtin; refine wpList_append_own _ rfl _ _ 22 rfl w.heap.size 48 i0 (.agg #[.string ⟨#[]⟩, .int .i64 0, .int .i64 0, .string ⟨#[]⟩, .bool false]) 5 56 Try.underlying22 HI.out HZ0.out HZ1.out HZ2.out rfl (by decide) _ _ _ rfl (World.ownsRow.alloc OWN3.out _) ⟨w3.heap.size, 0, none⟩ 1 1 (ccells x).toList rfl rfl ?c1 ?c2 ?c3 ?c4 ?c5 ?_)
          | (go_at_call 52; refine H2.out.mono ?_; rintro e w3 ⟨rfl, hr3, ht3⟩; have OWN3 := Lib.hid (OWN.out.touch ht3 (fun y hy => by simp only [List.mem_singleton] at hy; omega)); have HR3 := Lib.hid hr3; have HT3 := Lib.hid (HT.out.trans ht3 (fun x h _ => h)); clear hr3 ht3))
        case c2 => exact ⟨rfl, rfl, rfl, rfl, rfl⟩
        case c3 => have := HK.out; rw [List.length_map]; unfold maxLen; omega
        case c4 => have := HK.out; rw [List.length_map]; omega
        case c5 => have := HT3.out.size; simp; omega
        intro v' w8 hown8 hgrow8 _
        have T8 := Touch.of_grown hgrow8
        have OWN8 := Lib.hid (show OwnL w8 w.heap.size 48 5 v' ((acc ++ [x]).map fun c => (ccells c).toList) by rw [List.map_append]; exact ownL_push (by rw [List.length_map]; exact hown8))
        have HR8 := Lib.hid ((HR3.out.new (ccells x) 48).touch T8 (fun y hy => by simp only [Option.mem_toList, Option.mem_def] at hy; have := (own_lt OWN3.out y hy).2; omega))
        have HT8 := Lib.hid (Touch.trans (HT3.out.trans ((Touch.alloc w3 (.cells (ccells x) 48)).mono (r' := [g]) (fun y h => by cases h)) (fun y h _ => h)) T8 (fun y hy hlt => by simp only [Option.mem_toList, Option.mem_def] at hy; have := (own_lt OWN3.out y hy).2; omega))
        clear hown8 hgrow8 T8
        go_wp2_with fail
        go_roundw
        case rel => exact ⟨j, acc ++ [x], r', by first | go_num | rfl, Lib.hid (by have := HK.out; simp; omega), HE2, HR8, HT8, OWN8⟩
        case measure => simp [intOf]
set_option maxHeartbeats 4000000 in
set_option maxRecDepth 100000 in
theorem rows_var {r : Rd} {Bs : Nat} (hR : RdAt w g v l r) (most : Nat) (hm : most ≤ 200) (hB : Box w Bs g) (hBg : Bs ≠ g) :
    Calls Try.prog 53 #[.pointer (some ⟨g, 0, none⟩), .int .u32 most, .func (.func 54) #[] #[.pointer (some ⟨Bs, 0, none⟩)]] w fun e w' => ∃ u, e = .returned u ∧ OwnL w' w.heap.size 73 5 u ((countS l (varS l) most r).1.map fun c => (vcells c).toList) ∧ RdAt w' g v l (countS l (varS l) most r).2 ∧ Touch w w' [g] := by
  have hg := hR.blk.lt
  have HM := Lib.hid (numS_le l most r)
  have H1 := Lib.hid (number_r hR most (by omega))
  have HMM := Lib.hid hm
  obtain ⟨i0, hi, hz0, hz1, hz2⟩ := info_parts info_var
  have HI := Lib.hid hi
  have HZ0 := Lib.hid hz0
  have HZ1 := Lib.hid hz1
  have HZ2 := Lib.hid hz2
  have HBX := Lib.hid hB
  have HBG := Lib.hid hBg
  clear hB hBg
  unfold countS
  obtain ⟨n0, r0, hn⟩ : ∃ n0 r0, numS l most r = (n0, r0) := ⟨_, _, rfl⟩
  rw [hn] at HM H1 ⊢
  simp only at HM H1 ⊢
  clear hi hz0 hz1 hz2 hn hR hm
  go_enter Try.func53, Try.ntmps53
  go_wp2_with (go_at_call 57; refine H1.out.mono ?_; rintro e w1 ⟨rfl, hr1, ht1⟩; have HR1 := Lib.hid hr1; have HT1 := Lib.hid ht1; clear hr1 ht1)
  go_loopw [7, 8] (fun u i wr => ∃ (k : Nat) (acc : List Vr) (rk : Rd), i = .int .i64 k ∧ Hid (acc.length + k ≤ 200) ∧ Hid (rowsS (varS l) n0 r0 = (acc ++ (rowsS (varS l) k rk).1, (rowsS (varS l) k rk).2)) ∧ Hid (RdAt wr g v l rk) ∧ Hid (Touch w wr [g]) ∧ Hid (OwnL wr w.heap.size 73 5 u (acc.map fun c => (vcells c).toList))) (fun _ i _ => (intOf i).toNat)
  case atStart => exact ⟨n0, [], r0, rfl, Lib.hid (by have := HM.out; have := HMM.out; simp; omega), Lib.hid (by simp), HR1, HT1, Lib.hid (World.ownsRow_nil _ _ _ _)⟩
  case round =>
    obtain ⟨k, acc, rk, rfl, HK, HE, HR, HT, OWN⟩ := hrel
    by_cases hk0 : k = 0
    · subst hk0
      go_wp2_with fail
      go_ret
      refine ⟨_, rfl, ?_, ?_, HT.out⟩
      · rw [HE.out, rowsS_zero, List.append_nil]; exact OWN.out
      · rw [HE.out, rowsS_zero]; exact HR.out
    · have hk1 : (0 : Int) < (k : Int) := by omega
      cases hok : rk.ok with
      | false =>
        have c2 : wr.cell? ⟨g, 2, none⟩ = some (.int .i64 (rk.pos : Int)) := by have := HR.out.blk.cell 2; rw [this]; simp [rcells, Rd.bad, hok]
        have hp0 : (0 : Int) ≤ (rk.pos : Int) := by omega
        have HOK := Lib.hid hok
        clear hok
        go_wp2_with fail
        go_ret
        refine ⟨_, rfl, ?_, ?_, HT.out⟩
        · rw [HE.out, rowsS_bad _ _ HOK.out, List.append_nil]; exact OWN.out
        · rw [HE.out, rowsS_bad _ _ HOK.out]; exact HR.out
      | true =>
        have c2 : wr.cell? ⟨g, 2, none⟩ = some (.int .i64 (-1)) := by have := HR.out.blk.cell 2; rw [this]; simp [rcells, Rd.bad, hok]
        obtain ⟨j, rfl⟩ : ∃ j, k = j + 1 := ⟨k - 1, by omega⟩
        obtain ⟨x, r', hx⟩ : ∃ x r', varS l rk = (x, r') := ⟨_, _, rfl⟩
        have HE2 := Lib.hid (show rowsS (varS l) n0 r0 = ((acc ++ [x]) ++ (rowsS (varS l) j r').1, (rowsS (varS l) j r').2) by rw [HE.out, rowsS_step _ _ hok hx]; simp)
        have H2 := Lib.hid (var_r HR.out (HT.out.blk HBX.out (by simpa using HBG.out)) HBG.out)
        rw [hx] at H2
        have H2 : Hid (Calls Try.prog 54 #[.pointer (some ⟨Bs, 0, none⟩)] wr (RdP g v l wr r' (.agg (vcells x)))) := H2
        have hj9 : (j : Int) ≤ 200 := by have := HK.out; omega
        clear hok hx HE
        go_wp2_with (first
          | (at_builtin; refine wpList_append_own _ rfl _ _ 23 rfl w.heap.size 73 i0 (.agg #[.string ⟨#[]⟩, .int .i64 0, .int .i64 0, .bool false, .bool false]) 5 40 Try.underlying23 HI.out HZ0.out HZ1.out HZ2.out rfl (by decide) _ _ _ rfl (World.ownsRow.alloc OWN3.out _) ⟨w3.heap.size, 0, none⟩ 1 1 (vcells x).toList rfl rfl ?c1 ?c2 ?c3 ?c4 ?c5 ?_)
          | (go_at_call 54; refine H2.out.mono ?_; rintro e w3 ⟨rfl, hr3, ht3⟩; have OWN3 := Lib.hid (OWN.out.touch ht3 (fun y hy => by simp only [List.mem_singleton] at hy; omega)); have HR3 := Lib.hid hr3; have HT3 := Lib.hid (HT.out.trans ht3 (fun x h _ => h)); clear hr3 ht3))
        case c2 => exact ⟨rfl, rfl, rfl, rfl, rfl⟩
        case c3 => have := HK.out; rw [List.length_map]; unfold maxLen; omega
        case c4 => have := HK.out; rw [List.length_map]; omega
        case c5 => have := HT3.out.size; simp; omega
        intro v' w8 hown8 hgrow8 _
        have T8 := Touch.of_grown hgrow8
        have OWN8 := Lib.hid (show OwnL w8 w.heap.size 73 5 v' ((acc ++ [x]).map fun c => (vcells c).toList) by rw [List.map_append]; exact ownL_push (by rw [List.length_map]; exact hown8))
        have HR8 := Lib.hid ((HR3.out.new (vcells x) 73).touch T8 (fun y hy => by simp only [Option.mem_toList, Option.mem_def] at hy; have := (own_lt OWN3.out y hy).2; omega))
        have HT8 := Lib.hid (Touch.trans (HT3.out.trans ((Touch.alloc w3 (.cells (vcells x) 73)).mono (r' := [g]) (fun y h => by cases h)) (fun y h _ => h)) T8 (fun y hy hlt => by simp only [Option.mem_toList, Option.mem_def] at hy; have := (own_lt OWN3.out y hy).2; omega))
        clear hown8 hgrow8 T8
        go_wp2_with fail
        go_roundw
        case rel => exact ⟨j, acc ++ [x], r', by first | go_num | rfl, Lib.hid (by have := HK.out; simp; omega), HE2, HR8, HT8, OWN8⟩
        case measure => simp [intOf]
set_option maxHeartbeats 4000000 in
set_option maxRecDepth 100000 in
theorem rows_par {r : Rd} {Bs : Nat} (hR : RdAt w g v l r) (most : Nat) (hm : most ≤ 200) (hB : Box w Bs g) (hBg : Bs ≠ g) :
    Calls Try.prog 53 #[.pointer (some ⟨g, 0, none⟩), .int .u32 most, .func (.func 83) #[] #[.pointer (some ⟨Bs, 0, none⟩)]] w fun e w' => ∃ u, e = .returned u ∧ OwnL w' w.heap.size 73 5 u ((countS l (parS l) most r).1.map fun c => (vcells c).toList) ∧ RdAt w' g v l (countS l (parS l) most r).2 ∧ Touch w w' [g] := by
  have hg := hR.blk.lt
  have HM := Lib.hid (numS_le l most r)
  have H1 := Lib.hid (number_r hR most (by omega))
  have HMM := Lib.hid hm
  obtain ⟨i0, hi, hz0, hz1, hz2⟩ := info_parts info_var
  have HI := Lib.hid hi
  have HZ0 := Lib.hid hz0
  have HZ1 := Lib.hid hz1
  have HZ2 := Lib.hid hz2
  have HBX := Lib.hid hB
  have HBG := Lib.hid hBg
  clear hB hBg
  unfold countS
  obtain ⟨n0, r0, hn⟩ : ∃ n0 r0, numS l most r = (n0, r0) := ⟨_, _, rfl⟩
  rw [hn] at HM H1 ⊢
  simp only at HM H1 ⊢
  clear hi hz0 hz1 hz2 hn hR hm
  go_enter Try.func53, Try.ntmps53
  go_wp2_with (go_at_call 57; refine H1.out.mono ?_; rintro e w1 ⟨rfl, hr1, ht1⟩; have HR1 := Lib.hid hr1; have HT1 := Lib.hid ht1; clear hr1 ht1)
  go_loopw [7, 8] (fun u i wr => ∃ (k : Nat) (acc : List Vr) (rk : Rd), i = .int .i64 k ∧ Hid (acc.length + k ≤ 200) ∧ Hid (rowsS (parS l) n0 r0 = (acc ++ (rowsS (parS l) k rk).1, (rowsS (parS l) k rk).2)) ∧ Hid (RdAt wr g v l rk) ∧ Hid (Touch w wr [g]) ∧ Hid (OwnL wr w.heap.size 73 5 u (acc.map fun c => (vcells c).toList))) (fun _ i _ => (intOf i).toNat)
  case atStart => exact ⟨n0, [], r0, rfl, Lib.hid (by have := HM.out; have := HMM.out; simp; omega), Lib.hid (by simp), HR1, HT1, Lib.hid (World.ownsRow_nil _ _ _ _)⟩
  case round =>
    obtain ⟨k, acc, rk, rfl, HK, HE, HR, HT, OWN⟩ := hrel
    by_cases hk0 : k = 0
    · subst hk0
      go_wp2_with fail
      go_ret
      refine ⟨_, rfl, ?_, ?_, HT.out⟩
      · rw [HE.out, rowsS_zero, List.append_nil]; exact OWN.out
      · rw [HE.out, rowsS_zero]; exact HR.out
    · have hk1 : (0 : Int) < (k : Int) := by omega
      cases hok : rk.ok with
      | false =>
        have c2 : wr.cell? ⟨g, 2, none⟩ = some (.int .i64 (rk.pos : Int)) := by have := HR.out.blk.cell 2; rw [this]; simp [rcells, Rd.bad, hok]
        have hp0 : (0 : Int) ≤ (rk.pos : Int) := by omega
        have HOK := Lib.hid hok
        clear hok
        go_wp2_with fail
        go_ret
        refine ⟨_, rfl, ?_, ?_, HT.out⟩
        · rw [HE.out, rowsS_bad _ _ HOK.out, List.append_nil]; exact OWN.out
        · rw [HE.out, rowsS_bad _ _ HOK.out]; exact HR.out
      | true =>
        have c2 : wr.cell? ⟨g, 2, none⟩ = some (.int .i64 (-1)) := by have := HR.out.blk.cell 2; rw [this]; simp [rcells, Rd.bad, hok]
        obtain ⟨j, rfl⟩ : ∃ j, k = j + 1 := ⟨k - 1, by omega⟩
        obtain ⟨x, r', hx⟩ : ∃ x r', parS l rk = (x, r') := ⟨_, _, rfl⟩
        have HE2 := Lib.hid (show rowsS (parS l) n0 r0 = ((acc ++ [x]) ++ (rowsS (parS l) j r').1, (rowsS (parS l) j r').2) by rw [HE.out, rowsS_step _ _ hok hx]; simp)
        have H2 := Lib.hid (par_r HR.out (HT.out.blk HBX.out (by simpa using HBG.out)) HBG.out)
        rw [hx] at H2
        have H2 : Hid (Calls Try.prog 83 #[.pointer (some ⟨Bs, 0, none⟩)] wr (RdP g v l wr r' (.agg (vcells x)))) := H2
        have hj9 : (j : Int) ≤ 200 := by have := HK.out; omega
        clear hok hx HE
        go_wp2_with (first
          | (at_builtin; refine wpList_append_own _ rfl _ _ 23 rfl w.heap.size 73 i0 (.agg #[.string ⟨#[]⟩, .int .i64 0, .int .i64 0, .bool false, .bool false]) 5 40 Try.underlying23 HI.out HZ0.out HZ1.out HZ2.out rfl (by decide) _ _ _ rfl (World.ownsRow.alloc OWN3.out _) ⟨w3.heap.size, 0, none⟩ 1 1 (vcells x).toList rfl rfl ?c1 ?c2 ?c3 ?c4 ?c5 ?_)
          | (go_at_call 83; refine H2.out.mono ?_; rintro e w3 ⟨rfl, hr3, ht3⟩; have OWN3 := Lib.hid (OWN.out.touch ht3 (fun y hy => by simp only [List.mem_singleton] at hy; omega)); have HR3 := Lib.hid hr3; have HT3 := Lib.hid (HT.out.trans ht3 (fun x h _ => h)); clear hr3 ht3))
        case c2 => exact ⟨rfl, rfl, rfl, rfl, rfl⟩
        case c3 => have := HK.out; rw [List.length_map]; unfold maxLen; omega
        case c4 => have := HK.out; rw [List.length_map]; omega
        case c5 => have := HT3.out.size; simp; omega
        intro v' w8 hown8 hgrow8 _
        have T8 := Touch.of_grown hgrow8
        have OWN8 := Lib.hid (show OwnL w8 w.heap.size 73 5 v' ((acc ++ [x]).map fun c => (vcells c).toList) by rw [List.map_append]; exact ownL_push (by rw [List.length_map]; exact hown8))
        have HR8 := Lib.hid ((HR3.out.new (vcells x) 73).touch T8 (fun y hy => by simp only [Option.mem_toList, Option.mem_def] at hy; have := (own_lt OWN3.out y hy).2; omega))
        have HT8 := Lib.hid (Touch.trans (HT3.out.trans ((Touch.alloc w3 (.cells (vcells x) 73)).mono (r' := [g]) (fun y h => by cases h)) (fun y h _ => h)) T8 (fun y hy hlt => by simp only [Option.mem_toList, Option.mem_def] at hy; have := (own_lt OWN3.out y hy).2; omega))
        clear hown8 hgrow8 T8
        go_wp2_with fail
        go_roundw
        case rel => exact ⟨j, acc ++ [x], r', by first | go_num | rfl, Lib.hid (by have := HK.out; simp; omega), HE2, HR8, HT8, OWN8⟩
        case measure => simp [intOf]
end
end Go.Proofs.Ytgemnmceflcpcaa
