/- Are texts names, no two the same: the document's. -/
import Derived.Test.YtgemnmceflcpcaaSrH
import Derived.Test.YtgemnmceflcpcaaSyL
import Derived.Test.YtgemnmceflcpcaaQG
import Derived.BigQuiet
import Derived.Test.YtgemnmceflcpcaaQC
namespace Go.Proofs.Ytgemnmceflcpcaa
open Go Go.RowKit Go.Lib Go.BigFrame Go.Proofs.Ytgemnmceflcpcaa.Sy
set_option linter.unusedVariables false
set_option linter.unusedSimpArgs false
abbrev srows (l : List ByteArray) : List (List Value) := l.map fun s => [Value.string s]
abbrev NamesAt (w : World) (v : Value) (l : List ByteArray) : Prop := RowsAt w v 1 (srows l)
section
variable {w : World}
theorem str_same {a b : ByteArray} (h : a = b) : (a.toList == b.toList) = true := by subst h; simp
theorem str_diff {a b : ByteArray} (h : a ≠ b) : (a.toList == b.toList) = false := by
  rw [beq_eq_false_iff_ne]
  intro e
  rw [ByteArray.toList_eq, ByteArray.toList_eq] at e
  exact h (by cases a; cases b; congr 1; exact Array.toList_inj.1 e)
theorem names_cells {A : Option Addr} {cap : Nat} {l : List ByteArray} (hF : NamesAt w (.slice A l.length cap) l) (h0 : l ≠ []) : ∃ b off, A = some ⟨b, off, none⟩ ∧ ∀ i s, l[i]? = some s → w.cell? ⟨b, off + i, none⟩ = some (.string s) := by
  obtain ⟨A', cap', e, hc1, hc2, hA⟩ := hF.form
  obtain ⟨rfl, -, rfl⟩ := Value.slice.inj e
  rcases hA with hE | ⟨b, off, rfl, hb, hr⟩
  · exact absurd (by simpa [srows] using hE) h0
  · refine ⟨b, off, rfl, fun i s hs => ?_⟩
    have := hr i [Value.string s] (by rw [List.getElem?_map, hs]; rfl)
    have := this 0 (.string s) rfl
    rwa [Nat.mul_one, Nat.add_zero] at this
theorem take_snocN {l : List ByteArray} {k : Nat} {s : ByteArray} (h : l[k]? = some s) : l.take (k + 1) = l.take k ++ [s] := by
  rw [List.take_add_one, h]; rfl
set_option maxHeartbeats 4000000 in
set_option maxRecDepth 100000 in
theorem rnames_any {v : Value} (l : List ByteArray) (hF : NamesAt w v l) (hs : ∀ n ∈ l, n.size ≤ maxLen) {c : Bool} (hc : IsB c (NmOk l)) :
    Calls Try.prog 47 #[v] w fun e w' => e = .returned (.bool c) ∧ ∃ m, w' = w.drewN m := by
  obtain ⟨A, cap, rfl, hc1, hc2, _⟩ := hF.form
  rw [List.length_map] at *
  have HF := Lib.hid hF
  have HS := Lib.hid hs
  have HC := Lib.hid hc
  unfold maxLen at hc2
  clear hF hs hc
  go_enter Try.func47, Try.ntmps47
  go_wp2_with fail
  go_loopw [3] (fun i wr => ∃ k : Nat, k ≤ l.length ∧ i = .int .i64 k ∧ Hid (NmOk (l.take k)) ∧ ∃ m, wr = w.drewN m) (fun i _ => l.length - (intOf i).toNat)
  case atStart => exact ⟨0, Nat.zero_le _, rfl, Lib.hid NmOk.nil, 0, rfl⟩
  case round =>
    obtain ⟨k, hk, rfl, HN, m, rfl⟩ := hrel
    by_cases hlt : k < l.length
    · obtain ⟨s, hs⟩ : ∃ s, l[k]? = some s := ⟨l[k], List.getElem?_eq_getElem hlt⟩
      obtain ⟨b, off, rfl, hcl⟩ := names_cells HF.out (by intro e; subst e; simp at hlt)
      have hck := hcl k s hs
      have hmem := List.mem_of_getElem? hs
      have hltn : (k : Int) < (l.length : Int) := by omega
      obtain ⟨q, hq⟩ := boolOf (isNm s)
      have HQ := Lib.hid (fun n => risname_any (w := w.drewN n) s (HS.out s hmem) hq)
      have HCL := Lib.hid hcl
      have HSS := Lib.hid hs
      cases q with
      | false =>
        have hno : ¬ NmOk l := fun h => by have := hq.iff.2 (h.is s hmem); cases this
        obtain rfl := HC.out.no hno
        clear hno hq hmem hs hcl
        go_wp2_with (go_at_call 42; refine (HQ.out _).mono ?_; rintro e w1 ⟨rfl, rfl⟩)
        go_ret
        exact ⟨rfl, _, rfl⟩
      | true =>
        have HNM := Lib.hid (hq.iff.1 rfl)
        clear hq hmem hs hcl
        go_wp2_with (go_at_call 42; refine (HQ.out _).mono ?_; rintro e w1 ⟨rfl, rfl⟩)
        go_loopw [5] (fun j wr => ∃ kk : Nat, kk ≤ k ∧ j = .int .i64 kk ∧ Hid (∀ i, i < kk → l[i]? ≠ some s) ∧ ∃ m, wr = w.drewN m) (fun j _ => k - (intOf j).toNat)
        case atStart => exact ⟨0, Nat.zero_le _, rfl, Lib.hid (fun i hi => absurd hi (by omega)), m, rfl⟩
        case round =>
          obtain ⟨kk, hkk, rfl, HD, m2, rfl⟩ := hrel
          by_cases hlt2 : kk < k
          · obtain ⟨t, ht⟩ : ∃ t, l[kk]? = some t := ⟨l[kk], List.getElem?_eq_getElem (by omega)⟩
            have hct := HCL.out kk t ht
            have hltn2 : (kk : Int) < (k : Int) := by omega
            have hkl : kk < l.length := by omega
            have hkln : (kk : Int) < (l.length : Int) := by omega
            have hk0 : (0 : Int) ≤ (k : Int) := by omega
            have hkk0 : (0 : Int) ≤ (kk : Int) := by omega
            by_cases hts : t = s
            · have hno : ¬ NmOk l := fun h => by
                have e := (List.getElem?_inj hkl h.nodup).1 (show l[kk]? = l[k]? by rw [ht, HSS.out, hts])
                omega
              obtain rfl := HC.out.no hno
              have hcmp := str_same hts
              clear hno ht hts
              go_wp2_with fail
              go_big_quiet (fail)
              go_wp2_with fail
              go_ret
              exact ⟨rfl, _, World.drewN_drewN _ _ _⟩
            · have hcmp := str_diff hts
              have HD2 := Lib.hid (show ∀ i, i < kk + 1 → l[i]? ≠ some s from fun i hi => by
                by_cases e : i = kk
                · subst e; rw [ht]; exact fun h => hts (Option.some.inj h)
                · exact HD.out i (by omega))
              clear ht hts
              go_wp2_with fail
              go_big_quiet (fail)
              go_wp2_with fail
              go_roundw
              case rel => exact ⟨kk + 1, by omega, by go_num, HD2, _, rfl⟩
              case measure => simp [intOf]; omega
          · obtain rfl : kk = k := by omega
            have HN2 := Lib.hid (show NmOk (l.take (kk + 1)) by
              rw [take_snocN HSS.out]
              exact HN.out.snoc HNM.out (fun h => by
                obtain ⟨i, hi⟩ := List.mem_iff_getElem?.1 h
                have hik : i < kk := by have := (List.getElem?_eq_some_iff.1 hi).1; rw [List.length_take] at this; omega
                rw [List.getElem?_take_of_lt hik] at hi
                exact HD.out i hik hi))
            go_wp2_with fail
            go_roundw
            case rel => exact ⟨kk + 1, by omega, by go_num, HN2, _, rfl⟩
            case measure => simp [intOf]; omega
    · obtain rfl : k = l.length := by omega
      obtain rfl := HC.out.yes (by have := HN.out; rwa [List.take_length] at this)
      go_wp2_with fail
      go_ret
      exact ⟨rfl, _, rfl⟩
end
end Go.Proofs.Ytgemnmceflcpcaa
namespace Go.Proofs.Ytgemnmceflcpcaa
open Go Go.RowKit Go.Lib Go.Proofs.Ytgemnmceflcpcaa.Sy
set_option linter.unusedVariables false
set_option linter.unusedSimpArgs false
attribute [local go_sem ↓] exec_load_const exec_store_const exec_load_var exec_store_var exec_load_proc exec_store_proc
attribute [local go_sem] ccells vcells pcells
section
variable {w : World}
set_option maxHeartbeats 4000000 in
set_option maxRecDepth 100000 in
theorem rprc_any (p : Pr) {pv : Value} (hn : p.name.size ≤ maxLen) (hv : VrsAt w pv p.params) {k : Bool} (hc : IsB k (prOk p)) : Calls Try.prog 46 #[.agg (pcells p pv)] w fun e w' => e = .returned (.bool k) ∧ Below w.heap.size w w' := by
  obtain ⟨nm, ps, res⟩ := p
  simp only at hn hv
  obtain ⟨A, cap, rfl, hc1, hc2, hA⟩ := hv.1.form
  rw [List.length_map] at *
  unfold maxLen at hc2
  have hb0 := (Below.refl w.heap.size w).alloc (Nat.le_refl _) (.cells #[.string nm, .slice A ps.length cap, .int .i64 res] 63)
  have kb0 := Blk.new w #[.string nm, .slice A ps.length cap, .int .i64 res] 63
  have HB0 := Lib.hid hb0
  have KB0 := Lib.hid kb0
  have HC := Lib.hid hc
  have HV := Lib.hid hv
  have HA := Lib.hid hA
  clear hc hv hA hb0 kb0
  dsimp only [pcells]
  by_cases l8 : ps.length ≤ 8
  · have l81 : (ps.length : Int) ≤ 8 := by omega
    by_cases r0 : res = 0
    · subst r0
      go_enter Try.func46, Try.ntmps46
      go_wp2_with fail
      go_loopw [3] (fun v wr => ∃ i : Nat, i ≤ ps.length ∧ v = .int .i64 i ∧ Hid (∀ j x, j < i → ps[j]? = some x → pvOk x) ∧ Hid (Blk wr w.heap.size #[.string nm, .slice A ps.length cap, .int .i64 0] 63) ∧ Hid (Below w.heap.size w wr)) (fun v _ => ps.length - (intOf v).toNat)
      case atStart => exact ⟨0, Nat.zero_le _, rfl, Lib.hid (fun j x hj => absurd hj (by omega)), KB0, HB0⟩
      case round =>
        obtain ⟨i, hi, rfl, HN, KB, HB⟩ := hrel
        clear KB0 HB0
        have k1 : wr.cell? ⟨w.heap.size, 1, none⟩ = some (.slice A ps.length cap) := KB.out.cell 1
        by_cases hlt : i < ps.length
        · obtain ⟨x, hx⟩ : ∃ x, ps[i]? = some x := ⟨ps[i], List.getElem?_eq_getElem hlt⟩
          rcases HA.out with hE | ⟨b, off, rfl, hb, hr⟩
          · have : ps = [] := by simpa using hE
            subst this; simp at hlt
          have hrx := hr i (vcells x).toList (by rw [List.getElem?_map, hx]; rfl)
          have hl := load_mid Try.underlying73 rfl sz_var (range_below hrx HB.out hb) rfl
          have hst := store_blk_new wr zVar (vcells x) 73 sz_var rfl rfl (vcells_one x)
          have HX := Lib.hid hx
          have hlt1 : (i : Int) < (ps.length : Int) := by omega
          have hi0 : (0 : Int) ≤ (i : Int) := by omega
          have HB2 := Lib.hid (HB.out.alloc HB.out.size (.cells (vcells x) 73))
          have KX := Lib.hid (Blk.new wr (vcells x) 73)
          have KB2 := Lib.hid (KB.out.old (.cells (vcells x) 73))
          clear hrx hr hx
          go_upto_region 7 with fail
          clear hl hst k1
          generalize wr.alloc (.cells (vcells x) 73) = W1 at KX KB2 HB2 ⊢
          have x0 : W1.cell? ⟨wr.heap.size, 0, none⟩ = some (.string x.name) := KX.out.cell 0
          have x1 : W1.cell? ⟨wr.heap.size, 1, none⟩ = some (.int .i64 x.form) := KX.out.cell 1
          have x2 : W1.cell? ⟨wr.heap.size, 2, none⟩ = some (.int .i64 x.len) := KX.out.cell 2
          have bad : ¬ pvOk x → k = false := fun h => HC.out.no (fun g => h (g.1 x (List.mem_of_getElem? HX.out)))
          by_cases p1 : plainF x.form
          · have HQ := Lib.hid (show IsB true (plainF x.form) from ⟨fun _ => p1, fun _ => rfl⟩)
            by_cases p2 : x.name = ⟨#[]⟩
            · rw [p2] at x0
              by_cases p3 : x.len = 0
              · rw [p3] at x2
                have HI := Lib.hid (show ∀ j y, j < i + 1 → ps[j]? = some y → pvOk y from fun j y hj hy => by
                  by_cases e : j = i
                  · subst e; rw [HX.out] at hy; cases hy; exact ⟨p1, p2, p3⟩
                  · exact HN.out j y (by omega) hy)
                clear p1 p2 p3 bad
                go_wp2_with (go_at_call 44; refine (rplain_any x.form HQ.out).mono ?_; rintro e w1 ⟨rfl, rfl⟩)
                go_roundw
                case rel => exact ⟨i + 1, by omega, by go_num, HI, KB2, HB2⟩
                case measure => simp [intOf]; omega
              · have p31 : (x.len != 0) = true := by simpa using p3
                obtain rfl := bad (fun g => p3 g.2.2)
                clear p1 p2 p3 bad
                go_wp2_with (go_at_call 44; refine (rplain_any x.form HQ.out).mono ?_; rintro e w1 ⟨rfl, rfl⟩)
                go_ret
                exact ⟨rfl, HB2.out⟩
            · have z1 := str_ne p2
              have z2 := str_ne2 p2
              obtain rfl := bad (fun g => p2 g.2.1)
              clear p1 p2 bad
              go_wp2_with (go_at_call 44; refine (rplain_any x.form HQ.out).mono ?_; rintro e w1 ⟨rfl, rfl⟩)
              go_ret
              exact ⟨rfl, HB2.out⟩
          · have HQ := Lib.hid (show IsB false (plainF x.form) from ⟨(fun h => by cases h), fun h => absurd h p1⟩)
            obtain rfl := bad (fun g => p1 g.1)
            clear p1 bad
            go_wp2_with (go_at_call 44; refine (rplain_any x.form HQ.out).mono ?_; rintro e w1 ⟨rfl, rfl⟩)
            go_ret
            exact ⟨rfl, HB2.out⟩
        · obtain rfl : i = ps.length := by omega
          have hall : ∀ x ∈ ps, pvOk x := fun x hx => by
            obtain ⟨j, hj⟩ := List.mem_iff_getElem?.1 hx
            exact HN.out j x (List.getElem?_eq_some_iff.1 hj).1 hj
          obtain rfl := HC.out.yes ⟨hall, l8, .inl rfl⟩
          clear hall
          go_wp2_with fail
          go_ret
          exact ⟨rfl, HB.out⟩
    · have r01 : (res == 0) = false := by simpa using r0
      have r02 : (res != 0) = true := by simpa using r0
      by_cases rp : plainF res
      · have HR := Lib.hid (show IsB true (plainF res) from ⟨fun _ => rp, fun _ => rfl⟩)
        have HRP := Lib.hid rp
        clear r0 rp
        go_enter Try.func46, Try.ntmps46
        go_wp2_with (go_at_call 44; refine (rplain_any res HR.out).mono ?_; rintro e w1 ⟨rfl, rfl⟩)
        go_loopw [3] (fun v wr => ∃ i : Nat, i ≤ ps.length ∧ v = .int .i64 i ∧ Hid (∀ j x, j < i → ps[j]? = some x → pvOk x) ∧ Hid (Blk wr w.heap.size #[.string nm, .slice A ps.length cap, .int .i64 res] 63) ∧ Hid (Below w.heap.size w wr)) (fun v _ => ps.length - (intOf v).toNat)
        case atStart => exact ⟨0, Nat.zero_le _, rfl, Lib.hid (fun j x hj => absurd hj (by omega)), KB0, HB0⟩
        case round =>
          obtain ⟨i, hi, rfl, HN, KB, HB⟩ := hrel
          clear KB0 HB0
          have k1 : wr.cell? ⟨w.heap.size, 1, none⟩ = some (.slice A ps.length cap) := KB.out.cell 1
          by_cases hlt : i < ps.length
          · obtain ⟨x, hx⟩ : ∃ x, ps[i]? = some x := ⟨ps[i], List.getElem?_eq_getElem hlt⟩
            rcases HA.out with hE | ⟨b, off, rfl, hb, hr⟩
            · have : ps = [] := by simpa using hE
              subst this; simp at hlt
            have hrx := hr i (vcells x).toList (by rw [List.getElem?_map, hx]; rfl)
            have hl := load_mid Try.underlying73 rfl sz_var (range_below hrx HB.out hb) rfl
            have hst := store_blk_new wr zVar (vcells x) 73 sz_var rfl rfl (vcells_one x)
            have HX := Lib.hid hx
            have hlt1 : (i : Int) < (ps.length : Int) := by omega
            have hi0 : (0 : Int) ≤ (i : Int) := by omega
            have HB2 := Lib.hid (HB.out.alloc HB.out.size (.cells (vcells x) 73))
            have KX := Lib.hid (Blk.new wr (vcells x) 73)
            have KB2 := Lib.hid (KB.out.old (.cells (vcells x) 73))
            clear hrx hr hx
            go_upto_region 7 with fail
            clear hl hst k1
            generalize wr.alloc (.cells (vcells x) 73) = W1 at KX KB2 HB2 ⊢
            have x0 : W1.cell? ⟨wr.heap.size, 0, none⟩ = some (.string x.name) := KX.out.cell 0
            have x1 : W1.cell? ⟨wr.heap.size, 1, none⟩ = some (.int .i64 x.form) := KX.out.cell 1
            have x2 : W1.cell? ⟨wr.heap.size, 2, none⟩ = some (.int .i64 x.len) := KX.out.cell 2
            have bad : ¬ pvOk x → k = false := fun h => HC.out.no (fun g => h (g.1 x (List.mem_of_getElem? HX.out)))
            by_cases p1 : plainF x.form
            · have HQ := Lib.hid (show IsB true (plainF x.form) from ⟨fun _ => p1, fun _ => rfl⟩)
              by_cases p2 : x.name = ⟨#[]⟩
              · rw [p2] at x0
                by_cases p3 : x.len = 0
                · rw [p3] at x2
                  have HI := Lib.hid (show ∀ j y, j < i + 1 → ps[j]? = some y → pvOk y from fun j y hj hy => by
                    by_cases e : j = i
                    · subst e; rw [HX.out] at hy; cases hy; exact ⟨p1, p2, p3⟩
                    · exact HN.out j y (by omega) hy)
                  clear p1 p2 p3 bad
                  go_wp2_with (go_at_call 44; refine (rplain_any x.form HQ.out).mono ?_; rintro e w1 ⟨rfl, rfl⟩)
                  go_roundw
                  case rel => exact ⟨i + 1, by omega, by go_num, HI, KB2, HB2⟩
                  case measure => simp [intOf]; omega
                · have p31 : (x.len != 0) = true := by simpa using p3
                  obtain rfl := bad (fun g => p3 g.2.2)
                  clear p1 p2 p3 bad
                  go_wp2_with (go_at_call 44; refine (rplain_any x.form HQ.out).mono ?_; rintro e w1 ⟨rfl, rfl⟩)
                  go_ret
                  exact ⟨rfl, HB2.out⟩
              · have z1 := str_ne p2
                have z2 := str_ne2 p2
                obtain rfl := bad (fun g => p2 g.2.1)
                clear p1 p2 bad
                go_wp2_with (go_at_call 44; refine (rplain_any x.form HQ.out).mono ?_; rintro e w1 ⟨rfl, rfl⟩)
                go_ret
                exact ⟨rfl, HB2.out⟩
            · have HQ := Lib.hid (show IsB false (plainF x.form) from ⟨(fun h => by cases h), fun h => absurd h p1⟩)
              obtain rfl := bad (fun g => p1 g.1)
              clear p1 bad
              go_wp2_with (go_at_call 44; refine (rplain_any x.form HQ.out).mono ?_; rintro e w1 ⟨rfl, rfl⟩)
              go_ret
              exact ⟨rfl, HB2.out⟩
          · obtain rfl : i = ps.length := by omega
            have hall : ∀ x ∈ ps, pvOk x := fun x hx => by
              obtain ⟨j, hj⟩ := List.mem_iff_getElem?.1 hx
              exact HN.out j x (List.getElem?_eq_some_iff.1 hj).1 hj
            obtain rfl := HC.out.yes ⟨hall, l8, .inr HRP.out⟩
            clear hall
            go_wp2_with fail
            go_ret
            exact ⟨rfl, HB.out⟩
      · have HR := Lib.hid (show IsB false (plainF res) from ⟨(fun h => by cases h), fun h => absurd h rp⟩)
        obtain rfl := HC.out.no (fun h => by rcases h.2.2 with h | h; exact r0 h; exact rp h)
        clear r0 rp
        go_enter Try.func46, Try.ntmps46
        go_wp2_with (go_at_call 44; refine (rplain_any res HR.out).mono ?_; rintro e w1 ⟨rfl, rfl⟩)
        go_ret
        exact ⟨rfl, HB0.out⟩
  · obtain rfl := HC.out.no (fun h => l8 h.2.1)
    have l81 : 8 < (ps.length : Int) := by omega
    go_enter Try.func46, Try.ntmps46
    go_wp2_with fail
    go_ret
    exact ⟨rfl, HB0.out⟩
end
end Go.Proofs.Ytgemnmceflcpcaa
