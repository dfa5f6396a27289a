/- All of a list are so: constants, variables, procedures. -/
import Derived.Test.YtgemnmceflcpcaaSyH
import Derived.DeepKeys
import Derived.Deep.QuietTactic
import Derived.BigQuiet
namespace Go.Proofs.Ytgemnmceflcpcaa
open Go Go.RowKit Go.Lib Go.Proofs.Ytgemnmceflcpcaa.Sy
set_option linter.unusedVariables false
set_option linter.unusedSimpArgs false
attribute [local go_sem ↓] exec_load_const exec_store_const exec_load_var exec_store_var exec_load_proc exec_store_proc
attribute [local go_sem] ccells vcells pcells
theorem hmf_sy (fn : Fn) (first cap : Array Value) (w : World) : (Instr.makeFunc fn first cap).run Try.prog w = .ok (.func fn first cap) w := rfl
theorem list_of {w : World} {fv : Value} {sz : Nat} {rows : List (List Value)} {n : Nat} (h : RowsAt w fv sz rows) (hn : rows.length = n) : ∃ A cap, fv = .slice A n cap ∧ n ≤ cap ∧ cap ≤ maxLen ∧ (n = 0 ∨ ∃ b off, A = some ⟨b, off, none⟩ ∧ b < w.heap.size ∧ ∀ k r, rows[k]? = some r → w.rangeAt b (off + k * sz) r) := by
  obtain ⟨A, cap, e, h1, h2, h3⟩ := h.form
  subst hn
  refine ⟨A, cap, e, h1, h2, ?_⟩
  rcases h3 with h3 | h3
  · left; rw [h3]; rfl
  · exact .inr h3
section
variable {w : World}
set_option maxHeartbeats 4000000 in
theorem all1_const (x : Cst) {q : Bool} (hf : CFit x) (hc : IsB q (cstOk x)) (g : Nat) (t : TypeId) (hg : Blk w g #[.func (.func 24) #[] #[]] t) :
    Calls Try.prog 69 #[.agg (ccells x), .pointer (some ⟨g, 0, none⟩)] w fun e w' => e = .returned (.bool (!q)) ∧ Below w.heap.size w w' := by
  have HC := Lib.hid hc
  have HF := Lib.hid hf
  have HG := Lib.hid (hg.old (.cells (ccells x) 48))
  have HB0 := Lib.hid ((Below.refl w.heap.size w).alloc (Nat.le_refl _) (.cells (ccells x) 48))
  have HBF := Lib.hid ((Below.refl w.heap.size w).alloc (Nat.le_refl _) (.cells (ccells x) 48))
  have KX := Lib.hid (Blk.new w (ccells x) 48)
  clear hc hf hg
  go_enter Try.func69, Try.ntmps69
  go_upto_region 1 with fail
  generalize w.alloc (.cells (ccells x) 48) = W1 at HG KX HB0 HBF ⊢
  have hcell : W1.cell? ⟨g, 0, none⟩ = some (.func (.func 24) #[] #[]) := HG.out.cell 0
  have hl := load_blk Try.underlying48 rfl sz_const KX.out rfl
  have H1 := Lib.hid (constant_any (w := W1) x HF.out HC.out)
  go_wp2_with (go_at_call 24; refine H1.out.mono ?_; rintro e w1 ⟨rfl, hb1⟩; have HB1 := Lib.hid (hb1.mono HB0.out.size); clear hb1)
  go_ret
  exact ⟨rfl, HB0.out.trans HB1.out⟩
set_option maxHeartbeats 4000000 in
theorem index_const {fv : Value} {l : List Cst} (hF : CstsAt w fv l) (g : Nat) (t : TypeId) (hg : Blk w g #[.func (.func 24) #[] #[]] t) {q : Bool} (hc : IsB q (∀ x ∈ l, cstOk x)) :
    Calls Try.prog 89 #[fv, .func (.func 69) #[] #[.pointer (some ⟨g, 0, none⟩)]] w fun e w' => ∃ r : Int, e = .returned (.int .i64 r) ∧ ((q = true ∧ r = -1) ∨ (q = false ∧ 0 ≤ r)) ∧ Below w.heap.size w w' := by
  obtain ⟨A, cap, rfl, hc1, hc2, hF'⟩ := list_of hF.1 (List.length_map _)
  rcases hF' with hz | ⟨b, off, rfl, hb, hr⟩
  · obtain rfl : l = [] := List.length_eq_zero_iff.1 hz
    have HQ := Lib.hid (hc.yes (fun x hx => by cases hx))
    clear hc hg hF
    go_enter Try.func89, Try.ntmps89
    go_wp2_with fail
    refine wp_loop_rounds 1 ?_
    rw [rounds_succ]
    go_wp2_with fail
    go_ret
    exact ⟨_, rfl, .inl ⟨HQ.out, rfl⟩, Below.refl _ _⟩
  · unfold maxLen at hc2
    have HF := Lib.hid hF
    have HG := Lib.hid hg
    have HR := Lib.hid hr
    have HC := Lib.hid hc
    clear hF hg hr hc
    go_enter Try.func89, Try.ntmps89
    go_wp2_with fail
    go_loopw [5, 8] (fun u v wr => ∃ k : Nat, k ≤ l.length ∧ v = .int .i64 k ∧ Hid (∀ j x, j < k → l[j]? = some x → cstOk x) ∧ Hid (Below w.heap.size w wr)) (fun _ v _ => l.length - (intOf v).toNat)
    case atStart => exact ⟨0, Nat.zero_le _, rfl, Lib.hid (fun j f hj => absurd hj (by omega)), Lib.hid (Below.refl _ _)⟩
    case round =>
      obtain ⟨k, hk, rfl, HN, HB⟩ := hrel
      by_cases hlt : k < l.length
      · obtain ⟨x, hx⟩ : ∃ x, l[k]? = some x := ⟨l[k], List.getElem?_eq_getElem hlt⟩
        have hrx := HR.out k (ccells x).toList (by rw [List.getElem?_map, hx]; rfl)
        have hfit := HF.out.2 x (List.mem_of_getElem? hx)
        have hl := load_mid Try.underlying48 rfl sz_const (range_below hrx HB.out hb) rfl
        obtain ⟨q1, hq1⟩ := boolOf (cstOk x)
        have H1 := Lib.hid (all1_const (w := wr) x (hfit) hq1 g t (HG.out.below HB.out HG.out.lt))
        have HX := Lib.hid hx
        have hlt1 : (k : Int) < (l.length : Int) := by omega
        clear hx hrx hfit
        cases q1 with
        | true =>
          have HI := Lib.hid (show ∀ j x', j < k + 1 → l[j]? = some x' → cstOk x' from fun j x' hj hx' => by
            by_cases e : j = k
            · subst e; rw [HX.out] at hx'; cases hx'; exact hq1.iff.1 rfl
            · exact HN.out j x' (by omega) hx')
          clear hq1
          go_wp2_with (go_at_call 69; refine H1.out.mono ?_; rintro e w1 ⟨rfl, hb1⟩)
          have HB2 := Lib.hid (HB.out.trans (hb1.mono HB.out.size))
          go_roundw
          case rel => exact ⟨k + 1, by omega, by go_num, HI, HB2⟩
          case measure => simp [intOf]; omega
        | false =>
          have HQ := Lib.hid (HC.out.no (fun h => by
            have := hq1.iff.2 (h x (List.mem_of_getElem? HX.out))
            cases this))
          clear hq1
          go_wp2_with (go_at_call 69; refine H1.out.mono ?_; rintro e w1 ⟨rfl, hb1⟩)
          go_ret
          exact ⟨_, rfl, .inr ⟨HQ.out, Int.natCast_nonneg _⟩, HB.out.trans (hb1.mono HB.out.size)⟩
      · obtain rfl : k = l.length := by omega
        have HQ := Lib.hid (HC.out.yes (fun x hx => by
          obtain ⟨j, hj⟩ := List.mem_iff_getElem?.1 hx
          exact HN.out j x (List.getElem?_eq_some_iff.1 hj).1 hj))
        go_wp2_with fail
        go_ret
        exact ⟨_, rfl, .inl ⟨HQ.out, rfl⟩, HB.out⟩
set_option maxHeartbeats 4000000 in
theorem contains_const {fv : Value} {l : List Cst} (hF : CstsAt w fv l) (g : Nat) (t : TypeId) (hg : Blk w g #[.func (.func 24) #[] #[]] t) {q : Bool} (hc : IsB q (∀ x ∈ l, cstOk x)) :
    Calls Try.prog 68 #[fv, .func (.func 69) #[] #[.pointer (some ⟨g, 0, none⟩)]] w fun e w' => e = .returned (.bool (!q)) ∧ Below w.heap.size w w' := by
  have H1 := Lib.hid (index_const hF g t hg hc)
  clear hF hg hc
  go_enter Try.func68, Try.ntmps68
  go_wp2_with (go_at_call 89; refine H1.out.mono ?_; rintro e w1 ⟨r, rfl, hr, hb1⟩; have HR := Lib.hid hr; clear hr)
  go_ret
  refine ⟨?_, hb1⟩
  rcases HR.out with ⟨rfl, rfl⟩ | ⟨rfl, h⟩
  · rfl
  · exact ret_bool (decide_eq_true h)
set_option maxHeartbeats 4000000 in
theorem all_const {fv : Value} {l : List Cst} (hF : CstsAt w fv l) {q : Bool} (hc : IsB q (∀ x ∈ l, cstOk x)) :
    Calls Try.prog 23 #[fv, .func (.func 24) #[] #[]] w fun e w' => e = .returned (.bool q) ∧ Below w.heap.size w w' := by
  have hmf := hmf_sy
  have HB0 := Lib.hid ((Below.refl w.heap.size w).alloc (Nat.le_refl _) (.cells #[.func (.func 24) #[] #[]] 70))
  have H1 := Lib.hid (contains_const (hF.below ((Below.refl w.heap.size w).alloc (Nat.le_refl _) (.cells #[.func (.func 24) #[] #[]] 70))) _ _ (Blk.new w #[.func (.func 24) #[] #[]] 70) hc)
  clear hF hc
  go_enter Try.func23, Try.ntmps23
  go_wp2_with (go_at_call 68; refine H1.out.mono ?_; rintro e w1 ⟨rfl, hb1⟩; have HB1 := Lib.hid (hb1.mono HB0.out.size); clear hb1)
  go_ret
  exact ⟨rfl, HB0.out.trans HB1.out⟩
end
section
variable {w : World}
set_option maxHeartbeats 4000000 in
theorem all1_var (x : Vr) {q : Bool} (hf : VFit x) (hc : IsB q (vrOk x)) (g : Nat) (t : TypeId) (hg : Blk w g #[.func (.func 26) #[] #[]] t) :
    Calls Try.prog 71 #[.agg (vcells x), .pointer (some ⟨g, 0, none⟩)] w fun e w' => e = .returned (.bool (!q)) ∧ Below w.heap.size w w' := by
  have HC := Lib.hid hc
  have HF := Lib.hid hf
  have HG := Lib.hid (hg.old (.cells (vcells x) 73))
  have HB0 := Lib.hid ((Below.refl w.heap.size w).alloc (Nat.le_refl _) (.cells (vcells x) 73))
  have HBF := Lib.hid ((Below.refl w.heap.size w).alloc (Nat.le_refl _) (.cells (vcells x) 73))
  have KX := Lib.hid (Blk.new w (vcells x) 73)
  clear hc hf hg
  go_enter Try.func71, Try.ntmps71
  go_upto_region 1 with fail
  generalize w.alloc (.cells (vcells x) 73) = W1 at HG KX HB0 HBF ⊢
  have hcell : W1.cell? ⟨g, 0, none⟩ = some (.func (.func 26) #[] #[]) := HG.out.cell 0
  have hl := load_blk Try.underlying73 rfl sz_var KX.out rfl
  have H1 := Lib.hid (variable_any (w := W1) x HF.out HC.out)
  go_wp2_with (go_at_call 26; refine H1.out.mono ?_; rintro e w1 ⟨rfl, hb1⟩; have HB1 := Lib.hid (hb1.mono HB0.out.size); clear hb1)
  go_ret
  exact ⟨rfl, HB0.out.trans HB1.out⟩
set_option maxHeartbeats 4000000 in
theorem index_var {fv : Value} {l : List Vr} (hF : VrsAt w fv l) (g : Nat) (t : TypeId) (hg : Blk w g #[.func (.func 26) #[] #[]] t) {q : Bool} (hc : IsB q (∀ x ∈ l, vrOk x)) :
    Calls Try.prog 90 #[fv, .func (.func 71) #[] #[.pointer (some ⟨g, 0, none⟩)]] w fun e w' => ∃ r : Int, e = .returned (.int .i64 r) ∧ ((q = true ∧ r = -1) ∨ (q = false ∧ 0 ≤ r)) ∧ Below w.heap.size w w' := by
  obtain ⟨A, cap, rfl, hc1, hc2, hF'⟩ := list_of hF.1 (List.length_map _)
  rcases hF' with hz | ⟨b, off, rfl, hb, hr⟩
  · obtain rfl : l = [] := List.length_eq_zero_iff.1 hz
    have HQ := Lib.hid (hc.yes (fun x hx => by cases hx))
    clear hc hg hF
    go_enter Try.func90, Try.ntmps90
    go_wp2_with fail
    refine wp_loop_rounds 1 ?_
    rw [rounds_succ]
    go_wp2_with fail
    go_ret
    exact ⟨_, rfl, .inl ⟨HQ.out, rfl⟩, Below.refl _ _⟩
  · unfold maxLen at hc2
    have HF := Lib.hid hF
    have HG := Lib.hid hg
    have HR := Lib.hid hr
    have HC := Lib.hid hc
    clear hF hg hr hc
    go_enter Try.func90, Try.ntmps90
    go_wp2_with fail
    go_loopw [5, 8] (fun u v wr => ∃ k : Nat, k ≤ l.length ∧ v = .int .i64 k ∧ Hid (∀ j x, j < k → l[j]? = some x → vrOk x) ∧ Hid (Below w.heap.size w wr)) (fun _ v _ => l.length - (intOf v).toNat)
    case atStart => exact ⟨0, Nat.zero_le _, rfl, Lib.hid (fun j f hj => absurd hj (by omega)), Lib.hid (Below.refl _ _)⟩
    case round =>
      obtain ⟨k, hk, rfl, HN, HB⟩ := hrel
      by_cases hlt : k < l.length
      · obtain ⟨x, hx⟩ : ∃ x, l[k]? = some x := ⟨l[k], List.getElem?_eq_getElem hlt⟩
        have hrx := HR.out k (vcells x).toList (by rw [List.getElem?_map, hx]; rfl)
        have hfit := HF.out.2 x (List.mem_of_getElem? hx)
        have hl := load_mid Try.underlying73 rfl sz_var (range_below hrx HB.out hb) rfl
        obtain ⟨q1, hq1⟩ := boolOf (vrOk x)
        have H1 := Lib.hid (all1_var (w := wr) x (hfit) hq1 g t (HG.out.below HB.out HG.out.lt))
        have HX := Lib.hid hx
        have hlt1 : (k : Int) < (l.length : Int) := by omega
        clear hx hrx hfit
        cases q1 with
        | true =>
          have HI := Lib.hid (show ∀ j x', j < k + 1 → l[j]? = some x' → vrOk x' from fun j x' hj hx' => by
            by_cases e : j = k
            · subst e; rw [HX.out] at hx'; cases hx'; exact hq1.iff.1 rfl
            · exact HN.out j x' (by omega) hx')
          clear hq1
          go_wp2_with (go_at_call 71; refine H1.out.mono ?_; rintro e w1 ⟨rfl, hb1⟩)
          have HB2 := Lib.hid (HB.out.trans (hb1.mono HB.out.size))
          go_roundw
          case rel => exact ⟨k + 1, by omega, by go_num, HI, HB2⟩
          case measure => simp [intOf]; omega
        | false =>
          have HQ := Lib.hid (HC.out.no (fun h => by
            have := hq1.iff.2 (h x (List.mem_of_getElem? HX.out))
            cases this))
          clear hq1
          go_wp2_with (go_at_call 71; refine H1.out.mono ?_; rintro e w1 ⟨rfl, hb1⟩)
          go_ret
          exact ⟨_, rfl, .inr ⟨HQ.out, Int.natCast_nonneg _⟩, HB.out.trans (hb1.mono HB.out.size)⟩
      · obtain rfl : k = l.length := by omega
        have HQ := Lib.hid (HC.out.yes (fun x hx => by
          obtain ⟨j, hj⟩ := List.mem_iff_getElem?.1 hx
          exact HN.out j x (List.getElem?_eq_some_iff.1 hj).1 hj))
        go_wp2_with fail
        go_ret
        exact ⟨_, rfl, .inl ⟨HQ.out, rfl⟩, HB.out⟩
set_option maxHeartbeats 4000000 in
theorem contains_var {fv : Value} {l : List Vr} (hF : VrsAt w fv l) (g : Nat) (t : TypeId) (hg : Blk w g #[.func (.func 26) #[] #[]] t) {q : Bool} (hc : IsB q (∀ x ∈ l, vrOk x)) :
    Calls Try.prog 70 #[fv, .func (.func 71) #[] #[.pointer (some ⟨g, 0, none⟩)]] w fun e w' => e = .returned (.bool (!q)) ∧ Below w.heap.size w w' := by
  have H1 := Lib.hid (index_var hF g t hg hc)
  clear hF hg hc
  go_enter Try.func70, Try.ntmps70
  go_wp2_with (go_at_call 90; refine H1.out.mono ?_; rintro e w1 ⟨r, rfl, hr, hb1⟩; have HR := Lib.hid hr; clear hr)
  go_ret
  refine ⟨?_, hb1⟩
  rcases HR.out with ⟨rfl, rfl⟩ | ⟨rfl, h⟩
  · rfl
  · exact ret_bool (decide_eq_true h)
set_option maxHeartbeats 4000000 in
theorem all_var {fv : Value} {l : List Vr} (hF : VrsAt w fv l) {q : Bool} (hc : IsB q (∀ x ∈ l, vrOk x)) :
    Calls Try.prog 25 #[fv, .func (.func 26) #[] #[]] w fun e w' => e = .returned (.bool q) ∧ Below w.heap.size w w' := by
  have hmf := hmf_sy
  have HB0 := Lib.hid ((Below.refl w.heap.size w).alloc (Nat.le_refl _) (.cells #[.func (.func 26) #[] #[]] 74))
  have H1 := Lib.hid (contains_var (hF.below ((Below.refl w.heap.size w).alloc (Nat.le_refl _) (.cells #[.func (.func 26) #[] #[]] 74))) _ _ (Blk.new w #[.func (.func 26) #[] #[]] 74) hc)
  clear hF hc
  go_enter Try.func25, Try.ntmps25
  go_wp2_with (go_at_call 70; refine H1.out.mono ?_; rintro e w1 ⟨rfl, hb1⟩; have HB1 := Lib.hid (hb1.mono HB0.out.size); clear hb1)
  go_ret
  exact ⟨rfl, HB0.out.trans HB1.out⟩
end
section
variable {w : World}
set_option maxHeartbeats 4000000 in
theorem all1_proc (x : Pr) (pv : Value) {q : Bool} (hf : x.name.size ≤ maxLen ∧ VrsAt w pv x.params) (hc : IsB q (prOk x)) (g : Nat) (t : TypeId) (hg : Blk w g #[.func (.func 28) #[] #[]] t) :
    Calls Try.prog 74 #[.agg (pcells x pv), .pointer (some ⟨g, 0, none⟩)] w fun e w' => e = .returned (.bool (!q)) ∧ Below w.heap.size w w' := by
  have HC := Lib.hid hc
  have HF := Lib.hid hf
  have HG := Lib.hid (hg.old (.cells (pcells x pv) 63))
  have HB0 := Lib.hid ((Below.refl w.heap.size w).alloc (Nat.le_refl _) (.cells (pcells x pv) 63))
  have HBF := Lib.hid ((Below.refl w.heap.size w).alloc (Nat.le_refl _) (.cells (pcells x pv) 63))
  have KX := Lib.hid (Blk.new w (pcells x pv) 63)
  clear hc hf hg
  go_enter Try.func74, Try.ntmps74
  go_upto_region 1 with fail
  generalize w.alloc (.cells (pcells x pv) 63) = W1 at HG KX HB0 HBF ⊢
  have hcell : W1.cell? ⟨g, 0, none⟩ = some (.func (.func 28) #[] #[]) := HG.out.cell 0
  have hl := load_blk Try.underlying63 rfl sz_proc KX.out rfl
  have H1 := Lib.hid (procedure_any (w := W1) x HF.out.1 (HF.out.2.below HBF.out) HC.out)
  go_wp2_with (go_at_call 28; refine H1.out.mono ?_; rintro e w1 ⟨rfl, hb1⟩; have HB1 := Lib.hid (hb1.mono HB0.out.size); clear hb1)
  go_ret
  exact ⟨rfl, HB0.out.trans HB1.out⟩
set_option maxHeartbeats 4000000 in
theorem index_proc {fv : Value} {l : List Pr} (hF : PrsAt w fv l) (g : Nat) (t : TypeId) (hg : Blk w g #[.func (.func 28) #[] #[]] t) {q : Bool} (hc : IsB q (∀ x ∈ l, prOk x)) :
    Calls Try.prog 92 #[fv, .func (.func 74) #[] #[.pointer (some ⟨g, 0, none⟩)]] w fun e w' => ∃ r : Int, e = .returned (.int .i64 r) ∧ ((q = true ∧ r = -1) ∨ (q = false ∧ 0 ≤ r)) ∧ Below w.heap.size w w' := by
  obtain ⟨pvs, hpl, hrw, hpe⟩ := hF
  obtain ⟨A, cap, rfl, hc1, hc2, hF'⟩ := list_of (n := l.length) hrw (by rw [List.length_zipWith, hpl, Nat.min_self])
  have hF := hpe
  rcases hF' with hz | ⟨b, off, rfl, hb, hr⟩
  · obtain rfl : l = [] := List.length_eq_zero_iff.1 hz
    have HQ := Lib.hid (hc.yes (fun x hx => by cases hx))
    clear hc hg hF
    go_enter Try.func92, Try.ntmps92
    go_wp2_with fail
    refine wp_loop_rounds 1 ?_
    rw [rounds_succ]
    go_wp2_with fail
    go_ret
    exact ⟨_, rfl, .inl ⟨HQ.out, rfl⟩, Below.refl _ _⟩
  · unfold maxLen at hc2
    have HF := Lib.hid hF
    have HG := Lib.hid hg
    have HR := Lib.hid hr
    have HC := Lib.hid hc
    clear hF hg hr hc
    go_enter Try.func92, Try.ntmps92
    go_wp2_with fail
    go_loopw [5, 8] (fun u v wr => ∃ k : Nat, k ≤ l.length ∧ v = .int .i64 k ∧ Hid (∀ j x, j < k → l[j]? = some x → prOk x) ∧ Hid (Below w.heap.size w wr)) (fun _ v _ => l.length - (intOf v).toNat)
    case atStart => exact ⟨0, Nat.zero_le _, rfl, Lib.hid (fun j f hj => absurd hj (by omega)), Lib.hid (Below.refl _ _)⟩
    case round =>
      obtain ⟨k, hk, rfl, HN, HB⟩ := hrel
      by_cases hlt : k < l.length
      · obtain ⟨x, hx⟩ : ∃ x, l[k]? = some x := ⟨l[k], List.getElem?_eq_getElem hlt⟩
        obtain ⟨pv, hpv⟩ : ∃ pv, pvs[k]? = some pv := ⟨pvs[k]'(by omega), List.getElem?_eq_getElem (by omega)⟩
        have hrx := HR.out k (pcells x pv).toList (by rw [List.getElem?_zipWith, hx, hpv])
        have hfit := HF.out k x pv hx hpv
        have hl := load_mid Try.underlying63 rfl sz_proc (range_below hrx HB.out hb) rfl
        obtain ⟨q1, hq1⟩ := boolOf (prOk x)
        have H1 := Lib.hid (all1_proc (w := wr) x pv (⟨hfit.1, hfit.2.2.below HB.out⟩) hq1 g t (HG.out.below HB.out HG.out.lt))
        have HX := Lib.hid hx
        have hlt1 : (k : Int) < (l.length : Int) := by omega
        clear hx hrx hfit
        cases q1 with
        | true =>
          have HI := Lib.hid (show ∀ j x', j < k + 1 → l[j]? = some x' → prOk x' from fun j x' hj hx' => by
            by_cases e : j = k
            · subst e; rw [HX.out] at hx'; cases hx'; exact hq1.iff.1 rfl
            · exact HN.out j x' (by omega) hx')
          clear hq1
          go_wp2_with (go_at_call 74; refine H1.out.mono ?_; rintro e w1 ⟨rfl, hb1⟩)
          have HB2 := Lib.hid (HB.out.trans (hb1.mono HB.out.size))
          go_roundw
          case rel => exact ⟨k + 1, by omega, by go_num, HI, HB2⟩
          case measure => simp [intOf]; omega
        | false =>
          have HQ := Lib.hid (HC.out.no (fun h => by
            have := hq1.iff.2 (h x (List.mem_of_getElem? HX.out))
            cases this))
          clear hq1
          go_wp2_with (go_at_call 74; refine H1.out.mono ?_; rintro e w1 ⟨rfl, hb1⟩)
          go_ret
          exact ⟨_, rfl, .inr ⟨HQ.out, Int.natCast_nonneg _⟩, HB.out.trans (hb1.mono HB.out.size)⟩
      · obtain rfl : k = l.length := by omega
        have HQ := Lib.hid (HC.out.yes (fun x hx => by
          obtain ⟨j, hj⟩ := List.mem_iff_getElem?.1 hx
          exact HN.out j x (List.getElem?_eq_some_iff.1 hj).1 hj))
        go_wp2_with fail
        go_ret
        exact ⟨_, rfl, .inl ⟨HQ.out, rfl⟩, HB.out⟩
set_option maxHeartbeats 4000000 in
theorem contains_proc {fv : Value} {l : List Pr} (hF : PrsAt w fv l) (g : Nat) (t : TypeId) (hg : Blk w g #[.func (.func 28) #[] #[]] t) {q : Bool} (hc : IsB q (∀ x ∈ l, prOk x)) :
    Calls Try.prog 73 #[fv, .func (.func 74) #[] #[.pointer (some ⟨g, 0, none⟩)]] w fun e w' => e = .returned (.bool (!q)) ∧ Below w.heap.size w w' := by
  have H1 := Lib.hid (index_proc hF g t hg hc)
  clear hF hg hc
  go_enter Try.func73, Try.ntmps73
  go_wp2_with (go_at_call 92; refine H1.out.mono ?_; rintro e w1 ⟨r, rfl, hr, hb1⟩; have HR := Lib.hid hr; clear hr)
  go_ret
  refine ⟨?_, hb1⟩
  rcases HR.out with ⟨rfl, rfl⟩ | ⟨rfl, h⟩
  · rfl
  · exact ret_bool (decide_eq_true h)
set_option maxHeartbeats 4000000 in
theorem all_proc {fv : Value} {l : List Pr} (hF : PrsAt w fv l) {q : Bool} (hc : IsB q (∀ x ∈ l, prOk x)) :
    Calls Try.prog 27 #[fv, .func (.func 28) #[] #[]] w fun e w' => e = .returned (.bool q) ∧ Below w.heap.size w w' := by
  have hmf := hmf_sy
  have HB0 := Lib.hid ((Below.refl w.heap.size w).alloc (Nat.le_refl _) (.cells #[.func (.func 28) #[] #[]] 76))
  have H1 := Lib.hid (contains_proc (hF.below ((Below.refl w.heap.size w).alloc (Nat.le_refl _) (.cells #[.func (.func 28) #[] #[]] 76))) _ _ (Blk.new w #[.func (.func 28) #[] #[]] 76) hc)
  clear hF hc
  go_enter Try.func27, Try.ntmps27
  go_wp2_with (go_at_call 73; refine H1.out.mono ?_; rintro e w1 ⟨rfl, hb1⟩; have HB1 := Lib.hid (hb1.mono HB0.out.size); clear hb1)
  go_ret
  exact ⟨rfl, HB0.out.trans HB1.out⟩
end
end Go.Proofs.Ytgemnmceflcpcaa
