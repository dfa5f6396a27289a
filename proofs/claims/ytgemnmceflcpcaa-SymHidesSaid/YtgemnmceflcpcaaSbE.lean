/- Symbols in lists of their own. -/
import Derived.Test.YtgemnmceflcpcaaSbD
namespace Go.Proofs.Ytgemnmceflcpcaa
open Go Go.RowKit Go.Lib Go.Proofs.Ytgemnmceflcpcaa.Sy
set_option linter.unusedVariables false
set_option linter.unusedSimpArgs false
attribute [local go_sem ↓] exec_load_const exec_store_const exec_load_var exec_store_var exec_load_proc exec_store_proc exec_load_sym exec_store_sym
theorem rows_newsN {w : World} {v : Value} {sz n : Nat} {rows : List (List Value)} (hsz : 0 < sz) (hr : ∀ r ∈ rows, r.length = sz) (h : RowsAt w v sz rows) (hn : rows.length = n) (hz : ∀ c, v = .slice none n c → c = 0) :
    ∃ A c, v = .slice A n c ∧ ((A = none ∧ n = 0 ∧ c = 0) ∨ ∃ ad, A = some ad ∧ ∀ j u, rows.flatten[j]? = some u → w.cell? (ad.add j) = some u) := by
  subst hn; exact rows_news hsz hr h hz
theorem own_ty {w : World} {B : Nat} {ty t2 : TypeId} {sz n : Nat} {v : Value} {xs : List Value} (h : w.ownsRow B ty sz v n xs) {g gp : Nat} {cur : Array Value} (hk : Blk w gp cur t2) (ht : ty ≠ t2) (hg : v.ownBlock = some g) : g = gp → False := by
  rintro rfl
  rcases h.2 with ⟨e, _⟩ | ⟨g1, c1, cur1, e1, _, k1, _⟩
  · rw [e] at hg; cases hg
  · rw [e1] at hg; cases hg
    unfold Blk at hk
    rw [hk] at k1; cases k1; exact ht rfl
/-- Many cells laid into a block. -/
theorem Blk.setCellsS {g : Nat} {t : TypeId} : ∀ (vs : List Value) (o : Nat) (w : World) (X : Array Value), Blk w g X t → o + vs.length ≤ X.size →
    ∃ X', Blk (w.setCells g o vs) g X' t ∧ X'.size = X.size ∧ ∀ j, X'[j]? = if o ≤ j ∧ j < o + vs.length then vs[j - o]? else X[j]?
  | [], o, w, X, h, _ => ⟨X, h, rfl, fun j => by rw [if_neg (by simp only [List.length_nil]; omega)]⟩
  | v :: vs, o, w, X, h, hl => by
    simp only [List.length_cons] at hl
    obtain ⟨X', h1, h2, h3⟩ := Blk.setCellsS vs (o + 1) (w.setCell ⟨g, o, none⟩ v) (X.setIfInBounds o v) (h.set o v) (by simp; omega)
    refine ⟨X', h1, by rw [h2]; simp, fun j => ?_⟩
    rw [h3 j]
    by_cases hj : o + 1 ≤ j ∧ j < o + 1 + vs.length
    · rw [if_pos hj, if_pos (by simp; omega), show j - o = (j - (o + 1)) + 1 from by omega, List.getElem?_cons_succ]
    · rw [if_neg hj]
      by_cases hj2 : j = o
      · subst hj2
        rw [if_pos (by simp), Nat.sub_self, List.getElem?_cons_zero, Array.getElem?_setIfInBounds_self_of_lt (by omega)]
      · rw [if_neg (by simp; omega), Array.getElem?_setIfInBounds_ne (by omega)]
/-- The first k procedures lie copied, each with a list of its own. -/
def ProcsTo (w : World) (B gp : Nat) (l : List Pr) (k : Nat) (qvs : List Value) : Prop :=
  ∃ cur, Blk w gp cur 63 ∧ cur.size = l.length * 3 ∧ qvs.length = k ∧ ∀ j p q, j < k → l[j]? = some p → qvs[j]? = some q →
    cur[j * 3]? = some (.string p.name) ∧ cur[j * 3 + 1]? = some q ∧ cur[j * 3 + 2]? = some (.int .i64 p.result) ∧ OwnL w B 73 5 q (vrows p.params)
theorem ProcsTo.step {w w' : World} {B gp k : Nat} {l : List Pr} {qvs : List Value} {r : List Nat} (h : ProcsTo w B gp l k qvs) (T : Touch w w' r) (h1 : gp ∉ r) (h2 : ∀ g, (∃ j p q, j < k ∧ l[j]? = some p ∧ qvs[j]? = some q ∧ q.ownBlock = some g) → g ∈ r → False) : ProcsTo w' B gp l k qvs := by
  obtain ⟨cur, hb, hs, hl, he⟩ := h
  refine ⟨cur, T.blk hb h1, hs, hl, fun j p q hj hp hq => ?_⟩
  obtain ⟨e0, e1, e2, e3⟩ := he j p q hj hp hq
  exact ⟨e0, e1, e2, T.owns e3 (fun g hg hm => h2 g ⟨j, p, q, hj, hp, hq, hg⟩ hm)⟩
theorem ProcsTo.drew {w : World} {B gp k : Nat} {l : List Pr} {qvs : List Value} (h : ProcsTo w B gp l k qvs) : ProcsTo w.drew B gp l k qvs :=
  h.step (Touch.drewN w 1) (by simp) (fun g _ hm => by cases hm)
theorem ProcsTo.lt {w : World} {B gp k : Nat} {l : List Pr} {qvs : List Value} (h : ProcsTo w B gp l k qvs) : ∀ g, (∃ j p q, j < k ∧ l[j]? = some p ∧ qvs[j]? = some q ∧ q.ownBlock = some g) → g < w.heap.size := by
  rintro g ⟨j, p, q, hj, hp, hq, hg⟩
  obtain ⟨cur, hb, hs, hl, he⟩ := h
  exact (OwnL.lt (he j p q hj hp hq).2.2.2 g hg).1
theorem ProcsTo.base {w : World} {B gp k : Nat} {l : List Pr} {qvs : List Value} (h : ProcsTo w B gp l k qvs) : ∀ g, (∃ j p q, j < k ∧ l[j]? = some p ∧ qvs[j]? = some q ∧ q.ownBlock = some g) → B ≤ g := by
  rintro g ⟨j, p, q, hj, hp, hq, hg⟩
  obtain ⟨cur, hb, hs, hl, he⟩ := h
  exact (OwnL.lt (he j p q hj hp hq).2.2.2 g hg).2
theorem ProcsTo.push {w : World} {B gp k : Nat} {l : List Pr} {qvs : List Value} {x : Pr} {pv v : Value} {cur : Array Value} (h : ProcsTo w B gp l k qvs) (hb : Blk w gp cur 63) (hs : cur.size = l.length * 3) (hc : ∀ i, i < 3 → cur[k * 3 + i]? = (pcells x pv).toList[i]?) (hx : l[k]? = some x) (hv : OwnL w B 73 5 v (vrows x.params)) (hg : ∀ g, gp = g → B ≤ g) :
    ProcsTo (w.setCell ⟨gp, k * 3 + 1, none⟩ v) B gp l (k + 1) (qvs ++ [v]) := by
  obtain ⟨cur', hb', hs', hl, he⟩ := h
  have : cur' = cur := by unfold Blk at hb hb'; rw [hb] at hb'; cases hb'; rfl
  subst this
  have hk : k < l.length := (List.getElem?_eq_some_iff.1 hx).1
  have T := Touch.set w ⟨gp, k * 3 + 1, none⟩ v
  refine ⟨_, hb.set (k * 3 + 1) v, by simpa using hs, by rw [List.length_append, hl]; rfl, fun j p q hj hp hq => ?_⟩
  by_cases e : j = k
  · subst e
    rw [hx] at hp; cases hp
    rw [List.getElem?_append_right (by omega), hl] at hq
    simp at hq
    subst hq
    refine ⟨?_, ?_, ?_, T.owns hv (fun g hg hm => by simp only [List.mem_singleton] at hm; exact own_ty hv hb (by decide) hg hm)⟩
    · rw [Array.getElem?_setIfInBounds_ne (by omega)]; exact hc 0 (by omega)
    · rw [Array.getElem?_setIfInBounds_self_of_lt (by omega)]
    · rw [Array.getElem?_setIfInBounds_ne (by omega)]; exact hc 2 (by omega)
  · rw [List.getElem?_append_left (by omega)] at hq
    obtain ⟨e0, e1, e2, e3⟩ := he j p q (by omega) hp hq
    refine ⟨?_, ?_, ?_, T.owns e3 (fun g hg hm => by simp only [List.mem_singleton] at hm; exact own_ty e3 hb (by decide) hg hm)⟩
    · rw [Array.getElem?_setIfInBounds_ne (by omega)]; exact e0
    · rw [Array.getElem?_setIfInBounds_ne (by omega)]; exact e1
    · rw [Array.getElem?_setIfInBounds_ne (by omega)]; exact e2
theorem ProcsTo.at {w : World} {B gp : Nat} {l : List Pr} {qvs : List Value} (h : ProcsTo w B gp l l.length qvs) (hf : ∀ (k : Nat) (p : Pr), l[k]? = some p → p.name.size ≤ maxLen ∧ (Lit.int .i64 p.result).wf = true ∧ ∀ x ∈ p.params, VFit x) (hm : l.length ≤ maxLen := by assumption) : PrsAt w (.slice (some ⟨gp, 0, none⟩) l.length l.length) l := by
  obtain ⟨cur, hb, hs, hl, he⟩ := h
  have hz : (List.zipWith (fun p pv => (pcells p pv).toList) l qvs).length = l.length := by rw [List.length_zipWith, hl, Nat.min_self]
  refine ⟨qvs, hl, ⟨_, l.length, by rw [hz], by rw [hz]; exact Nat.le_refl _, hm, fun k r hr => ?_⟩, fun k p pv hp hv => ?_⟩
  · have hk : k < l.length := by have := (List.getElem?_eq_some_iff.1 hr).1; omega
    rw [List.getElem?_zipWith, List.getElem?_eq_getElem hk, List.getElem?_eq_getElem (by omega)] at hr
    cases hr
    obtain ⟨e0, e1, e2, _⟩ := he k _ _ hk (List.getElem?_eq_getElem hk) (List.getElem?_eq_getElem (by omega))
    refine ⟨gp, 0, rfl, hb.lt, fun j u hu => ?_⟩
    have hj : j < 3 := (List.getElem?_eq_some_iff.1 hu).1
    rw [Nat.zero_add, hb.cell]
    match j, hj with
    | 0, _ => cases hu; exact e0
    | 1, _ => cases hu; exact e1
    | 2, _ => cases hu; exact e2
  · have hk : k < l.length := (List.getElem?_eq_some_iff.1 hp).1
    exact ⟨(hf k p hp).1, (hf k p hp).2.1, vrows_own (he k p pv hk hp hv).2.2.2 (hf k p hp).2.2⟩
section
variable {w : World}
set_option maxHeartbeats 8000000 in
set_option maxRecDepth 100000 in
theorem copied_any (s : Sm) {cv vv pv : Value} (hA : SmArg w s cv vv pv) :
    Calls Try.prog 9 #[.agg (scells s cv vv pv)] w fun e w' => ∃ cu vu pu, e = .returned (.agg (scells s cu vu pu)) ∧ SmAt w' s cu vu pu ∧ Below w.heap.size w w' := by
  have HS := Lib.hid hA
  obtain ⟨_, hC1, hV1, hP1, hca, hva, hpa⟩ := hA
  obtain ⟨A1, cap1, rfl, c11, c12, R1⟩ := list_of hC1.1 (List.length_map _)
  obtain ⟨A2, cap2, rfl, c21, c22, R2⟩ := list_of hV1.1 (List.length_map _)
  obtain ⟨pvs, hpl, hrw, hpe⟩ := hP1
  obtain ⟨A3, cap3, rfl, c31, c32, R3⟩ := list_of (n := s.procs.length) hrw (by rw [List.length_zipWith, hpl, Nat.min_self])
  have HPF := Lib.hid (show ∀ p ∈ s.procs, p.name.size ≤ maxLen ∧ (Lit.int .i64 p.result).wf = true ∧ ∀ x ∈ p.params, VFit x from fun p hp => by
    obtain ⟨k, hk⟩ := List.mem_iff_getElem?.1 hp
    have hkl : k < s.procs.length := (List.getElem?_eq_some_iff.1 hk).1
    obtain ⟨⟨h1, h2, h3⟩, _⟩ := hpe k p _ hk (List.getElem?_eq_getElem (by omega))
    exact ⟨h1, h2, h3.2⟩)
  have HLP : s.procs.length ≤ maxLen := by have := c31; have := c32; omega
  unfold maxLen at c12 c22 c32
  have R3 := Lib.hid R3
  have HPL := Lib.hid hpl
  have HPE := Lib.hid hpe
  have HCA := Lib.hid hca
  have HVA := Lib.hid hva
  have HPA := Lib.hid hpa
  obtain ⟨iC, hi, _, hs, _⟩ := info_parts info_const
  have ICI := Lib.hid hi
  have ICS := Lib.hid hs
  clear hi hs
  obtain ⟨iV, hi, _, hs, _⟩ := info_parts info_var
  have IVI := Lib.hid hi
  have IVS := Lib.hid hs
  clear hi hs hpl hpe hrw hC1 hV1 hca hva hpa R1 R2
  have HB := Lib.hid ((((Below.refl w.heap.size w).alloc (Nat.le_refl _) (.cells (scells s (.slice A1 s.consts.length cap1) (.slice A2 s.vars.length cap2) (.slice A3 s.procs.length cap3)) 26)).alloc (by simp) (.cells zSym 26)).alloc (by simp; omega) (.cells (scells s (.slice A1 s.consts.length cap1) (.slice A2 s.vars.length cap2) (.slice A3 s.procs.length cap3)) 26))
  have KX := Lib.hid (((Blk.new w (scells s (.slice A1 s.consts.length cap1) (.slice A2 s.vars.length cap2) (.slice A3 s.procs.length cap3)) 26).old (.cells zSym 26)).old (.cells (scells s (.slice A1 s.consts.length cap1) (.slice A2 s.vars.length cap2) (.slice A3 s.procs.length cap3)) 26))
  have KR := Lib.hid ((Blk.new (w.alloc (.cells (scells s (.slice A1 s.consts.length cap1) (.slice A2 s.vars.length cap2) (.slice A3 s.procs.length cap3)) 26)) zSym 26).old (.cells (scells s (.slice A1 s.consts.length cap1) (.slice A2 s.vars.length cap2) (.slice A3 s.procs.length cap3)) 26))
  have KO := Lib.hid (Blk.new ((w.alloc (.cells (scells s (.slice A1 s.consts.length cap1) (.slice A2 s.vars.length cap2) (.slice A3 s.procs.length cap3)) 26)).alloc (.cells zSym 26)) (scells s (.slice A1 s.consts.length cap1) (.slice A2 s.vars.length cap2) (.slice A3 s.procs.length cap3)) 26)
  have hz3 : w.heap.size + 3 ≤ (((w.alloc (.cells (scells s (.slice A1 s.consts.length cap1) (.slice A2 s.vars.length cap2) (.slice A3 s.procs.length cap3)) 26)).alloc (.cells zSym 26)).alloc (.cells (scells s (.slice A1 s.consts.length cap1) (.slice A2 s.vars.length cap2) (.slice A3 s.procs.length cap3)) 26)).heap.size := by simp
  have hl0 := load_blk Try.underlying26 rfl sz_sym ((Blk.new w (scells s (.slice A1 s.consts.length cap1) (.slice A2 s.vars.length cap2) (.slice A3 s.procs.length cap3)) 26).old (.cells zSym 26)) rfl
  have hl1 := load_blk Try.underlying26 rfl sz_sym (((Blk.new w (scells s (.slice A1 s.consts.length cap1) (.slice A2 s.vars.length cap2) (.slice A3 s.procs.length cap3)) 26).old (.cells zSym 26)).old (.cells zSym 26)) rfl
  have hst := store_blk_new ((w.alloc (.cells (scells s (.slice A1 s.consts.length cap1) (.slice A2 s.vars.length cap2) (.slice A3 s.procs.length cap3)) 26)).alloc (.cells zSym 26)) zSym (scells s (.slice A1 s.consts.length cap1) (.slice A2 s.vars.length cap2) (.slice A3 s.procs.length cap3)) 26 sz_sym rfl rfl (scells_one s rfl rfl rfl)
  simp only [World.size_alloc] at KR KO hst
  go_enter Try.func9, Try.ntmps9
  go_upto_region 2 with fail
  clear hst hl0 hl1
  generalize ((w.alloc (.cells (scells s (.slice A1 s.consts.length cap1) (.slice A2 s.vars.length cap2) (.slice A3 s.procs.length cap3)) 26)).alloc (.cells zSym 26)).alloc (.cells (scells s (.slice A1 s.consts.length cap1) (.slice A2 s.vars.length cap2) (.slice A3 s.procs.length cap3)) 26) = w3 at KX KO KR HB hz3 ⊢
  have hwr : IntKind.i64.wrap ((s.consts.length : Int) + 1) = (s.consts.length : Int) + 1 := IntWalk.i64_in _ (by have := HCA.out.reach; omega)
  refine wp_region_held_drew (S := (fun w' => Hid (Blk w' w.heap.size (scells s (.slice A1 s.consts.length cap1) (.slice A2 s.vars.length cap2) (.slice A3 s.procs.length cap3)) 26) ∧ Hid (Below w.heap.size w w'))) (by kernel_rfl) ⟨KX, Lib.hid HB.out.drew⟩ (fun hHeld0 => ?_)
  clear hHeld0
  replace KX := Lib.hid KX.out.drew
  replace KO := Lib.hid KO.out.drew
  replace KR := Lib.hid KR.out.drew
  replace HB := Lib.hid HB.out.drew
  have hz3 : w.heap.size + 3 ≤ w3.drew.heap.size := hz3
  generalize w3.drew = wd at KX KO KR HB hz3  ⊢
  have hHeld : (fun w' => Hid (Blk w' w.heap.size (scells s (.slice A1 s.consts.length cap1) (.slice A2 s.vars.length cap2) (.slice A3 s.procs.length cap3)) 26) ∧ Hid (Below w.heap.size w w')) wd := ⟨KX, HB⟩
  refine tke 0 (v := ?v0a) ?hy0a hHeld ?rest0a
  case hy0a => rintro wq ⟨q1, q2⟩; clear q1 q2; simp only [List.getElem_toArray, List.getElem_cons_zero, List.getElem_cons_succ]; go_simp; try with_reducible rfl
  refine tke 1 (v := ?v1a) ?hy1a hHeld ?rest1a
  case hy1a => rintro wq ⟨q1, q2⟩; have c1 := q1.out.cell 1; clear q1 q2; simp only [List.getElem_toArray, List.getElem_cons_zero, List.getElem_cons_succ]; go_simp; try with_reducible rfl
  refine tke 2 (v := ?v2a) ?hy2a hHeld ?rest2a
  case hy2a => rintro wq ⟨q1, q2⟩; clear q1 q2; simp only [List.getElem_toArray, List.getElem_cons_zero, List.getElem_cons_succ]; go_simp; try with_reducible rfl
  refine tke 3 (v := ?v3a) ?hy3a hHeld ?rest3a
  case hy3a => rintro wq ⟨q1, q2⟩; clear q1 q2; simp only [List.getElem_toArray, List.getElem_cons_zero, List.getElem_cons_succ]; go_simp; try with_reducible rfl
  refine tke 5 (v := ?v5a) ?hy5a hHeld ?rest5a
  case hy5a => rintro wq ⟨q1, q2⟩; clear q1 q2; simp only [List.getElem_toArray, List.getElem_cons_zero, List.getElem_cons_succ]; go_simp; try with_reducible rfl
  refine tke 6 (v := ?v6a) ?hy6a hHeld ?rest6a
  case hy6a => rintro wq ⟨q1, q2⟩; have c1 := q1.out.cell 1; clear q1 q2; simp only [List.getElem_toArray, List.getElem_cons_zero, List.getElem_cons_succ]; go_simp; try with_reducible rfl
  clear hHeld
  refine wpAnyH_ready (rs := [4]) (by kernel_rfl) (by simp) ?_
  refine AllReadyH.cons (o := _) rfl (fun K hK => ?_) AllReadyH.nil
  try simp only [List.getElem_toArray, List.getElem_cons_zero, List.getElem_cons_succ]
  have hmk : ∀ W : World, (Instr.makeSlice 22 (.int .i64 0) (.int .i64 ((s.consts.length : Int) + 1))).run Try.prog W = .ok (.slice (some ⟨W.heap.size, 0, none⟩) 0 (s.consts.length + 1)) (W.alloc (.cells (madeCells (Value.cells (.agg #[.string ⟨#[]⟩, .int .i64 0, .int .i64 0, .string ⟨#[]⟩, .bool false])) ((s.consts.length + 1) * 5)) 48)) := fun W => mk_rows 22 48 _ 5 _ Try.underlying22 info_const 0 (s.consts.length + 1) (by omega) (by have := HCA.out.reach; omega) (by have := HCA.out.reach; omega) W
  go_simp
  clear hmk
  have HO1 : Hid ((wd.alloc (.cells (madeCells (Value.cells (.agg #[.string ⟨#[]⟩, .int .i64 0, .int .i64 0, .string ⟨#[]⟩, .bool false])) ((s.consts.length + 1) * 5)) 48)).ownsRow (w.heap.size + 3) 48 5 (.slice (some ⟨wd.heap.size, 0, none⟩) 0 (s.consts.length + 1)) 0 []) := Lib.hid (World.ownsRow_made wd _ (s.consts.length + 1) hz3 (by have := HCA.out.reach; unfold maxLen; omega) (by rw [size_madeCells]))
  have KX1 := Lib.hid (KX.out.old (.cells (madeCells (Value.cells (.agg #[.string ⟨#[]⟩, .int .i64 0, .int .i64 0, .string ⟨#[]⟩, .bool false])) ((s.consts.length + 1) * 5)) 48))
  have KO1 := Lib.hid (KO.out.old (.cells (madeCells (Value.cells (.agg #[.string ⟨#[]⟩, .int .i64 0, .int .i64 0, .string ⟨#[]⟩, .bool false])) ((s.consts.length + 1) * 5)) 48))
  have KR1 := Lib.hid (KR.out.old (.cells (madeCells (Value.cells (.agg #[.string ⟨#[]⟩, .int .i64 0, .int .i64 0, .string ⟨#[]⟩, .bool false])) ((s.consts.length + 1) * 5)) 48))
  have HB1 := Lib.hid (HB.out.alloc HB.out.size (.cells (madeCells (Value.cells (.agg #[.string ⟨#[]⟩, .int .i64 0, .int .i64 0, .string ⟨#[]⟩, .bool false])) ((s.consts.length + 1) * 5)) 48))
  have hgx := KX.out.lt
  have hgo := KO.out.lt
  have hgr := KR.out.lt
  clear KX KO KR HB 
  obtain ⟨A', c', e', HA'⟩ := rows_newsN (sz := 5) (by decide) (fun r hr => by obtain ⟨x, _, rfl⟩ := List.mem_map.1 hr; rfl) (HS.out.c.1.below HB1.out) (List.length_map _) HCA.out.none
  injection e' with e1 e2 e3
  subst e1 e3
  have HA' := Lib.hid HA'
  clear e2
  refine hK.out _ _ ⟨KX1, HB1⟩ (fun _ => ?_)
  refine wpAnyH_ready (rs := [7]) (by kernel_rfl) (by simp) ?_
  refine AllReadyH.cons (o := _) rfl (fun K hK => ?_) AllReadyH.nil
  refine step_room rfl _ _ 22 (by rfl) Try.underlying22 ICI.out ICS.out (by rfl) HO1.out (by rfl) (s.consts.map fun c => (ccells c).toList).flatten (by rw [flat_length (sz := 5) (fun r hr => by obtain ⟨x, _, rfl⟩ := List.mem_map.1 hr; rfl), List.length_map]) HA'.out (fun u hu => by obtain ⟨r, hr, hu⟩ := List.mem_flatten.1 hu; obtain ⟨x, _, rfl⟩ := List.mem_map.1 hr; exact ccells_one x u (by simpa using hu)) (by omega) ?_
  intro w4a own8 T8
  have OC : Hid (OwnL w4a (w.heap.size + 3) 48 5 (.slice (some ⟨wd.heap.size, 0, none⟩) s.consts.length (s.consts.length + 1)) (s.consts.map fun c => (ccells c).toList)) := Lib.hid (by unfold OwnL; rw [List.length_map]; exact own8)
  have KX8 := Lib.hid (T8.blk KX1.out (by simp; omega))
  have KO8 := Lib.hid (T8.blk KO1.out (by simp; omega))
  have KR8 := Lib.hid (T8.blk KR1.out (by simp; omega))
  have HB8 := Lib.hid (HB1.out.trans (T8.below HB1.out.size (fun x hx => by simp only [List.mem_singleton] at hx; omega)))
  have hz3 := Nat.le_trans hz3 (Nat.le_trans (by simp) T8.size)
  generalize wd.heap.size = ga at OC KX8 KO8 ⊢
  clear own8 T8 HA' HO1 KX1 KO1 KR1 HB1 
  refine hK.out _ _ ⟨KX8, HB8⟩ (fun _ => ?_)
  refine tke 8 (v := ?v8a) ?hy8a ⟨KX8, HB8⟩ ?rest8a
  case hy8a => rintro wq ⟨q1, q2⟩; clear q1 q2; simp only [List.getElem_toArray, List.getElem_cons_zero, List.getElem_cons_succ]; go_simp; try with_reducible rfl
  refine wpAnyH_ready (rs := [9]) (by kernel_rfl) (by simp) ?_
  refine AllReadyH.cons (o := _) rfl (fun K hK => ?_) AllReadyH.nil
  have c1 := KO8.out.cell 1
  have ff1 := KO8.out.frozen 1
  try simp only [List.getElem_toArray, List.getElem_cons_zero, List.getElem_cons_succ]
  go_simp
  have KO : Hid (Blk (w4a.setCell ⟨w.heap.size + 1 + 1, 1, none⟩ (.slice (some ⟨ga, 0, none⟩) s.consts.length (s.consts.length + 1))) (w.heap.size + 1 + 1) (scells s (.slice (some ⟨ga, 0, none⟩) s.consts.length (s.consts.length + 1)) (.slice A2 s.vars.length cap2) (.slice A3 s.procs.length cap3)) 26) := Lib.hid (KO8.out.set 1 _)
  have TS := Lib.hid (Touch.set w4a ⟨w.heap.size + 1 + 1, 1, none⟩ (.slice (some ⟨ga, 0, none⟩) s.consts.length (s.consts.length + 1)))
  have KX := Lib.hid (TS.out.blk KX8.out (by simp only [List.mem_singleton]; omega))
  have KR := Lib.hid (TS.out.blk KR8.out (by simp only [List.mem_singleton]; omega))
  have HB := Lib.hid (HB8.out.trans (TS.out.below HB8.out.size (fun x hx => by simp only [List.mem_singleton] at hx; omega)))
  have OC := Lib.hid (OwnL.touch OC.out TS.out (fun x hx => by simp only [List.mem_singleton] at hx; omega))
  have hz3 := Nat.le_trans hz3 TS.out.size
  refine hK.out _ _ ⟨KX, HB⟩ (fun _ => ?_)
  refine wpAnyH_done (by kernel_rfl) ?_ _
  clear c1 ff1 KO8 KX8 KR8 HB8 TS 
  generalize w4a.setCell ⟨w.heap.size + 1 + 1, 1, none⟩ (.slice (some ⟨ga, 0, none⟩) s.consts.length (s.consts.length + 1)) = w4 at KX KO KR HB hz3 OC ⊢
  go_upto_region 3 with fail
  have hwr : IntKind.i64.wrap ((s.vars.length : Int) + 1) = (s.vars.length : Int) + 1 := IntWalk.i64_in _ (by have := HVA.out.reach; omega)
  refine wp_region_held_drew (S := (fun w' => Hid (Blk w' w.heap.size (scells s (.slice A1 s.consts.length cap1) (.slice A2 s.vars.length cap2) (.slice A3 s.procs.length cap3)) 26) ∧ Hid (Below w.heap.size w w'))) (by kernel_rfl) ⟨KX, Lib.hid HB.out.drew⟩ (fun hHeld0 => ?_)
  clear hHeld0
  replace KX := Lib.hid KX.out.drew
  replace KO := Lib.hid KO.out.drew
  replace KR := Lib.hid KR.out.drew
  replace HB := Lib.hid HB.out.drew
  replace OC := Lib.hid (show OwnL w4.drew _ _ _ _ _ from OwnL.touch OC.out (Touch.drewN w4 1) (fun x h => by cases h))
  have hz3 : w.heap.size + 3 ≤ w4.drew.heap.size := hz3
  generalize w4.drew = wd at KX KO KR HB hz3 OC ⊢
  have hHeld : (fun w' => Hid (Blk w' w.heap.size (scells s (.slice A1 s.consts.length cap1) (.slice A2 s.vars.length cap2) (.slice A3 s.procs.length cap3)) 26) ∧ Hid (Below w.heap.size w w')) wd := ⟨KX, HB⟩
  refine tke 0 (v := ?v0b) ?hy0b hHeld ?rest0b
  case hy0b => rintro wq ⟨q1, q2⟩; clear q1 q2; simp only [List.getElem_toArray, List.getElem_cons_zero, List.getElem_cons_succ]; go_simp; try with_reducible rfl
  refine tke 1 (v := ?v1b) ?hy1b hHeld ?rest1b
  case hy1b => rintro wq ⟨q1, q2⟩; have c1 := q1.out.cell 2; clear q1 q2; simp only [List.getElem_toArray, List.getElem_cons_zero, List.getElem_cons_succ]; go_simp; try with_reducible rfl
  refine tke 2 (v := ?v2b) ?hy2b hHeld ?rest2b
  case hy2b => rintro wq ⟨q1, q2⟩; clear q1 q2; simp only [List.getElem_toArray, List.getElem_cons_zero, List.getElem_cons_succ]; go_simp; try with_reducible rfl
  refine tke 3 (v := ?v3b) ?hy3b hHeld ?rest3b
  case hy3b => rintro wq ⟨q1, q2⟩; clear q1 q2; simp only [List.getElem_toArray, List.getElem_cons_zero, List.getElem_cons_succ]; go_simp; try with_reducible rfl
  refine tke 5 (v := ?v5b) ?hy5b hHeld ?rest5b
  case hy5b => rintro wq ⟨q1, q2⟩; clear q1 q2; simp only [List.getElem_toArray, List.getElem_cons_zero, List.getElem_cons_succ]; go_simp; try with_reducible rfl
  refine tke 6 (v := ?v6b) ?hy6b hHeld ?rest6b
  case hy6b => rintro wq ⟨q1, q2⟩; have c1 := q1.out.cell 2; clear q1 q2; simp only [List.getElem_toArray, List.getElem_cons_zero, List.getElem_cons_succ]; go_simp; try with_reducible rfl
  clear hHeld
  refine wpAnyH_ready (rs := [4]) (by kernel_rfl) (by simp) ?_
  refine AllReadyH.cons (o := _) rfl (fun K hK => ?_) AllReadyH.nil
  try simp only [List.getElem_toArray, List.getElem_cons_zero, List.getElem_cons_succ]
  have hmk : ∀ W : World, (Instr.makeSlice 23 (.int .i64 0) (.int .i64 ((s.vars.length : Int) + 1))).run Try.prog W = .ok (.slice (some ⟨W.heap.size, 0, none⟩) 0 (s.vars.length + 1)) (W.alloc (.cells (madeCells (Value.cells (.agg #[.string ⟨#[]⟩, .int .i64 0, .int .i64 0, .bool false, .bool false])) ((s.vars.length + 1) * 5)) 73)) := fun W => mk_rows 23 73 _ 5 _ Try.underlying23 info_var 0 (s.vars.length + 1) (by omega) (by have := HVA.out.reach; omega) (by have := HVA.out.reach; omega) W
  go_simp
  clear hmk
  have HO1 : Hid ((wd.alloc (.cells (madeCells (Value.cells (.agg #[.string ⟨#[]⟩, .int .i64 0, .int .i64 0, .bool false, .bool false])) ((s.vars.length + 1) * 5)) 73)).ownsRow (w.heap.size + 3) 73 5 (.slice (some ⟨wd.heap.size, 0, none⟩) 0 (s.vars.length + 1)) 0 []) := Lib.hid (World.ownsRow_made wd _ (s.vars.length + 1) hz3 (by have := HVA.out.reach; unfold maxLen; omega) (by rw [size_madeCells]))
  have KX1 := Lib.hid (KX.out.old (.cells (madeCells (Value.cells (.agg #[.string ⟨#[]⟩, .int .i64 0, .int .i64 0, .bool false, .bool false])) ((s.vars.length + 1) * 5)) 73))
  have KO1 := Lib.hid (KO.out.old (.cells (madeCells (Value.cells (.agg #[.string ⟨#[]⟩, .int .i64 0, .int .i64 0, .bool false, .bool false])) ((s.vars.length + 1) * 5)) 73))
  have KR1 := Lib.hid (KR.out.old (.cells (madeCells (Value.cells (.agg #[.string ⟨#[]⟩, .int .i64 0, .int .i64 0, .bool false, .bool false])) ((s.vars.length + 1) * 5)) 73))
  have HB1 := Lib.hid (HB.out.alloc HB.out.size (.cells (madeCells (Value.cells (.agg #[.string ⟨#[]⟩, .int .i64 0, .int .i64 0, .bool false, .bool false])) ((s.vars.length + 1) * 5)) 73))
  have hOC := Lib.hid (fun g hg => (OwnL.lt OC.out g hg).1)
  have OC1 := Lib.hid (World.ownsRow.alloc OC.out (.cells (madeCells (Value.cells (.agg #[.string ⟨#[]⟩, .int .i64 0, .int .i64 0, .bool false, .bool false])) ((s.vars.length + 1) * 5)) 73))
  have hgx := KX.out.lt
  have hgo := KO.out.lt
  have hgr := KR.out.lt
  clear KX KO KR HB OC
  obtain ⟨A', c', e', HA'⟩ := rows_newsN (sz := 5) (by decide) (fun r hr => by obtain ⟨x, _, rfl⟩ := List.mem_map.1 hr; rfl) (HS.out.v.1.below HB1.out) (List.length_map _) HVA.out.none
  injection e' with e1 e2 e3
  subst e1 e3
  have HA' := Lib.hid HA'
  clear e2
  refine hK.out _ _ ⟨KX1, HB1⟩ (fun _ => ?_)
  refine wpAnyH_ready (rs := [7]) (by kernel_rfl) (by simp) ?_
  refine AllReadyH.cons (o := _) rfl (fun K hK => ?_) AllReadyH.nil
  refine step_room rfl _ _ 23 (by rfl) Try.underlying23 IVI.out IVS.out (by rfl) HO1.out (by rfl) (vrows s.vars).flatten (by rw [flat_length (sz := 5) (fun r hr => by obtain ⟨x, _, rfl⟩ := List.mem_map.1 hr; rfl), List.length_map]) HA'.out (fun u hu => by obtain ⟨r, hr, hu⟩ := List.mem_flatten.1 hu; obtain ⟨x, _, rfl⟩ := List.mem_map.1 hr; exact vcells_one x u (by simpa using hu)) (by omega) ?_
  intro w5a own8 T8
  have OV : Hid (OwnL w5a (w.heap.size + 3) 73 5 (.slice (some ⟨wd.heap.size, 0, none⟩) s.vars.length (s.vars.length + 1)) (vrows s.vars)) := Lib.hid (by unfold OwnL; rw [List.length_map]; exact own8)
  have KX8 := Lib.hid (T8.blk KX1.out (by simp; omega))
  have KO8 := Lib.hid (T8.blk KO1.out (by simp; omega))
  have KR8 := Lib.hid (T8.blk KR1.out (by simp; omega))
  have HB8 := Lib.hid (HB1.out.trans (T8.below HB1.out.size (fun x hx => by simp only [List.mem_singleton] at hx; omega)))
  have OC8 := Lib.hid (T8.owns OC1.out (fun g hg => by have := hOC.out g hg; simp; omega))
  have hz3 := Nat.le_trans hz3 (Nat.le_trans (by simp) T8.size)
  generalize wd.heap.size = gb at OV KX8 KO8 ⊢
  clear own8 T8 HA' HO1 KX1 KO1 KR1 HB1 hOC OC1
  refine hK.out _ _ ⟨KX8, HB8⟩ (fun _ => ?_)
  refine tke 8 (v := ?v8b) ?hy8b ⟨KX8, HB8⟩ ?rest8b
  case hy8b => rintro wq ⟨q1, q2⟩; clear q1 q2; simp only [List.getElem_toArray, List.getElem_cons_zero, List.getElem_cons_succ]; go_simp; try with_reducible rfl
  refine wpAnyH_ready (rs := [9]) (by kernel_rfl) (by simp) ?_
  refine AllReadyH.cons (o := _) rfl (fun K hK => ?_) AllReadyH.nil
  have c1 := KO8.out.cell 2
  have ff1 := KO8.out.frozen 2
  try simp only [List.getElem_toArray, List.getElem_cons_zero, List.getElem_cons_succ]
  go_simp
  have KO : Hid (Blk (w5a.setCell ⟨w.heap.size + 1 + 1, 2, none⟩ (.slice (some ⟨gb, 0, none⟩) s.vars.length (s.vars.length + 1))) (w.heap.size + 1 + 1) (scells s (.slice (some ⟨ga, 0, none⟩) s.consts.length (s.consts.length + 1)) (.slice (some ⟨gb, 0, none⟩) s.vars.length (s.vars.length + 1)) (.slice A3 s.procs.length cap3)) 26) := Lib.hid (KO8.out.set 2 _)
  have TS := Lib.hid (Touch.set w5a ⟨w.heap.size + 1 + 1, 2, none⟩ (.slice (some ⟨gb, 0, none⟩) s.vars.length (s.vars.length + 1)))
  have KX := Lib.hid (TS.out.blk KX8.out (by simp only [List.mem_singleton]; omega))
  have KR := Lib.hid (TS.out.blk KR8.out (by simp only [List.mem_singleton]; omega))
  have HB := Lib.hid (HB8.out.trans (TS.out.below HB8.out.size (fun x hx => by simp only [List.mem_singleton] at hx; omega)))
  have OC := Lib.hid (OwnL.touch OC8.out TS.out (fun x hx => by simp only [List.mem_singleton] at hx; omega))
  have OV := Lib.hid (OwnL.touch OV.out TS.out (fun x hx => by simp only [List.mem_singleton] at hx; omega))
  have hz3 := Nat.le_trans hz3 TS.out.size
  refine hK.out _ _ ⟨KX, HB⟩ (fun _ => ?_)
  refine wpAnyH_done (by kernel_rfl) ?_ _
  clear c1 ff1 KO8 KX8 KR8 HB8 TS OC8
  generalize w5a.setCell ⟨w.heap.size + 1 + 1, 2, none⟩ (.slice (some ⟨gb, 0, none⟩) s.vars.length (s.vars.length + 1)) = w5 at KX KO KR HB hz3 OC OV ⊢
  go_upto_region 4 with fail
  obtain ⟨mb, hmb⟩ : ∃ M, M = madeCells (Value.cells (.agg #[.string ⟨#[]⟩, .slice none 0 0, .int .i64 0])) (s.procs.length * 3) := ⟨_, rfl⟩
  have hmbs : mb.size = s.procs.length * 3 := by rw [hmb, size_madeCells]
  have hmk : ∀ W : World, (Instr.makeSlice 24 (.int .i64 (s.procs.length : Int)) (.int .i64 (s.procs.length : Int))).run Try.prog W = .ok (.slice (some ⟨W.heap.size, 0, none⟩) s.procs.length s.procs.length) (W.alloc (.cells mb 63)) := fun W => by rw [hmb]; exact mk_rows 24 63 _ 3 _ Try.underlying24 info_proc s.procs.length s.procs.length (Nat.le_refl _) (by have := HPA.out.reach; omega) (by have := HPA.out.reach; omega) W
  clear hmb
  have c1 := KX.out.cell 3
  have c2 := (KO.out.old (.cells mb 63)).cell 3
  have ff2 := (KO.out.old (.cells mb 63)).frozen 3
  have KP1 := Lib.hid (Blk.new w5 mb 63)
  have KX1 := Lib.hid (KX.out.old (.cells mb 63))
  have KO1 := Lib.hid (KO.out.old (.cells mb 63))
  have KR1 := Lib.hid (KR.out.old (.cells mb 63))
  have HB1 := Lib.hid (HB.out.alloc HB.out.size (.cells mb 63))
  have OC1 := Lib.hid (World.ownsRow.alloc OC.out (.cells mb 63))
  have OV1 := Lib.hid (World.ownsRow.alloc OV.out (.cells mb 63))
  clear KX KO KR HB OC OV
  go_upto_region 5 with fail
  clear hmk c1 c2 ff2
  have hgp := hz3
  generalize w5.heap.size = gp at KP1 hgp ⊢
  generalize w5.alloc (.cells mb 63) = w6 at KP1 KX1 KO1 KR1 HB1 OC1 OV1 ⊢
  have TS := Lib.hid (Touch.set w6 ⟨w.heap.size + 1 + 1, 3, none⟩ (.slice (some ⟨gp, 0, none⟩) s.procs.length s.procs.length))
  have KO : Hid (Blk (w6.setCell ⟨w.heap.size + 1 + 1, 3, none⟩ (.slice (some ⟨gp, 0, none⟩) s.procs.length s.procs.length)) (w.heap.size + 1 + 1) (scells s (.slice (some ⟨ga, 0, none⟩) s.consts.length (s.consts.length + 1)) (.slice (some ⟨gb, 0, none⟩) s.vars.length (s.vars.length + 1)) (.slice (some ⟨gp, 0, none⟩) s.procs.length s.procs.length)) 26) := Lib.hid (KO1.out.set 3 _)
  have KX := Lib.hid (TS.out.blk KX1.out (by simp only [List.mem_singleton]; omega))
  have KR := Lib.hid (TS.out.blk KR1.out (by simp only [List.mem_singleton]; omega))
  have KP := Lib.hid (TS.out.blk KP1.out (by simp; omega))
  have HB := Lib.hid (HB1.out.trans (TS.out.below HB1.out.size (fun x hx => by simp only [List.mem_singleton] at hx; omega)))
  have OC : Hid (OwnL (w6.setCell ⟨w.heap.size + 1 + 1, 3, none⟩ (.slice (some ⟨gp, 0, none⟩) s.procs.length s.procs.length)) (w.heap.size + 3) 48 5 (.slice (some ⟨ga, 0, none⟩) s.consts.length (s.consts.length + 1)) (s.consts.map fun c => (ccells c).toList)) := Lib.hid (OwnL.touch OC1.out TS.out (fun x hx => by simp only [List.mem_singleton] at hx; omega))
  have OV : Hid (OwnL (w6.setCell ⟨w.heap.size + 1 + 1, 3, none⟩ (.slice (some ⟨gp, 0, none⟩) s.procs.length s.procs.length)) (w.heap.size + 3) 73 5 (.slice (some ⟨gb, 0, none⟩) s.vars.length (s.vars.length + 1)) (vrows s.vars)) := Lib.hid (OwnL.touch OV1.out TS.out (fun x hx => by simp only [List.mem_singleton] at hx; omega))
  clear KP1 KX1 KO1 KR1 HB1 OC1 OV1 TS hz3
  generalize w6.setCell ⟨w.heap.size + 1 + 1, 3, none⟩ (.slice (some ⟨gp, 0, none⟩) s.procs.length s.procs.length) = w7 at KP KX KO KR HB OC OV ⊢
  have HPT := Lib.hid (show ProcsTo w7 (w.heap.size + 3) gp s.procs 0 [] from ⟨_, KP.out, hmbs, rfl, fun j p q hj => absurd hj (by omega)⟩)
  go_wp2_with fail
  go_loopw [4] (fun i wr => ∃ (k : Nat) (qvs : List Value), k ≤ s.procs.length ∧ i = .int .i64 k ∧ Hid (Blk wr w.heap.size (scells s (.slice A1 s.consts.length cap1) (.slice A2 s.vars.length cap2) (.slice A3 s.procs.length cap3)) 26) ∧ Hid (Blk wr (w.heap.size + 1 + 1) (scells s (.slice (some ⟨ga, 0, none⟩) s.consts.length (s.consts.length + 1)) (.slice (some ⟨gb, 0, none⟩) s.vars.length (s.vars.length + 1)) (.slice (some ⟨gp, 0, none⟩) s.procs.length s.procs.length)) 26) ∧ Hid (Blk wr (w.heap.size + 1) zSym 26) ∧ Hid (Below w.heap.size w wr) ∧ Hid (OwnL wr (w.heap.size + 3) 48 5 (.slice (some ⟨ga, 0, none⟩) s.consts.length (s.consts.length + 1)) (s.consts.map fun c => (ccells c).toList)) ∧ Hid (OwnL wr (w.heap.size + 3) 73 5 (.slice (some ⟨gb, 0, none⟩) s.vars.length (s.vars.length + 1)) (vrows s.vars)) ∧ Hid (ProcsTo wr (w.heap.size + 3) gp s.procs k qvs)) (fun i _ => s.procs.length - (intOf i).toNat)
  case atStart => exact ⟨0, [], Nat.zero_le _, rfl, KX, KO, KR, HB, OC, OV, HPT⟩
  case round =>
    clear KX KO KR HB OC OV HPT KP
    obtain ⟨k, qvs, hk, rfl, KX, KO, KR, HB, OC, OV, HP⟩ := hrel
    have x1 := KX.out.cell 3
    by_cases hlt : k < s.procs.length
    · obtain ⟨x, hx⟩ : ∃ x, s.procs[k]? = some x := ⟨s.procs[k], List.getElem?_eq_getElem hlt⟩
      obtain ⟨pv, hpv⟩ : ∃ pv, pvs[k]? = some pv := ⟨pvs[k]'(by have := HPL.out; omega), List.getElem?_eq_getElem _⟩
      obtain ⟨⟨hx1, hx2, hx3⟩, hxa⟩ := HPE.out k x pv hx hpv
      have hz1 : pv.oneCell' = true := hx3.1.one
      have HXA := Lib.hid hxa
      have HXV := Lib.hid hx3
      have HX := Lib.hid hx
      obtain ⟨A9, cap9, hpv9, c91, c92, _⟩ := list_of hx3.1 (List.length_map _)
      rcases R3.out with hz | ⟨b, off, rfl, hb, hr⟩
      · omega
      have HRW := Lib.hid (hr k (pcells x pv).toList (by rw [List.getElem?_zipWith, hx, hpv]))
      have hk1 : (0 : Int) ≤ (k : Int) := by omega
      have hk2 : (k : Int) < (s.procs.length : Int) := by omega
      obtain ⟨PC, hPC⟩ : ∃ P, P = pcells x pv := ⟨_, rfl⟩
      have HPC := Lib.hid hPC
      have HV9 := Lib.hid hpv9
      unfold maxLen at c92
      clear hx hpv hr hx1 hx2 hx3 hxa hPC hpv9
      go_wp2_with fail
      refine wp_region_held_drew (S := (fun w' => Hid (Blk w' w.heap.size (scells s (.slice A1 s.consts.length cap1) (.slice A2 s.vars.length cap2) (.slice (some ⟨b, off, none⟩) s.procs.length cap3)) 26) ∧ Hid (Blk w' (w.heap.size + 1 + 1) (scells s (.slice (some ⟨ga, 0, none⟩) s.consts.length (s.consts.length + 1)) (.slice (some ⟨gb, 0, none⟩) s.vars.length (s.vars.length + 1)) (.slice (some ⟨gp, 0, none⟩) s.procs.length s.procs.length)) 26) ∧ Hid (Below w.heap.size w w'))) (by kernel_rfl) ⟨KX, KO, Lib.hid HB.out.drew⟩ (fun hHeld0 => ?_)
      clear hHeld0
      have KXd := Lib.hid KX.out.drew
      have KOd := Lib.hid KO.out.drew
      have KRd := Lib.hid KR.out.drew
      have HBd := Lib.hid HB.out.drew
      have OCd := Lib.hid (show OwnL wr.drew _ _ _ _ _ from OwnL.touch OC.out (Touch.drewN wr 1) (fun x h => by cases h))
      have OVd := Lib.hid (show OwnL wr.drew _ _ _ _ _ from OwnL.touch OV.out (Touch.drewN wr 1) (fun x h => by cases h))
      have HPd := Lib.hid (show ProcsTo wr.drew _ _ _ _ _ from ProcsTo.drew HP.out)
      generalize wr.drew = wd at KXd KOd KRd HBd OCd OVd HPd ⊢
      clear KX KO KR HB OC OV HP
      have hHeld : (fun w' => Hid (Blk w' w.heap.size (scells s (.slice A1 s.consts.length cap1) (.slice A2 s.vars.length cap2) (.slice (some ⟨b, off, none⟩) s.procs.length cap3)) 26) ∧ Hid (Blk w' (w.heap.size + 1 + 1) (scells s (.slice (some ⟨ga, 0, none⟩) s.consts.length (s.consts.length + 1)) (.slice (some ⟨gb, 0, none⟩) s.vars.length (s.vars.length + 1)) (.slice (some ⟨gp, 0, none⟩) s.procs.length s.procs.length)) 26) ∧ Hid (Below w.heap.size w w')) wd := ⟨KXd, KOd, HBd⟩
      refine tke 0 (v := ?v0p8) ?hy0p8 hHeld ?rest0p8
      case hy0p8 => rintro wq ⟨q1, q2, q3⟩; clear q1 q2 q3; simp only [List.getElem_toArray, List.getElem_cons_zero, List.getElem_cons_succ]; go_simp; try with_reducible rfl
      refine tke 1 (v := ?v1p8) ?hy1p8 hHeld ?rest1p8
      case hy1p8 => rintro wq ⟨q1, q2, q3⟩; have c1 := q2.out.cell 3; clear q1 q2 q3; simp only [List.getElem_toArray, List.getElem_cons_zero, List.getElem_cons_succ]; go_simp; try with_reducible rfl
      refine tke 2 (v := ?v2p8) ?hy2p8 hHeld ?rest2p8
      case hy2p8 => rintro wq ⟨q1, q2, q3⟩; clear q1 q2 q3; simp only [List.getElem_toArray, List.getElem_cons_zero, List.getElem_cons_succ]; go_simp; try with_reducible rfl
      refine tke 3 (v := ?v3p8) ?hy3p8 hHeld ?rest3p8
      case hy3p8 => rintro wq ⟨q1, q2, q3⟩; clear q1 q2 q3; simp only [List.getElem_toArray, List.getElem_cons_zero, List.getElem_cons_succ]; go_simp; try with_reducible rfl
      refine tke 4 (v := ?v4p8) ?hy4p8 hHeld ?rest4p8
      case hy4p8 => rintro wq ⟨q1, q2, q3⟩; have c1 := q1.out.cell 3; clear q1 q2 q3; simp only [List.getElem_toArray, List.getElem_cons_zero, List.getElem_cons_succ]; go_simp; try with_reducible rfl
      refine tke 5 (v := ?v5p8) ?hy5p8 hHeld ?rest5p8
      case hy5p8 => rintro wq ⟨q1, q2, q3⟩; clear q1 q2 q3; simp only [List.getElem_toArray, List.getElem_cons_zero, List.getElem_cons_succ]; go_simp; try with_reducible rfl
      refine tke 6 (v := ?v6p8) ?hy6p8 hHeld ?rest6p8
      case hy6p8 => rintro wq ⟨q1, q2, q3⟩; clear q1 q2 q3; simp only [List.getElem_toArray, List.getElem_cons_zero, List.getElem_cons_succ]; go_simp; try with_reducible rfl
      refine tke 7 (v := ?v7p8) ?hy7p8 hHeld ?rest7p8
      case hy7p8 => rintro wq ⟨q1, q2, q3⟩; have l1 : (loadWhole 63 (.pointer (some ⟨b, off + k * 3, none⟩))).run Try.prog wq = .ok (.agg PC) wq := (by rw [HPC.out]; exact load_mid (w := wq) Try.underlying63 rfl sz_proc (range_below HRW.out q3.out hb) rfl); clear q1 q2 q3; simp only [List.getElem_toArray, List.getElem_cons_zero, List.getElem_cons_succ]; go_simp; try with_reducible rfl
      refine tke 8 (v := ?v8p8) ?hy8p8 hHeld ?rest8p8
      case hy8p8 => rintro wq ⟨q1, q2, q3⟩; clear q1 q2 q3; simp only [List.getElem_toArray, List.getElem_cons_zero, List.getElem_cons_succ]; go_simp; try with_reducible rfl
      obtain ⟨cur, KP, hcs, hql, hqe⟩ := HPd.out
      replace KP := Lib.hid KP
      have HQE := Lib.hid hqe
      refine wpAnyH_ready (rs := [9]) (by kernel_rfl) (by simp) ?_
      refine AllReadyH.cons (o := _) rfl (fun K hK => ?_) AllReadyH.nil
      have hst : (storeWhole 63 (.pointer (some ⟨gp, k * 3, none⟩)) (.agg PC)).run Try.prog wd = .ok () (wd.setCells gp (k * 3) PC.toList) := by (rw [HPC.out]; exact run_storeAt_mid wd gp (k * 3) 63 (pcells x pv) (fun j hj => ⟨by rw [KP.out.cell, Array.getElem?_eq_getElem (show k * 3 + j < cur.size by have : j < 3 := hj; omega)]; rfl, KP.out.frozen _⟩) sz_proc (by rw [Array.all_eq_true_iff_forall_mem]; exact pcells_one x hz1))
      clear hqe
      try simp only [List.getElem_toArray, List.getElem_cons_zero, List.getElem_cons_succ]
      go_simp
      clear hst
      obtain ⟨cur', KP', hcs', hce⟩ := Blk.setCellsS PC.toList (k * 3) wd cur KP.out (by rw [HPC.out]; show k * 3 + 3 ≤ _; omega)
      have TS := Lib.hid (Touch.setCells gp PC.toList (k * 3) wd)
      have HQ8 := Lib.hid (show ProcsTo (wd.setCells gp (k * 3) PC.toList) (w.heap.size + 3) gp s.procs k qvs from ⟨cur', KP', by rw [hcs', hcs], hql, fun j p q hj hp hq => by
        obtain ⟨e0, e1, e2, e3⟩ := HQE.out j p q hj hp hq
        have hn : ∀ i, i < 3 → cur'[j * 3 + i]? = cur[j * 3 + i]? := fun i hi => by rw [hce, if_neg (by rw [HPC.out]; show ¬ (_ ∧ _ < k * 3 + 3); omega)]
        exact ⟨by rw [show j * 3 = j * 3 + 0 from rfl, hn 0 (by omega)]; exact e0, by rw [hn 1 (by omega)]; exact e1, by rw [hn 2 (by omega)]; exact e2, TS.out.owns e3 (fun g hg hm => by simp only [List.mem_singleton] at hm; exact own_ty e3 KP.out (by decide) hg hm)⟩⟩)
      have HK8 := Lib.hid (show Blk (wd.setCells gp (k * 3) PC.toList) gp cur' 63 ∧ cur'.size = s.procs.length * 3 ∧ (∀ i, i < 3 → cur'[k * 3 + i]? = (pcells x pv).toList[i]?) from ⟨KP', by rw [hcs', hcs], fun i hi => by rw [hce, if_pos (by rw [HPC.out]; show _ ∧ _ < k * 3 + 3; omega), show k * 3 + i - k * 3 = i from by omega, HPC.out]⟩)
      have KX := Lib.hid (TS.out.blk KXd.out (by simp; omega))
      have KO := Lib.hid (TS.out.blk KOd.out (by simp; omega))
      have KR := Lib.hid (TS.out.blk KRd.out (by simp; omega))
      have HB := Lib.hid (HBd.out.trans (TS.out.below HBd.out.size (fun x hx => by simp only [List.mem_singleton] at hx; omega)))
      have OC := Lib.hid (TS.out.owns OCd.out (fun g hg hm => by simp only [List.mem_singleton] at hm; exact own_ty OCd.out KP.out (by decide) hg hm))
      have OV := Lib.hid (TS.out.owns OVd.out (fun g hg hm => by simp only [List.mem_singleton] at hm; exact own_ty OVd.out KP.out (by decide) hg hm))
      refine hK.out _ _ ⟨KX, KO, HB⟩ (fun _ => ?_)
      refine wpAnyH_done (by kernel_rfl) ?_ _
      clear KP hcs hql HQE KP' hcs' hce TS KXd KOd KRd HBd OCd OVd HPd hHeld
      generalize wd.setCells gp (k * 3) PC.toList = w8 at KX KO KR HB OC OV HQ8 HK8 ⊢
      go_upto_region 9 with fail
      have hwr : IntKind.i64.wrap ((x.params.length : Int) + 1) = (x.params.length : Int) + 1 := IntWalk.i64_in _ (by have := HXA.out.reach; omega)
      refine wp_region_held_drew (S := (fun w' => Hid (Blk w' w.heap.size (scells s (.slice A1 s.consts.length cap1) (.slice A2 s.vars.length cap2) (.slice (some ⟨b, off, none⟩) s.procs.length cap3)) 26) ∧ Hid (Blk w' (w.heap.size + 1 + 1) (scells s (.slice (some ⟨ga, 0, none⟩) s.consts.length (s.consts.length + 1)) (.slice (some ⟨gb, 0, none⟩) s.vars.length (s.vars.length + 1)) (.slice (some ⟨gp, 0, none⟩) s.procs.length s.procs.length)) 26) ∧ Hid (Below w.heap.size w w'))) (by kernel_rfl) ⟨KX, KO, Lib.hid HB.out.drew⟩ (fun hHeld0 => ?_)
      clear hHeld0
      have KXd := Lib.hid KX.out.drew
      have KOd := Lib.hid KO.out.drew
      have KRd := Lib.hid KR.out.drew
      have HBd := Lib.hid HB.out.drew
      have OCd : Hid (OwnL w8.drew (w.heap.size + 3) 48 5 (.slice (some ⟨ga, 0, none⟩) s.consts.length (s.consts.length + 1)) (s.consts.map fun c => (ccells c).toList)) := Lib.hid (OwnL.touch OC.out (Touch.drewN w8 1) (fun x h => by cases h))
      have OVd : Hid (OwnL w8.drew (w.heap.size + 3) 73 5 (.slice (some ⟨gb, 0, none⟩) s.vars.length (s.vars.length + 1)) (vrows s.vars)) := Lib.hid (OwnL.touch OV.out (Touch.drewN w8 1) (fun x h => by cases h))
      have HQd : Hid (ProcsTo w8.drew (w.heap.size + 3) gp s.procs k qvs) := Lib.hid (ProcsTo.drew HQ8.out)
      have HKd : Hid (Blk w8.drew gp _ 63 ∧ _) := Lib.hid ⟨HK8.out.1.drew, HK8.out.2⟩
      clear KX KO KR HB OC OV HQ8 HK8
      generalize w8.drew = wd at KXd KOd KRd HBd OCd OVd HQd HKd ⊢
      have hHeld : (fun w' => Hid (Blk w' w.heap.size (scells s (.slice A1 s.consts.length cap1) (.slice A2 s.vars.length cap2) (.slice (some ⟨b, off, none⟩) s.procs.length cap3)) 26) ∧ Hid (Blk w' (w.heap.size + 1 + 1) (scells s (.slice (some ⟨ga, 0, none⟩) s.consts.length (s.consts.length + 1)) (.slice (some ⟨gb, 0, none⟩) s.vars.length (s.vars.length + 1)) (.slice (some ⟨gp, 0, none⟩) s.procs.length s.procs.length)) 26) ∧ Hid (Below w.heap.size w w')) wd := ⟨KXd, KOd, HBd⟩
      refine tke 0 (v := ?v0p9) ?hy0p9 hHeld ?rest0p9
      case hy0p9 => rintro wq ⟨q1, q2, q3⟩; clear q1 q2 q3; simp only [List.getElem_toArray, List.getElem_cons_zero, List.getElem_cons_succ]; go_simp; try with_reducible rfl
      refine tke 1 (v := ?v1p9) ?hy1p9 hHeld ?rest1p9
      case hy1p9 => rintro wq ⟨q1, q2, q3⟩; have c1 := q2.out.cell 3; clear q1 q2 q3; simp only [List.getElem_toArray, List.getElem_cons_zero, List.getElem_cons_succ]; go_simp; try with_reducible rfl
      refine tke 2 (v := ?v2p9) ?hy2p9 hHeld ?rest2p9
      case hy2p9 => rintro wq ⟨q1, q2, q3⟩; clear q1 q2 q3; simp only [List.getElem_toArray, List.getElem_cons_zero, List.getElem_cons_succ]; go_simp; try with_reducible rfl
      refine tke 3 (v := ?v3p9) ?hy3p9 hHeld ?rest3p9
      case hy3p9 => rintro wq ⟨q1, q2, q3⟩; clear q1 q2 q3; simp only [List.getElem_toArray, List.getElem_cons_zero, List.getElem_cons_succ]; go_simp; try with_reducible rfl
      refine tke 4 (v := ?v4p9) ?hy4p9 hHeld ?rest4p9
      case hy4p9 => rintro wq ⟨q1, q2, q3⟩; have c1 := q1.out.cell 3; clear q1 q2 q3; simp only [List.getElem_toArray, List.getElem_cons_zero, List.getElem_cons_succ]; go_simp; try with_reducible rfl
      refine tke 5 (v := ?v5p9) ?hy5p9 hHeld ?rest5p9
      case hy5p9 => rintro wq ⟨q1, q2, q3⟩; clear q1 q2 q3; simp only [List.getElem_toArray, List.getElem_cons_zero, List.getElem_cons_succ]; go_simp; try with_reducible rfl
      refine tke 6 (v := ?v6p9) ?hy6p9 hHeld ?rest6p9
      case hy6p9 => rintro wq ⟨q1, q2, q3⟩; clear q1 q2 q3; simp only [List.getElem_toArray, List.getElem_cons_zero, List.getElem_cons_succ]; go_simp; try with_reducible rfl
      refine tke 7 (v := ?v7p9) ?hy7p9 hHeld ?rest7p9
      case hy7p9 => rintro wq ⟨q1, q2, q3⟩; clear q1 q2 q3; simp only [List.getElem_toArray, List.getElem_cons_zero, List.getElem_cons_succ]; go_simp; try with_reducible rfl
      refine tke 8 (v := ?v8p9) ?hy8p9 hHeld ?rest8p9
      case hy8p9 => rintro wq ⟨q1, q2, q3⟩; have y1 : wq.cell? ⟨b, off + k * 3 + 1, none⟩ = some pv := range_below HRW.out q3.out hb 1 _ rfl; rw [HV9.out] at y1; clear q1 q2 q3; simp only [List.getElem_toArray, List.getElem_cons_zero, List.getElem_cons_succ]; go_simp; try with_reducible rfl
      refine tke 9 (v := ?v9p9) ?hy9p9 hHeld ?rest9p9
      case hy9p9 => rintro wq ⟨q1, q2, q3⟩; clear q1 q2 q3; simp only [List.getElem_toArray, List.getElem_cons_zero, List.getElem_cons_succ]; go_simp; try with_reducible rfl
      refine tke 10 (v := ?v10p9) ?hy10p9 hHeld ?rest10p9
      case hy10p9 => rintro wq ⟨q1, q2, q3⟩; clear q1 q2 q3; simp only [List.getElem_toArray, List.getElem_cons_zero, List.getElem_cons_succ]; go_simp; try with_reducible rfl
      refine tke 12 (v := ?v12p9) ?hy12p9 hHeld ?rest12p9
      case hy12p9 => rintro wq ⟨q1, q2, q3⟩; clear q1 q2 q3; simp only [List.getElem_toArray, List.getElem_cons_zero, List.getElem_cons_succ]; go_simp; try with_reducible rfl
      refine tke 13 (v := ?v13p9) ?hy13p9 hHeld ?rest13p9
      case hy13p9 => rintro wq ⟨q1, q2, q3⟩; have c1 := q1.out.cell 3; clear q1 q2 q3; simp only [List.getElem_toArray, List.getElem_cons_zero, List.getElem_cons_succ]; go_simp; try with_reducible rfl
      refine tke 14 (v := ?v14p9) ?hy14p9 hHeld ?rest14p9
      case hy14p9 => rintro wq ⟨q1, q2, q3⟩; clear q1 q2 q3; simp only [List.getElem_toArray, List.getElem_cons_zero, List.getElem_cons_succ]; go_simp; try with_reducible rfl
      refine tke 15 (v := ?v15p9) ?hy15p9 hHeld ?rest15p9
      case hy15p9 => rintro wq ⟨q1, q2, q3⟩; clear q1 q2 q3; simp only [List.getElem_toArray, List.getElem_cons_zero, List.getElem_cons_succ]; go_simp; try with_reducible rfl
      refine tke 16 (v := ?v16p9) ?hy16p9 hHeld ?rest16p9
      case hy16p9 => rintro wq ⟨q1, q2, q3⟩; clear q1 q2 q3; simp only [List.getElem_toArray, List.getElem_cons_zero, List.getElem_cons_succ]; go_simp; try with_reducible rfl
      refine tke 17 (v := ?v17p9) ?hy17p9 hHeld ?rest17p9
      case hy17p9 => rintro wq ⟨q1, q2, q3⟩; have y1 : wq.cell? ⟨b, off + k * 3 + 1, none⟩ = some pv := range_below HRW.out q3.out hb 1 _ rfl; rw [HV9.out] at y1; clear q1 q2 q3; simp only [List.getElem_toArray, List.getElem_cons_zero, List.getElem_cons_succ]; go_simp; try with_reducible rfl
      clear hHeld
      refine wpAnyH_ready (rs := [11]) (by kernel_rfl) (by simp) ?_
      refine AllReadyH.cons (o := _) rfl (fun K hK => ?_) AllReadyH.nil
      try simp only [List.getElem_toArray, List.getElem_cons_zero, List.getElem_cons_succ]
      have hmk : ∀ W : World, (Instr.makeSlice 23 (.int .i64 0) (.int .i64 ((x.params.length : Int) + 1))).run Try.prog W = .ok (.slice (some ⟨W.heap.size, 0, none⟩) 0 (x.params.length + 1)) (W.alloc (.cells (madeCells (Value.cells (.agg #[.string ⟨#[]⟩, .int .i64 0, .int .i64 0, .bool false, .bool false])) ((x.params.length + 1) * 5)) 73)) := fun W => mk_rows 23 73 _ 5 _ Try.underlying23 info_var 0 (x.params.length + 1) (by omega) (by have := HXA.out.reach; omega) (by have := HXA.out.reach; omega) W
      go_simp
      clear hmk
      have hz3 : w.heap.size + 3 ≤ wd.heap.size := by have := HKd.out.1.lt; omega
      have HO1 : Hid ((wd.alloc (.cells (madeCells (Value.cells (.agg #[.string ⟨#[]⟩, .int .i64 0, .int .i64 0, .bool false, .bool false])) ((x.params.length + 1) * 5)) 73)).ownsRow (w.heap.size + 3) 73 5 (.slice (some ⟨wd.heap.size, 0, none⟩) 0 (x.params.length + 1)) 0 []) := Lib.hid (World.ownsRow_made wd _ (x.params.length + 1) hz3 (by have := HXA.out.reach; unfold maxLen; omega) (by rw [size_madeCells]))
      have KX1 := Lib.hid (KXd.out.old (.cells (madeCells (Value.cells (.agg #[.string ⟨#[]⟩, .int .i64 0, .int .i64 0, .bool false, .bool false])) ((x.params.length + 1) * 5)) 73))
      have KO1 := Lib.hid (KOd.out.old (.cells (madeCells (Value.cells (.agg #[.string ⟨#[]⟩, .int .i64 0, .int .i64 0, .bool false, .bool false])) ((x.params.length + 1) * 5)) 73))
      have KR1 := Lib.hid (KRd.out.old (.cells (madeCells (Value.cells (.agg #[.string ⟨#[]⟩, .int .i64 0, .int .i64 0, .bool false, .bool false])) ((x.params.length + 1) * 5)) 73))
      have HB1 := Lib.hid (HBd.out.alloc HBd.out.size (.cells (madeCells (Value.cells (.agg #[.string ⟨#[]⟩, .int .i64 0, .int .i64 0, .bool false, .bool false])) ((x.params.length + 1) * 5)) 73))
      have hOC := Lib.hid (fun g hg => (OwnL.lt OCd.out g hg).1)
      have hOV := Lib.hid (fun g hg => (OwnL.lt OVd.out g hg).1)
      have OC1 := Lib.hid (World.ownsRow.alloc OCd.out (.cells (madeCells (Value.cells (.agg #[.string ⟨#[]⟩, .int .i64 0, .int .i64 0, .bool false, .bool false])) ((x.params.length + 1) * 5)) 73))
      have OV1 := Lib.hid (World.ownsRow.alloc OVd.out (.cells (madeCells (Value.cells (.agg #[.string ⟨#[]⟩, .int .i64 0, .int .i64 0, .bool false, .bool false])) ((x.params.length + 1) * 5)) 73))
      have HQ1 := Lib.hid (ProcsTo.step HQd.out (Touch.alloc wd (.cells (madeCells (Value.cells (.agg #[.string ⟨#[]⟩, .int .i64 0, .int .i64 0, .bool false, .bool false])) ((x.params.length + 1) * 5)) 73)) (by simp) (fun g hg hm => by cases hm))
      have HK1 := Lib.hid (And.intro (HKd.out.1.old (.cells (madeCells (Value.cells (.agg #[.string ⟨#[]⟩, .int .i64 0, .int .i64 0, .bool false, .bool false])) ((x.params.length + 1) * 5)) 73)) HKd.out.2)
      have hgp2 := HKd.out.1.lt
      have hHQ := Lib.hid (ProcsTo.lt HQd.out)
      clear KXd KOd KRd HBd OCd OVd HQd HKd
      obtain ⟨A', c', e', HA'⟩ := rows_newsN (sz := 5) (by decide) (fun r hr => by obtain ⟨x, _, rfl⟩ := List.mem_map.1 hr; rfl) (HXV.out.1.below HB1.out) (List.length_map _) HXA.out.none
      rw [HV9.out] at e'
      injection e' with e1 e2 e3
      subst e1 e3
      have HA' := Lib.hid HA'
      clear e2
      refine hK.out _ _ ⟨KX1, KO1, HB1⟩ (fun _ => ?_)
      refine wpAnyH_ready (rs := [18]) (by kernel_rfl) (by simp) ?_
      refine AllReadyH.cons (o := _) rfl (fun K hK => ?_) AllReadyH.nil
      refine step_room rfl _ _ 23 (by rfl) Try.underlying23 IVI.out IVS.out (by rfl) HO1.out (by rfl) (vrows x.params).flatten (by rw [flat_length (sz := 5) (fun r hr => by obtain ⟨x, _, rfl⟩ := List.mem_map.1 hr; rfl), List.length_map]) HA'.out (fun u hu => by obtain ⟨r, hr, hu⟩ := List.mem_flatten.1 hu; obtain ⟨x, _, rfl⟩ := List.mem_map.1 hr; exact vcells_one x u (by simpa using hu)) (by omega) ?_
      intro w9 own8 T8
      have ON : Hid (OwnL w9 (w.heap.size + 3) 73 5 (.slice (some ⟨wd.heap.size, 0, none⟩) x.params.length (x.params.length + 1)) (vrows x.params)) := Lib.hid (by unfold OwnL; rw [List.length_map]; exact own8)
      have KX8 := Lib.hid (T8.blk KX1.out (by simp; omega))
      have KO8 := Lib.hid (T8.blk KO1.out (by simp; omega))
      have KR8 := Lib.hid (T8.blk KR1.out (by simp; omega))
      have HB8 := Lib.hid (HB1.out.trans (T8.below HB1.out.size (fun x hx => by simp only [List.mem_singleton] at hx; omega)))
      have OC8 := Lib.hid (T8.owns OC1.out (fun g hg => by have := hOC.out g hg; simp; omega))
      have OV8 := Lib.hid (T8.owns OV1.out (fun g hg => by have := hOV.out g hg; simp; omega))
      have HQ8 := Lib.hid (ProcsTo.step HQ1.out T8 (by simp; omega) (fun g hg hm => by simp only [List.mem_singleton] at hm; have := hHQ.out g hg; omega))
      have HK8 := Lib.hid (And.intro (T8.blk HK1.out.1 (by simp; omega)) HK1.out.2)
      generalize wd.heap.size = gn at ON ⊢
      clear own8 T8 HA' HO1 KX1 KO1 KR1 HB1 OC1 OV1 hOC hOV HQ1 HK1 hHQ hgp2
      refine hK.out _ _ ⟨KX8, KO8, HB8⟩ (fun _ => ?_)
      refine tke 19 (v := ?v19p9) ?hy19p9 ⟨KX8, KO8, HB8⟩ ?rest19p9
      case hy19p9 => rintro wq ⟨q1, q2, q3⟩; clear q1 q2 q3; simp only [List.getElem_toArray, List.getElem_cons_zero, List.getElem_cons_succ]; go_simp; try with_reducible rfl
      refine tke 20 (v := ?v20p9) ?hy20p9 ⟨KX8, KO8, HB8⟩ ?rest20p9
      case hy20p9 => rintro wq ⟨q1, q2, q3⟩; clear q1 q2 q3; simp only [List.getElem_toArray, List.getElem_cons_zero, List.getElem_cons_succ]; go_simp; try with_reducible rfl
      obtain ⟨KPc, hcs, hce⟩ := HK8.out
      have hi3 := hce 1 (by omega)
      have c1 := KPc.cell (k * 3 + 1)
      rw [hi3] at c1
      replace c1 : w9.cell? ⟨gp, k * 3 + 1, none⟩ = some pv := c1
      have ff1 := KPc.frozen (k * 3 + 1)
      have HKP := Lib.hid KPc
      have HCE := Lib.hid hce
      clear KPc hce hi3
      refine wpAnyH_ready (rs := [21]) (by kernel_rfl) (by simp) ?_
      refine AllReadyH.cons (o := _) rfl (fun K hK => ?_) AllReadyH.nil
      try simp only [List.getElem_toArray, List.getElem_cons_zero, List.getElem_cons_succ]
      go_simp
      clear c1 ff1
      have TS := Lib.hid (Touch.set w9 ⟨gp, k * 3 + 1, none⟩ (.slice (some ⟨gn, 0, none⟩) x.params.length (x.params.length + 1)))
      have KX := Lib.hid (TS.out.blk KX8.out (by simp; omega))
      have KO := Lib.hid (TS.out.blk KO8.out (by simp; omega))
      have KR := Lib.hid (TS.out.blk KR8.out (by simp; omega))
      have HB := Lib.hid (HB8.out.trans (TS.out.below HB8.out.size (fun x hx => by simp only [List.mem_singleton] at hx; omega)))
      have OC := Lib.hid (TS.out.owns OC8.out (fun g hg hm => by simp only [List.mem_singleton] at hm; exact own_ty OC8.out HKP.out (by decide) hg hm))
      have OV := Lib.hid (TS.out.owns OV8.out (fun g hg hm => by simp only [List.mem_singleton] at hm; exact own_ty OV8.out HKP.out (by decide) hg hm))
      have HP := Lib.hid (ProcsTo.push HQ8.out HKP.out hcs HCE.out HX.out ON.out (by omega))
      refine hK.out _ _ ⟨KX, KO, HB⟩ (fun _ => ?_)
      refine wpAnyH_done (by kernel_rfl) ?_ _
      clear KX8 KO8 KR8 HB8 OC8 OV8 HQ8 HK8 TS
      go_wp2_with fail
      go_roundw
      case rel => exact ⟨k + 1, qvs ++ [(.slice (some ⟨gn, 0, none⟩) x.params.length (x.params.length + 1))], by omega, by go_num, KX, KO, KR, HB, OC, OV, HP⟩
      case measure => simp [intOf]; omega
      
    · obtain rfl : k = s.procs.length := by omega
      have hlS := load_blk Try.underlying26 rfl sz_sym KO.out rfl
      have hstR := store_blk sz_sym KR.out rfl rfl (scells_one s (cv := (.slice (some ⟨ga, 0, none⟩) s.consts.length (s.consts.length + 1))) (vv := (.slice (some ⟨gb, 0, none⟩) s.vars.length (s.vars.length + 1))) (pv := (.slice (some ⟨gp, 0, none⟩) s.procs.length s.procs.length)) rfl rfl rfl)
      have hres := loadVar_blk Try.underlying26 rfl sz_sym (KR.out.setRow (scells s (.slice (some ⟨ga, 0, none⟩) s.consts.length (s.consts.length + 1)) (.slice (some ⟨gb, 0, none⟩) s.vars.length (s.vars.length + 1)) (.slice (some ⟨gp, 0, none⟩) s.procs.length s.procs.length))) rfl
      go_wp2_with fail
      have TR := Lib.hid (Touch.row wr (w.heap.size + 1) (scells s (.slice (some ⟨ga, 0, none⟩) s.consts.length (s.consts.length + 1)) (.slice (some ⟨gb, 0, none⟩) s.vars.length (s.vars.length + 1)) (.slice (some ⟨gp, 0, none⟩) s.procs.length s.procs.length)))
      have OC9 := Lib.hid (OwnL.touch OC.out TR.out (fun y hy => by simp only [List.mem_singleton] at hy; omega))
      have OV9 := Lib.hid (OwnL.touch OV.out TR.out (fun y hy => by simp only [List.mem_singleton] at hy; omega))
      have HP9 := Lib.hid (ProcsTo.step HP.out TR.out (by simp; omega) (fun g hg hm => by simp only [List.mem_singleton] at hm; have := (ProcsTo.base HP.out) g hg; omega))
      refine bodyPost_ret (v := .agg (scells s (.slice (some ⟨ga, 0, none⟩) s.consts.length (s.consts.length + 1)) (.slice (some ⟨gb, 0, none⟩) s.vars.length (s.vars.length + 1)) (.slice (some ⟨gp, 0, none⟩) s.procs.length s.procs.length))) ?_ rfl ⟨_, _, _, rfl, ⟨HS.out.name, ⟨own_rows (fun r hr => by obtain ⟨x, _, rfl⟩ := List.mem_map.1 hr; rfl) OC9.out, HS.out.c.2⟩, vrows_own OV9.out HS.out.v.2, ProcsTo.at HP9.out (fun k p hp => HPF.out p (List.mem_of_getElem? hp))⟩, HB.out.trans (TR.out.below HB.out.size (fun y hy => by simp only [List.mem_singleton] at hy; omega))⟩
      simp [results, Try.results9, asAddr, hres]
end
end Go.Proofs.Ytgemnmceflcpcaa
