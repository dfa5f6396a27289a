/- What a module shows to others. -/
import Derived.Test.YtgemnmceflcpcaaShB
namespace Go.Proofs.Ytgemnmceflcpcaa
open Go Go.RowKit Go.Lib Go.Proofs.Ytgemnmceflcpcaa.Sy
set_option linter.unusedVariables false
set_option linter.unusedSimpArgs false
attribute [local go_sem ↓] exec_load_const exec_store_const exec_load_var exec_store_var exec_load_proc exec_store_proc exec_load_sym exec_store_sym exec_load_vd exec_store_vd exec_load_pd exec_store_pd exec_load_mod exec_store_mod
/-- A module, as far as it shows. -/
structure Md where
  name : ByteArray
  types : List Ty
  consts : List Cst
  vars : List Vd
  procs : List Pd
def cshown (l : List Cst) : List Cst := l.filter Cst.shown
def vshown (l : List Vd) : List Vd := l.filter Vd.shown
def pshown (l : List Pd) : List Pd := l.filter Pd.shown
theorem cshown_len (l : List Cst) (k : Nat) : (cshown (l.take k)).length ≤ k := Nat.le_trans (List.length_filter_le _ _) (by rw [List.length_take]; omega)
theorem vshown_len (l : List Vd) (k : Nat) : (vshown (l.take k)).length ≤ k := Nat.le_trans (List.length_filter_le _ _) (by rw [List.length_take]; omega)
theorem pshown_len (l : List Pd) (k : Nat) : (pshown (l.take k)).length ≤ k := Nat.le_trans (List.length_filter_le _ _) (by rw [List.length_take]; omega)
theorem cshown_on {l : List Cst} {x : Cst} (h : x.shown = true) : cshown (l ++ [x]) = cshown l ++ [x] := by unfold cshown; rw [List.filter_append]; simp [h]
theorem cshown_off {l : List Cst} {x : Cst} (h : x.shown = false) : cshown (l ++ [x]) = cshown l := by unfold cshown; rw [List.filter_append]; simp [h]
theorem vshown_on {l : List Vd} {x : Vd} (h : x.shown = true) : vshown (l ++ [x]) = vshown l ++ [x] := by unfold vshown; rw [List.filter_append]; simp [h]
theorem vshown_off {l : List Vd} {x : Vd} (h : x.shown = false) : vshown (l ++ [x]) = vshown l := by unfold vshown; rw [List.filter_append]; simp [h]
theorem pshown_on {l : List Pd} {x : Pd} (h : x.shown = true) : pshown (l ++ [x]) = pshown l ++ [x] := by unfold pshown; rw [List.filter_append]; simp [h]
theorem pshown_off {l : List Pd} {x : Pd} (h : x.shown = false) : pshown (l ++ [x]) = pshown l := by unfold pshown; rw [List.filter_append]; simp [h]
theorem vshown_at {l : List Vd} {x : Vd} (h : x.shown = true) {k : Nat} (hx : l[k]? = some x) : ∃ j : Nat, (vshown l)[j]? = some x := List.mem_iff_getElem?.1 (List.mem_filter.2 ⟨List.mem_of_getElem? hx, h⟩)
theorem pshown_at {l : List Pd} {x : Pd} (h : x.shown = true) {k : Nat} (hx : l[k]? = some x) : ∃ j : Nat, (pshown l)[j]? = some x := List.mem_iff_getElem?.1 (List.mem_filter.2 ⟨List.mem_of_getElem? hx, h⟩)
def varF (l : List Ty) (v : Vd) : Option Vr :=
  if (shapeF l v.type 8).1 = 0 ∨ ((shapeF l v.type 8).2 = true ∧ (tyAt l v.type).len < 1) then none else
    some ⟨v.name, (shapeF l v.type 8).1, if (shapeF l v.type 8).2 = true then (tyAt l v.type).len else 0, false, false⟩
theorem varF_is (l : List Ty) (v : Vd) : varF l v = if (shapeF l v.type 8).1 = 0 ∨ ((shapeF l v.type 8).2 = true ∧ (tyAt l v.type).len < 1) then none else
    some ⟨v.name, (shapeF l v.type 8).1, if (shapeF l v.type 8).2 = true then (tyAt l v.type).len else 0, false, false⟩ := rfl
theorem shapeF_in {l : List Ty} {t arr : Int} (h : (shapeF l t arr).2 = true) : (shapeF l t arr).1 ≠ 0 ∧ (0 ≤ t ∧ t < l.length) := by
  unfold shapeF at h ⊢
  by_cases h1 : 0 ≤ t ∧ t < l.length
  · rw [if_pos h1] at h ⊢
    by_cases h2 : plainF (tyAt l t).form
    · rw [if_pos h2] at h; cases h
    · rw [if_neg h2] at h ⊢
      split at h
      · next h3 => rw [if_pos h3]; exact ⟨by have := h3.2.2.2.1; simp only; omega, h1⟩
      · cases h
  · rw [if_neg h1] at h; cases h
/-- What a module shows. -/
inductive OfAns (m : Md) : Sm → Int → Prop where
  | vars (h : allF (varF m.types) (vshown m.vars) = none) : OfAns m noSym 130
  | procs (vs : List Vr) (h1 : allF (varF m.types) (vshown m.vars) = some vs) (h : allF (procF m.types) (pshown m.procs) = none) : OfAns m noSym 130
  | right (vs : List Vr) (ps : List Pr) (h1 : allF (varF m.types) (vshown m.vars) = some vs) (h2 : allF (procF m.types) (pshown m.procs) = some ps) (h : smOk ⟨m.name, cshown m.consts, vs, ps⟩) : OfAns m ⟨m.name, cshown m.consts, vs, ps⟩ 0
  | form (vs : List Vr) (ps : List Pr) (h1 : allF (varF m.types) (vshown m.vars) = some vs) (h2 : allF (procF m.types) (pshown m.procs) = some ps) (h : ¬ smOk ⟨m.name, cshown m.consts, vs, ps⟩) : OfAns m noSym 130
/-- Values that are values of their types. -/
structure MFit (m : Md) : Prop where
  name : m.name.size ≤ maxLen
  types : ∀ t ∈ m.types, (Lit.int .i64 t.form).wf = true ∧ (Lit.int .i64 t.len).wf = true
  consts : ∀ c ∈ m.consts, CFit c
  vars : ∀ v ∈ m.vars, v.name.size ≤ maxLen
  procs : ∀ p ∈ m.procs, p.name.size ≤ maxLen
theorem allF_mem {α β : Type} {f : α → Option β} : ∀ {l : List α} {ys : List β}, allF f l = some ys → ∀ y ∈ ys, ∃ x ∈ l, f x = some y
  | [], ys, h, y, hy => by cases h; cases hy
  | a :: l, ys, h, y, hy => by
    unfold allF at h
    cases ha : f a with
    | none => rw [ha] at h; cases h
    | some b =>
      rw [ha] at h
      cases hl : allF f l with
      | none => simp [hl] at h
      | some zs =>
        simp only [hl] at h; cases h
        rcases List.mem_cons.1 hy with rfl | hy
        · exact ⟨a, List.mem_cons_self .., ha⟩
        · obtain ⟨x, hx, hf⟩ := allF_mem hl y hy
          exact ⟨x, List.mem_cons_of_mem _ hx, hf⟩
theorem wf5 {n : Int} (h : 0 ≤ n ∧ n ≤ 5) : (Lit.int .i64 n).wf = true := wf64 ⟨by omega, by omega⟩
theorem len_wf {m : Md} (h : MFit m) (t : Int) : (Lit.int .i64 (tyAt m.types t).len).wf = true := by
  unfold tyAt
  rw [List.getD_eq_getElem?_getD]
  cases hx : m.types[t.toNat]? with
  | none => exact wf5 (by simp)
  | some x => exact (h.types x (List.mem_of_getElem? hx)).2
theorem of_fit {m : Md} (h : MFit m) {vs : List Vr} {ps : List Pr} (h1 : allF (varF m.types) (vshown m.vars) = some vs) (h2 : allF (procF m.types) (pshown m.procs) = some ps) : SFit ⟨m.name, cshown m.consts, vs, ps⟩ := by
  refine ⟨h.name, fun x hx => h.consts x ((List.mem_filter.1 hx).1), fun y hy => ?_, fun y hy => ?_⟩
  · obtain ⟨x, hx, hf⟩ := allF_mem h1 y hy
    have hn := h.vars x ((List.mem_filter.1 hx).1)
    unfold varF at hf
    split at hf
    · cases hf
    · cases hf
      refine ⟨hn, wf5 shapeF_bd, ?_⟩
      show (Lit.int .i64 (if _ then _ else _)).wf = true
      split
      · exact len_wf h x.type
      · exact wf5 (by omega)
  · obtain ⟨x, hx, hf⟩ := allF_mem h2 y hy
    have hn := h.procs x ((List.mem_filter.1 hx).1)
    unfold procF at hf
    split at hf
    · cases hf
    · split at hf
      · cases hf
      · next ps' hps =>
        have hp : ∀ z ∈ ps', VFit z := fun z hz => by
          obtain ⟨v, hv, hg⟩ := allF_mem hps z hz
          unfold parF at hg
          split at hg
          · cases hg
          · cases hg
            exact ⟨by unfold maxLen; show (0 : Nat) ≤ _; omega, wf5 shapeF_bd, wf5 ⟨Int.le_refl 0, show (0 : Int) ≤ 5 by decide⟩⟩
        split at hf
        · cases hf; exact ⟨hn, wf5 ⟨Int.le_refl 0, show (0 : Int) ≤ 5 by decide⟩, hp⟩
        · split at hf
          · cases hf
          · cases hf; exact ⟨hn, wf5 shapeF_bd, hp⟩
@[reducible] def mdcells (nm : ByteArray) (sb iv yv tv gv cv vv pv nv : Value) : Array Value := #[.string nm, sb, iv, yv, tv, gv, cv, vv, pv, nv]
@[reducible] def zPd : Array Value := #[.string ⟨#[]⟩, .bool false, .int .i64 0, .slice none 0 0, .int .i64 0, .slice none 0 0, .slice none 0 0]
theorem mdcells_one (nm : ByteArray) {sb iv yv tv gv cv vv pv nv : Value} (h1 : sb.oneCell' = true) (h2 : iv.oneCell' = true) (h3 : yv.oneCell' = true) (h4 : tv.oneCell' = true) (h5 : gv.oneCell' = true) (h6 : cv.oneCell' = true) (h7 : vv.oneCell' = true) (h8 : pv.oneCell' = true) (h9 : nv.oneCell' = true) : OneRow (mdcells nm sb iv yv tv gv cv vv pv nv) := by
  intro v hv
  simp only [mdcells, List.mem_toArray, List.mem_cons, List.not_mem_nil, or_false] at hv
  rcases hv with rfl | rfl | rfl | rfl | rfl | rfl | rfl | rfl | rfl | rfl <;> first | rfl | assumption
/-- Procedures of a module as they lie. -/
def PdsAt (w : World) (v : Value) (l : List Pd) : Prop :=
  ∃ xs : List (Value × Value × Value), xs.length = l.length ∧ RowsAt w v 7 (List.zipWith (fun p x => (pdcells p x.1 x.2.1 x.2.2).toList) l xs) ∧
    ∀ (k : Nat) (p : Pd) (x : Value × Value × Value), l[k]? = some p → xs[k]? = some x → VdsAt w x.1 p.vars ∧ x.2.1.oneCell' = true ∧ x.2.2.oneCell' = true ∧ p.name.size ≤ maxLen
/-- A module as it lies. -/
structure MdAt (w : World) (m : Md) (A0 : Option Addr) (cap0 : Nat) (cv vv pv : Value) : Prop where
  fit : MFit m
  types : TysAt w A0 cap0 m.types
  c : CstsAt w cv m.consts
  v : VdsAt w vv m.vars
  p : PdsAt w pv m.procs
  ca : m.consts.length * 56 ≤ 150000000000000
  va : m.vars.length * 32 ≤ 150000000000000
  pa : m.procs.length * 112 ≤ 150000000000000
/-- What Of answers. -/
def OfP (m : Md) (w : World) (e : Ending) (w' : World) : Prop := ∃ (s : Sm) (er : Int) (cv vv pv : Value) (pvs : List Value), e = .returned (.tuple #[.agg (scells s cv vv pv), .int .i64 er]) ∧ OfAns m s er ∧ SmOwn w' w.heap.size s cv vv pv pvs ∧ Below w.heap.size w w'
section
variable {w : World}
set_option maxHeartbeats 8000000 in
set_option maxRecDepth 100000 in
theorem of_any {m : Md} {A0 : Option Addr} {cap0 : Nat} {cv vv pv sb iv yv gv nv : Value} (hM : MdAt w m A0 cap0 cv vv pv) (h1 : sb.oneCell' = true) (h2 : iv.oneCell' = true) (h3 : yv.oneCell' = true) (h5 : gv.oneCell' = true) (h9 : nv.oneCell' = true) :
    Calls Try.prog 17 #[.agg (mdcells m.name sb iv yv (.slice A0 m.types.length cap0) gv cv vv pv nv)] w (OfP m w) := by
  obtain ⟨hF, hT, hC, hV, hP, hca, hva, hpa⟩ := hM
  obtain ⟨A1, cap1, rfl, c11, c12, R1⟩ := list_of hC.1 (List.length_map _)
  obtain ⟨A2, cap2, rfl, c21, c22, R2⟩ := list_of hV.rows (List.length_map _)
  obtain ⟨xs, hxl, hxr, hxe⟩ := hP
  obtain ⟨A3, cap3, rfl, c31, c32, R3⟩ := list_of (n := m.procs.length) hxr (by rw [List.length_zipWith, hxl, Nat.min_self])
  have hone := mdcells_one m.name (cv := .slice A1 m.consts.length cap1) (vv := .slice A2 m.vars.length cap2) (pv := .slice A3 m.procs.length cap3) (tv := .slice A0 m.types.length cap0) h1 h2 h3 rfl h5 rfl rfl rfl h9
  unfold maxLen at c12 c22 c32
  have hcap0 := hT.fit
  have hmax0 := hT.max
  unfold maxLen at hmax0
  have R1 := Lib.hid R1
  have R2 := Lib.hid R2
  have R3 := Lib.hid R3
  have HFT := Lib.hid hF
  have HTY := Lib.hid hT
  have HXL := Lib.hid hxl
  have HXE := Lib.hid hxe
  have HCA := Lib.hid hca
  have HVA := Lib.hid hva
  have HPA := Lib.hid hpa
  clear hF hT hC hV hxl hxr hxe hca hva hpa h1 h2 h3 h5 h9
  obtain ⟨iC, hi, hz0, hz1, hz2⟩ := info_parts info_const
  have CI := Lib.hid hi
  have CZ0 := Lib.hid hz0
  have CZ1 := Lib.hid hz1
  have CZ2 := Lib.hid hz2
  clear hi hz0 hz1 hz2
  obtain ⟨iV, hi, hz0, hz1, hz2⟩ := info_parts info_symvar
  have VI := Lib.hid hi
  have VZ0 := Lib.hid hz0
  have VZ1 := Lib.hid hz1
  have VZ2 := Lib.hid hz2
  clear hi hz0 hz1 hz2
  obtain ⟨iP, hi, hz0, hz1, hz2⟩ := info_parts info_proc
  have PI := Lib.hid hi
  have PZ0 := Lib.hid hz0
  have PZ1 := Lib.hid hz1
  have PZ2 := Lib.hid hz2
  clear hi hz0 hz1 hz2
  have HB := Lib.hid ((((Below.refl w.heap.size w).alloc (Nat.le_refl _) (.cells (mdcells m.name sb iv yv (.slice A0 m.types.length cap0) gv (.slice A1 m.consts.length cap1) (.slice A2 m.vars.length cap2) (.slice A3 m.procs.length cap3) nv) 46)).alloc (by simp) (.cells zSym 26)).alloc (by simp; omega) (.cells (scells ⟨m.name, [], [], []⟩ (.slice none 0 0) (.slice none 0 0) (.slice none 0 0)) 26))
  have KM := Lib.hid (((Blk.new w (mdcells m.name sb iv yv (.slice A0 m.types.length cap0) gv (.slice A1 m.consts.length cap1) (.slice A2 m.vars.length cap2) (.slice A3 m.procs.length cap3) nv) 46).old (.cells zSym 26)).old (.cells (scells ⟨m.name, [], [], []⟩ (.slice none 0 0) (.slice none 0 0) (.slice none 0 0)) 26))
  have KR := Lib.hid ((Blk.new (w.alloc (.cells (mdcells m.name sb iv yv (.slice A0 m.types.length cap0) gv (.slice A1 m.consts.length cap1) (.slice A2 m.vars.length cap2) (.slice A3 m.procs.length cap3) nv) 46)) zSym 26).old (.cells (scells ⟨m.name, [], [], []⟩ (.slice none 0 0) (.slice none 0 0) (.slice none 0 0)) 26))
  have KO := Lib.hid (Blk.new ((w.alloc (.cells (mdcells m.name sb iv yv (.slice A0 m.types.length cap0) gv (.slice A1 m.consts.length cap1) (.slice A2 m.vars.length cap2) (.slice A3 m.procs.length cap3) nv) 46)).alloc (.cells zSym 26)) (scells ⟨m.name, [], [], []⟩ (.slice none 0 0) (.slice none 0 0) (.slice none 0 0)) 26)
  have hz3 : w.heap.size + 3 ≤ (((w.alloc (.cells (mdcells m.name sb iv yv (.slice A0 m.types.length cap0) gv (.slice A1 m.consts.length cap1) (.slice A2 m.vars.length cap2) (.slice A3 m.procs.length cap3) nv) 46)).alloc (.cells zSym 26)).alloc (.cells (scells ⟨m.name, [], [], []⟩ (.slice none 0 0) (.slice none 0 0) (.slice none 0 0)) 26)).heap.size := by simp
  have x0 := ((Blk.new w (mdcells m.name sb iv yv (.slice A0 m.types.length cap0) gv (.slice A1 m.consts.length cap1) (.slice A2 m.vars.length cap2) (.slice A3 m.procs.length cap3) nv) 46).old (.cells zSym 26)).cell 0
  have x0b := (((Blk.new w (mdcells m.name sb iv yv (.slice A0 m.types.length cap0) gv (.slice A1 m.consts.length cap1) (.slice A2 m.vars.length cap2) (.slice A3 m.procs.length cap3) nv) 46).old (.cells zSym 26)).old (.cells zSym 26)).cell 0
  have hst := store_blk_new ((w.alloc (.cells (mdcells m.name sb iv yv (.slice A0 m.types.length cap0) gv (.slice A1 m.consts.length cap1) (.slice A2 m.vars.length cap2) (.slice A3 m.procs.length cap3) nv) 46)).alloc (.cells zSym 26)) zSym (scells ⟨m.name, [], [], []⟩ (.slice none 0 0) (.slice none 0 0) (.slice none 0 0)) 26 sz_sym rfl rfl (scells_one _ rfl rfl rfl)
  simp only [World.size_alloc] at KR KO hst
  go_enter Try.func17, Try.ntmps17
  go_upto_region 2 with fail
  clear hst x0 x0b hone
  generalize ((w.alloc (.cells (mdcells m.name sb iv yv (.slice A0 m.types.length cap0) gv (.slice A1 m.consts.length cap1) (.slice A2 m.vars.length cap2) (.slice A3 m.procs.length cap3) nv) 46)).alloc (.cells zSym 26)).alloc (.cells (scells ⟨m.name, [], [], []⟩ (.slice none 0 0) (.slice none 0 0) (.slice none 0 0)) 26) = w3 at KM KO KR HB hz3 ⊢
  have y6 := KM.out.cell 6
  go_wp2_with fail
  clear y6
  go_loopw [6, 22] (fun pz i wr => ∃ (k : Nat) (u : Value), k ≤ m.consts.length ∧ i = .int .i64 k ∧ Hid (Blk wr w.heap.size (mdcells m.name sb iv yv (.slice A0 m.types.length cap0) gv (.slice A1 m.consts.length cap1) (.slice A2 m.vars.length cap2) (.slice A3 m.procs.length cap3) nv) 46) ∧ Hid (Blk wr (w.heap.size + 1) zSym 26) ∧ Hid (Blk wr (w.heap.size + 1 + 1) (scells ⟨m.name, [], [], []⟩ u (.slice none 0 0) (.slice none 0 0)) 26) ∧ Hid (Below w.heap.size w wr) ∧ Hid (OwnL wr (w.heap.size + 3) 48 5 u ((cshown (m.consts.take k)).map fun c => (ccells c).toList))) (fun _ i _ => m.consts.length - (intOf i).toNat)
  case atStart => exact ⟨0, _, Nat.zero_le _, rfl, KM, KR, KO, HB, Lib.hid (World.ownsRow_nil _ _ _ _)⟩
  case round =>
    clear KM KR KO HB
    obtain ⟨k, u, hk, rfl, KM, KR, KO, HB, OC⟩ := hrel
    obtain ⟨Ac, nc, cc, hu⟩ := OwnL.form OC.out
    subst hu
    have hgo := KO.out.lt
    by_cases hlt : k < m.consts.length
    · obtain ⟨x, hx⟩ : ∃ x, m.consts[k]? = some x := ⟨m.consts[k], List.getElem?_eq_getElem hlt⟩
      rcases R1.out with hz | ⟨b, off, rfl, hb1, hr⟩
      · omega
      have hl := load_mid (w := wr) Try.underlying48 rfl sz_const (range_below (hr k (ccells x).toList (by rw [List.getElem?_map, hx]; rfl)) HB.out hb1) rfl
      have hst := store_blk_new wr zCst (ccells x) 48 sz_const rfl rfl (ccells_one x)
      have hk0 : (0 : Int) ≤ (k : Int) := by omega
      have hk1 : (k : Int) < (m.consts.length : Int) := by omega
      have HX := Lib.hid hx
      have HAL := Lib.hid (show (cshown (m.consts.take k)).length ≤ k from cshown_len _ _)
      clear hx hr
      go_upto_region 5 with fail
      clear hl hst
      have KX1 := Lib.hid (Blk.new wr (ccells x) 48)
      have KM1 := Lib.hid (KM.out.old (.cells (ccells x) 48))
      have KR1 := Lib.hid (KR.out.old (.cells (ccells x) 48))
      have KO1 := Lib.hid (KO.out.old (.cells (ccells x) 48))
      have HB1 := Lib.hid (HB.out.alloc HB.out.size (.cells (ccells x) 48))
      have OC1 := Lib.hid (show OwnL (wr.alloc (.cells (ccells x) 48)) _ _ _ _ _ from World.ownsRow.alloc OC.out _)
      generalize wr.heap.size = gx at KX1 hgo ⊢
      generalize wr.alloc (.cells (ccells x) 48) = w1 at KX1 KM1 KR1 KO1 HB1 OC1 ⊢
      clear KM KR KO HB OC
      have y4 : w1.cell? ⟨gx, 4, none⟩ = some (.bool x.shown) := KX1.out.cell 4
      cases hs : x.shown with
      | false =>
        rw [hs] at y4
        have HC2 := Lib.hid (show cshown (m.consts.take (k + 1)) = cshown (m.consts.take k) by rw [take_snoc HX.out, cshown_off hs])
        clear hs
        go_wp2_with fail
        go_roundw
        case rel => exact ⟨k + 1, _, by omega, by go_num, KM1, KR1, KO1, HB1, by rw [HC2.out]; exact OC1⟩
        case measure => simp [intOf]; omega
      | true =>
        rw [hs] at y4
        have HC2 := Lib.hid (show cshown (m.consts.take (k + 1)) = cshown (m.consts.take k) ++ [x] by rw [take_snoc HX.out, cshown_on hs])
        clear hs
        have hl := load_blk Try.underlying48 rfl sz_const KX1.out rfl
        have y1 := KO1.out.cell 1
        go_wp2_with (at_builtin; refine wpList_append_own_wide _ rfl _ _ 22 rfl (w.heap.size + 3) 48 iC (.agg #[.string ⟨#[]⟩, .int .i64 0, .int .i64 0, .string ⟨#[]⟩, .bool false]) 5 56 Try.underlying22 CI.out CZ0.out CZ1.out CZ2.out rfl (by decide) _ _ _ rfl (World.ownsRow.alloc OC1.out _) ⟨w1.heap.size, 0, none⟩ 1 1 (ccells x).toList rfl rfl ?d1 ?d2 ?d3 ?d4 ?d5 ?_)
        case d2 => exact ⟨rfl, rfl, rfl, rfl, rfl⟩
        case d3 => (try rw [List.length_map]); have := HAL.out; have := HCA.out; unfold maxLen; omega
        case d4 => (try rw [List.length_map]); have := HAL.out; have := HCA.out; omega
        case d5 => have := KO1.out.lt; simp; omega
        intro v' wa hown8 hgrow8 _
        have T8 := Touch.of_grown hgrow8
        have hne : ∀ y ∈ (Value.slice Ac nc cc).ownBlock.toList, (w.heap.size + 3) ≤ y := fun y hy => by simp only [Option.mem_toList, Option.mem_def] at hy; exact (own_lt OC1.out y hy).2
        have KMa := Lib.hid (T8.blk (KM1.out.old (.cells (ccells x) 48)) (fun hm => by have := hne _ hm; omega))
        have KRa := Lib.hid (T8.blk (KR1.out.old (.cells (ccells x) 48)) (fun hm => by have := hne _ hm; omega))
        have KOa := Lib.hid (T8.blk (KO1.out.old (.cells (ccells x) 48)) (fun hm => by have := hne _ hm; omega))
        have HBa := Lib.hid ((HB1.out.alloc HB1.out.size (.cells (ccells x) 48)).trans (T8.below (by have := HB1.out.size; simp; omega) (fun y hy => by have := hne y hy; omega)))
        have OCa := Lib.hid (show OwnL wa (w.heap.size + 3) 48 5 v' ((cshown (m.consts.take k) ++ [x]).map fun c => (ccells c).toList) by rw [List.map_append]; exact ownL_push (by rw [List.length_map]; exact hown8))
        clear hown8 hgrow8 T8 hne y1 y4 hl KX1 KM1 KO1 KR1 HB1 OC1
        obtain ⟨A', un', uc', hv'⟩ := OwnL.form OCa.out
        subst hv'
        have y1 := KOa.out.cell 1
        have ff1 := KOa.out.frozen 1
        have TS := Lib.hid (Touch.set wa ⟨w.heap.size + 1 + 1, 1, none⟩ (.slice A' un' uc'))
        have KOb : Hid (Blk (wa.setCell ⟨w.heap.size + 1 + 1, 1, none⟩ (.slice A' un' uc')) (w.heap.size + 1 + 1) (scells ⟨m.name, [], [], []⟩ (.slice A' un' uc') (.slice none 0 0) (.slice none 0 0)) 26) := Lib.hid (KOa.out.set 1 _)
        have KMb := Lib.hid (TS.out.blk KMa.out (by simp only [List.mem_singleton]; omega))
        have KRb := Lib.hid (TS.out.blk KRa.out (by simp only [List.mem_singleton]; omega))
        have HBb := Lib.hid (HBa.out.trans (TS.out.below HBa.out.size (fun y hy => by simp only [List.mem_singleton] at hy; omega)))
        have OCb := Lib.hid (OwnL.touch OCa.out TS.out (fun y hy => by simp only [List.mem_singleton] at hy; omega))
        go_wp2_with fail
        go_roundw
        case rel => exact ⟨k + 1, _, by omega, by go_num, KMb, KRb, KOb, HBb, by rw [HC2.out]; exact OCb⟩
        case measure => simp [intOf]; omega
    · obtain rfl : k = m.consts.length := by omega
      rw [List.take_length] at OC
      clear R1 hlt hk
      have y7 := KM.out.cell 7
      go_wp2_with fail
      clear y7
      go_loopw [8, 9, 10, 11, 38] (fun pz fz oz xz i wr => ∃ (k : Nat) (u : Value) (acc : List Vr), k ≤ m.vars.length ∧ i = .int .i64 k ∧ Hid (allF (varF m.types) (vshown (m.vars.take k)) = some acc) ∧ Hid (Blk wr w.heap.size (mdcells m.name sb iv yv (.slice A0 m.types.length cap0) gv (.slice A1 m.consts.length cap1) (.slice A2 m.vars.length cap2) (.slice A3 m.procs.length cap3) nv) 46) ∧ Hid (Blk wr (w.heap.size + 1) zSym 26) ∧ Hid (Blk wr (w.heap.size + 1 + 1) (scells ⟨m.name, [], [], []⟩ (.slice Ac nc cc) u (.slice none 0 0)) 26) ∧ Hid (Below w.heap.size w wr) ∧ Hid (OwnL wr (w.heap.size + 3) 48 5 (.slice Ac nc cc) ((cshown m.consts).map fun c => (ccells c).toList)) ∧ Hid (OwnL wr (w.heap.size + 3) 73 5 u (vrows acc))) (fun _ _ _ _ i _ => m.vars.length - (intOf i).toNat)
      case atStart => exact ⟨0, _, [], Nat.zero_le _, rfl, Lib.hid rfl, KM, KR, KO, HB, OC, Lib.hid (World.ownsRow_nil _ _ _ _)⟩
      case round =>
        clear KM KR KO HB OC
        obtain ⟨k, u, acc, hk, rfl, HAC, KM, KR, KO, HB, OC, OV⟩ := hrel
        obtain ⟨Av, nvv, cv9, hu⟩ := OwnL.form OV.out
        subst hu
        have hgo := KO.out.lt
        by_cases hlt : k < m.vars.length
        · obtain ⟨x, hx⟩ : ∃ x, m.vars[k]? = some x := ⟨m.vars[k], List.getElem?_eq_getElem hlt⟩
          rcases R2.out with hz | ⟨b, off, rfl, hb1, hr⟩
          · omega
          have hl := load_mid (w := wr) Try.underlying50 rfl sz_vd (range_below (hr k (vdcells x).toList (by rw [List.getElem?_map, hx]; rfl)) HB.out hb1) rfl
          have hst := store_blk_new wr zVd (vdcells x) 50 sz_vd rfl rfl (vdcells_one x)
          have hk0 : (0 : Int) ≤ (k : Int) := by omega
          have hk1 : (k : Int) < (m.vars.length : Int) := by omega
          have HX := Lib.hid hx
          have HAL := Lib.hid (show acc.length ≤ k by have := allF_len HAC.out; have h2 := vshown_len m.vars k; omega)
          clear hx hr
          go_upto_region 11 with fail
          clear hl hst
          have KX1 := Lib.hid (Blk.new wr (vdcells x) 50)
          have KM1 := Lib.hid (KM.out.old (.cells (vdcells x) 50))
          have KR1 := Lib.hid (KR.out.old (.cells (vdcells x) 50))
          have KO1 := Lib.hid (KO.out.old (.cells (vdcells x) 50))
          have HB1 := Lib.hid (HB.out.alloc HB.out.size (.cells (vdcells x) 50))
          have OC1 := Lib.hid (show OwnL (wr.alloc (.cells (vdcells x) 50)) _ _ _ _ _ from World.ownsRow.alloc OC.out _)
          have OV1 := Lib.hid (show OwnL (wr.alloc (.cells (vdcells x) 50)) _ _ _ _ _ from World.ownsRow.alloc OV.out _)
          generalize wr.heap.size = gx at KX1 hgo ⊢
          generalize wr.alloc (.cells (vdcells x) 50) = w1 at KX1 KM1 KR1 KO1 HB1 OC1 OV1 ⊢
          clear KM KR KO HB OC OV
          have y2 : w1.cell? ⟨gx, 2, none⟩ = some (.bool x.shown) := KX1.out.cell 2
          cases hs : x.shown with
          | false =>
            rw [hs] at y2
            have HC2 := Lib.hid (show vshown (m.vars.take (k + 1)) = vshown (m.vars.take k) by rw [take_snoc HX.out, vshown_off hs])
            clear hs
            go_wp2_with fail
            go_roundw
            case rel => exact ⟨k + 1, _, acc, by omega, by go_num, by rw [HC2.out]; exact HAC, KM1, KR1, KO1, HB1, OC1, OV1⟩
            case measure => simp [intOf]; omega
          | true =>
            rw [hs] at y2
            have HC2 := Lib.hid (show vshown (m.vars.take (k + 1)) = vshown (m.vars.take k) ++ [x] by rw [take_snoc HX.out, vshown_on hs])
            have HFN := Lib.hid (fun (h : varF m.types x = none) => OfAns.vars (m := m) (allF_none h (vshown_at hs HX.out).choose_spec))
            clear hs
            have y1 : w1.cell? ⟨gx, 1, none⟩ = some (.int .i64 x.type) := KX1.out.cell 1
            have y4 := KM1.out.cell 4
            have H1 := Lib.hid (shape_any (HTY.out.below HB1.out) x.type 8)
            have HVF := Lib.hid (varF_is m.types x)
            have HSH := Lib.hid (shapeF_in (l := m.types) (t := x.type) (arr := 8))
            obtain ⟨F, hF⟩ : ∃ F, (shapeF m.types x.type 8).1 = F := ⟨_, rfl⟩
            obtain ⟨O, hO⟩ : ∃ O, (shapeF m.types x.type 8).2 = O := ⟨_, rfl⟩
            rw [hF, hO] at H1 HVF HSH
            clear hF hO
            go_upto_region 13 with (go_at_call 48; refine H1.out.mono ?_; rintro e w2 ⟨rfl, rfl⟩)
            clear y2
            have y0 : w1.cell? ⟨gx, 0, none⟩ = some (.string x.name) := KX1.out.cell 0
            have hst := store_blk_new w1 zVar (vcells ⟨x.name, F, 0, false, false⟩) 73 sz_var rfl rfl (vcells_one _)
            have y0b := (KX1.out.old (.cells zVar 73)).cell 0
            go_upto_region 14 with fail
            clear hst y0 y0b
            have KY2 := Lib.hid (Blk.new w1 (vcells ⟨x.name, F, 0, false, false⟩) 73)
            have KX2 := Lib.hid (KX1.out.old (.cells (vcells ⟨x.name, F, 0, false, false⟩) 73))
            have KM2 := Lib.hid (KM1.out.old (.cells (vcells ⟨x.name, F, 0, false, false⟩) 73))
            have KR2 := Lib.hid (KR1.out.old (.cells (vcells ⟨x.name, F, 0, false, false⟩) 73))
            have KO2 := Lib.hid (KO1.out.old (.cells (vcells ⟨x.name, F, 0, false, false⟩) 73))
            have HB2 := Lib.hid (HB1.out.alloc HB1.out.size (.cells (vcells ⟨x.name, F, 0, false, false⟩) 73))
            have OC2 := Lib.hid (show OwnL (w1.alloc (.cells (vcells ⟨x.name, F, 0, false, false⟩) 73)) _ _ _ _ _ from World.ownsRow.alloc OC1.out _)
            have OV2 := Lib.hid (show OwnL (w1.alloc (.cells (vcells ⟨x.name, F, 0, false, false⟩) 73)) _ _ _ _ _ from World.ownsRow.alloc OV1.out _)
            have HLC := Lib.hid (fun g hg => (OwnL.lt OC1.out g hg).1)
            have HLV := Lib.hid (fun g hg => (OwnL.lt OV1.out g hg).1)
            have hgy : w.heap.size + 1 + 1 < w1.heap.size := KO1.out.lt
            generalize w1.heap.size = gy at KY2 hgy HLC HLV ⊢
            generalize w1.alloc (.cells (vcells ⟨x.name, F, 0, false, false⟩) 73) = w2 at KX2 KM2 KR2 KO2 HB2 OC2 OV2 KY2 ⊢
            clear KX1 KM1 KR1 KO1 HB1 OC1 OV1 y1 y4
            cases O with
            | false =>
              by_cases hF0 : F = 0
              · subst hF0
                have HVN := Lib.hid (show varF m.types x = none by rw [HVF.out, if_pos (.inl rfl)])
                have HAN := Lib.hid (show OfAns m noSym 130 from HFN.out HVN.out)
                have hst := store_blk sz_sym KR2.out rfl rfl zSym_one
                have hres := loadVar_blk Try.underlying26 rfl sz_sym (KR2.out.setRow zSym) rfl
                go_wp2_with fail
                refine bodyPost_ret (v := .tuple #[.agg zSym, .int .i64 130]) ?_ rfl ⟨noSym, 130, _, _, _, [], rfl, HAN.out, noSym_own _ _, belRow1 HB2.out _⟩
                simp [results, Try.results17, asAddr, hres]
              · have hF1 : (F == 0) = false := by simpa using hF0
                have HVY := Lib.hid (show varF m.types x = some ⟨x.name, F, 0, false, false⟩ by rw [HVF.out, if_neg (by simp [hF0])]; rfl)
                clear hF0
                have HAC2 := Lib.hid (show allF (varF m.types) (vshown (m.vars.take (k + 1))) = some (acc ++ [⟨x.name, F, 0, false, false⟩]) by rw [HC2.out]; exact allF_snoc HVY.out HAC.out)
                have hl := load_blk Try.underlying73 rfl sz_var KY2.out rfl
                have y2 := KO2.out.cell 2
                go_wp2_with (at_builtin; refine wpList_append_own_wide _ rfl _ _ 23 rfl (w.heap.size + 3) 73 iV (.agg #[.string ⟨#[]⟩, .int .i64 0, .int .i64 0, .bool false, .bool false]) 5 40 Try.underlying23 VI.out VZ0.out VZ1.out VZ2.out rfl (by decide) _ _ _ rfl (World.ownsRow.alloc OV2.out _) ⟨w2.heap.size, 0, none⟩ 1 1 (vcells ⟨x.name, F, 0, false, false⟩).toList rfl rfl ?e1 ?e2 ?e3 ?e4 ?e5 ?_)
                case e2 => first | exact ⟨rfl, rfl, rfl, rfl, rfl⟩ | exact ⟨rfl, rfl, rfl, rfl⟩ | exact ⟨rfl, rfl, rfl⟩ | exact rfl
                case e3 => (try rw [List.length_map]); have := HAL.out; have := HVA.out; unfold maxLen; omega
                case e4 => (try rw [List.length_map]); have := HAL.out; have := HVA.out; omega
                case e5 => have := KO2.out.lt; simp; omega
                intro v' wa hown8 hgrow8 _
                have T8 := Touch.of_grown hgrow8
                have hne : ∀ y ∈ (Value.slice Av nvv cv9).ownBlock.toList, (w.heap.size + 3) ≤ y := fun y hy => by simp only [Option.mem_toList, Option.mem_def] at hy; exact (own_lt OV2.out y hy).2
                have KMa := Lib.hid (T8.blk (KM2.out.old (.cells (vcells ⟨x.name, F, 0, false, false⟩) 73)) (fun hm => by have := hne _ hm; omega))
                have KRa := Lib.hid (T8.blk (KR2.out.old (.cells (vcells ⟨x.name, F, 0, false, false⟩) 73)) (fun hm => by have := hne _ hm; omega))
                have KOa := Lib.hid (T8.blk (KO2.out.old (.cells (vcells ⟨x.name, F, 0, false, false⟩) 73)) (fun hm => by have := hne _ hm; omega))
                have HBa := Lib.hid ((HB2.out.alloc HB2.out.size (.cells (vcells ⟨x.name, F, 0, false, false⟩) 73)).trans (T8.below (by have := HB2.out.size; simp; omega) (fun y hy => by have := hne y hy; omega)))
                have OCa : Hid (OwnL wa (w.heap.size + 3) 48 5 (.slice Ac nc cc) ((cshown m.consts).map fun c => (ccells c).toList)) := Lib.hid (T8.owns (World.ownsRow.alloc OC2.out _) (fun g hg hm => by simp only [Option.mem_toList, Option.mem_def] at hm; exact own_ne OV2.out OC2.out (by decide) g g hm hg rfl))
                have OVa := Lib.hid (show OwnL wa (w.heap.size + 3) 73 5 v' (vrows (acc ++ [⟨x.name, F, 0, false, false⟩])) by unfold vrows; rw [List.map_append]; exact ownL_push (by rw [List.length_map]; exact hown8))
                clear hown8 hgrow8 T8 hne y2 hl KX2 KM2 KO2 KR2 HB2 OC2 OV2 KY2
                obtain ⟨A', un', uc', hv'⟩ := OwnL.form OVa.out
                subst hv'
                have y2 := KOa.out.cell 2
                have ff2 := KOa.out.frozen 2
                have TS := Lib.hid (Touch.set wa ⟨w.heap.size + 1 + 1, 2, none⟩ (.slice A' un' uc'))
                have KOb : Hid (Blk (wa.setCell ⟨w.heap.size + 1 + 1, 2, none⟩ (.slice A' un' uc')) (w.heap.size + 1 + 1) (scells ⟨m.name, [], [], []⟩ (.slice Ac nc cc) (.slice A' un' uc') (.slice none 0 0)) 26) := Lib.hid (KOa.out.set 2 _)
                have KMb := Lib.hid (TS.out.blk KMa.out (by simp only [List.mem_singleton]; omega))
                have KRb := Lib.hid (TS.out.blk KRa.out (by simp only [List.mem_singleton]; omega))
                have HBb := Lib.hid (HBa.out.trans (TS.out.below HBa.out.size (fun y hy => by simp only [List.mem_singleton] at hy; omega)))
                have OCb := Lib.hid (OwnL.touch OCa.out TS.out (fun y hy => by simp only [List.mem_singleton] at hy; omega))
                have OVb := Lib.hid (OwnL.touch OVa.out TS.out (fun y hy => by simp only [List.mem_singleton] at hy; omega))
                go_wp2_with fail
                go_roundw
                case rel => exact ⟨k + 1, _, _, by omega, by go_num, HAC2, KMb, KRb, KOb, HBb, OCb, OVb⟩
                case measure => simp [intOf]; omega
            | true =>
              obtain ⟨hF0, htin⟩ := HSH.out rfl
              have hF1 : (F == 0) = false := by simpa using hF0
              obtain ⟨q, hq⟩ : ∃ q : Nat, x.type = q := ⟨x.type.toNat, by omega⟩
              rcases HTY.out.cells with hz | ⟨b0, off0, hA0, hb0, hr0⟩
              · omega
              have yl : w2.cell? ⟨b0, off0 + q * 7 + 1, none⟩ = some (.int .i64 (tyAt m.types q).len) := by rw [World.cell?_of_block (HB2.out.block b0 hb0)]; exact (hr0 q (by omega)).2.1
              have y4 := KM2.out.cell 4
              have y1 : w2.cell? ⟨gx, 1, none⟩ = some (.int .i64 x.type) := KX2.out.cell 1
              rw [hq] at y1 HVF
              have hq0 : (0 : Int) ≤ (q : Int) := by omega
              have hq1 : (q : Int) < (m.types.length : Int) := by omega
              have hcap0 := HTY.out.fit
              subst hA0
              generalize (tyAt m.types q).len = L at yl HVF
              have z2 := KY2.out.cell 2
              have zf2 := KY2.out.frozen 2
              have TS := Lib.hid (Touch.set w2 ⟨gy, 2, none⟩ (.int .i64 L))
              have KY3 : Hid (Blk (w2.setCell ⟨gy, 2, none⟩ (.int .i64 L)) gy (vcells ⟨x.name, F, L, false, false⟩) 73) := Lib.hid (KY2.out.set 2 _)
              have KM3 := Lib.hid (TS.out.blk KM2.out (by simp only [List.mem_singleton]; omega))
              have KR3 := Lib.hid (TS.out.blk KR2.out (by simp only [List.mem_singleton]; omega))
              have KO3 := Lib.hid (TS.out.blk KO2.out (by simp only [List.mem_singleton]; omega))
              have HB3 := Lib.hid (HB2.out.trans (TS.out.below HB2.out.size (fun y hy => by simp only [List.mem_singleton] at hy; omega)))
              have OC3 := Lib.hid (TS.out.owns OC2.out (fun g hg hm => by simp only [List.mem_singleton] at hm; have := HLC.out g hg; omega))
              have OV3 := Lib.hid (TS.out.owns OV2.out (fun g hg hm => by simp only [List.mem_singleton] at hm; have := HLV.out g hg; omega))
              go_upto_region 16 with fail
              clear yl y4 y1 z2 zf2
              generalize w2.setCell ⟨gy, 2, none⟩ (.int .i64 L) = w3 at KY3 KM3 KR3 KO3 HB3 OC3 OV3 ⊢
              have z2 : w3.cell? ⟨gy, 2, none⟩ = some (.int .i64 L) := KY3.out.cell 2
              by_cases hL : L < 1
              · have HVN := Lib.hid (show varF m.types x = none by rw [HVF.out, if_pos (.inr ⟨rfl, hL⟩)])
                have HAN := Lib.hid (show OfAns m noSym 130 from HFN.out HVN.out)
                have hst := store_blk sz_sym KR3.out rfl rfl zSym_one
                have hres := loadVar_blk Try.underlying26 rfl sz_sym (KR3.out.setRow zSym) rfl
                go_wp2_with fail
                refine bodyPost_ret (v := .tuple #[.agg zSym, .int .i64 130]) ?_ rfl ⟨noSym, 130, _, _, _, [], rfl, HAN.out, noSym_own _ _, belRow1 HB3.out _⟩
                simp [results, Try.results17, asAddr, hres]
              · have hL1 : (1 : Int) ≤ L := by omega
                have HVY := Lib.hid (show varF m.types x = some ⟨x.name, F, L, false, false⟩ by rw [HVF.out, if_neg (by simp [hF0, hL])]; rfl)
                clear hL hF0
                have HAC2 := Lib.hid (show allF (varF m.types) (vshown (m.vars.take (k + 1))) = some (acc ++ [⟨x.name, F, L, false, false⟩]) by rw [HC2.out]; exact allF_snoc HVY.out HAC.out)
                have hl := load_blk Try.underlying73 rfl sz_var KY3.out rfl
                have y2 := KO3.out.cell 2
                go_wp2_with (at_builtin; refine wpList_append_own_wide _ rfl _ _ 23 rfl (w.heap.size + 3) 73 iV (.agg #[.string ⟨#[]⟩, .int .i64 0, .int .i64 0, .bool false, .bool false]) 5 40 Try.underlying23 VI.out VZ0.out VZ1.out VZ2.out rfl (by decide) _ _ _ rfl (World.ownsRow.alloc OV3.out _) ⟨w3.heap.size, 0, none⟩ 1 1 (vcells ⟨x.name, F, L, false, false⟩).toList rfl rfl ?f1 ?f2 ?f3 ?f4 ?f5 ?_)
                case f2 => first | exact ⟨rfl, rfl, rfl, rfl, rfl⟩ | exact ⟨rfl, rfl, rfl, rfl⟩ | exact ⟨rfl, rfl, rfl⟩ | exact rfl
                case f3 => (try rw [List.length_map]); have := HAL.out; have := HVA.out; unfold maxLen; omega
                case f4 => (try rw [List.length_map]); have := HAL.out; have := HVA.out; omega
                case f5 => have := KO3.out.lt; simp; omega
                intro v' wa hown8 hgrow8 _
                have T8 := Touch.of_grown hgrow8
                have hne : ∀ y ∈ (Value.slice Av nvv cv9).ownBlock.toList, (w.heap.size + 3) ≤ y := fun y hy => by simp only [Option.mem_toList, Option.mem_def] at hy; exact (own_lt OV3.out y hy).2
                have KMa := Lib.hid (T8.blk (KM3.out.old (.cells (vcells ⟨x.name, F, L, false, false⟩) 73)) (fun hm => by have := hne _ hm; omega))
                have KRa := Lib.hid (T8.blk (KR3.out.old (.cells (vcells ⟨x.name, F, L, false, false⟩) 73)) (fun hm => by have := hne _ hm; omega))
                have KOa := Lib.hid (T8.blk (KO3.out.old (.cells (vcells ⟨x.name, F, L, false, false⟩) 73)) (fun hm => by have := hne _ hm; omega))
                have HBa := Lib.hid ((HB3.out.alloc HB3.out.size (.cells (vcells ⟨x.name, F, L, false, false⟩) 73)).trans (T8.below (by have := HB3.out.size; simp; omega) (fun y hy => by have := hne y hy; omega)))
                have OCa : Hid (OwnL wa (w.heap.size + 3) 48 5 (.slice Ac nc cc) ((cshown m.consts).map fun c => (ccells c).toList)) := Lib.hid (T8.owns (World.ownsRow.alloc OC3.out _) (fun g hg hm => by simp only [Option.mem_toList, Option.mem_def] at hm; exact own_ne OV3.out OC3.out (by decide) g g hm hg rfl))
                have OVa := Lib.hid (show OwnL wa (w.heap.size + 3) 73 5 v' (vrows (acc ++ [⟨x.name, F, L, false, false⟩])) by unfold vrows; rw [List.map_append]; exact ownL_push (by rw [List.length_map]; exact hown8))
                clear hown8 hgrow8 T8 hne y2 hl KX2 KM3 KO3 KR3 HB3 OC3 OV3 KY3
                obtain ⟨A', un', uc', hv'⟩ := OwnL.form OVa.out
                subst hv'
                have y2 := KOa.out.cell 2
                have ff2 := KOa.out.frozen 2
                have TS := Lib.hid (Touch.set wa ⟨w.heap.size + 1 + 1, 2, none⟩ (.slice A' un' uc'))
                have KOb : Hid (Blk (wa.setCell ⟨w.heap.size + 1 + 1, 2, none⟩ (.slice A' un' uc')) (w.heap.size + 1 + 1) (scells ⟨m.name, [], [], []⟩ (.slice Ac nc cc) (.slice A' un' uc') (.slice none 0 0)) 26) := Lib.hid (KOa.out.set 2 _)
                have KMb := Lib.hid (TS.out.blk KMa.out (by simp only [List.mem_singleton]; omega))
                have KRb := Lib.hid (TS.out.blk KRa.out (by simp only [List.mem_singleton]; omega))
                have HBb := Lib.hid (HBa.out.trans (TS.out.below HBa.out.size (fun y hy => by simp only [List.mem_singleton] at hy; omega)))
                have OCb := Lib.hid (OwnL.touch OCa.out TS.out (fun y hy => by simp only [List.mem_singleton] at hy; omega))
                have OVb := Lib.hid (OwnL.touch OVa.out TS.out (fun y hy => by simp only [List.mem_singleton] at hy; omega))
                go_wp2_with fail
                go_roundw
                case rel => exact ⟨k + 1, _, _, by omega, by go_num, HAC2, KMb, KRb, KOb, HBb, OCb, OVb⟩
                case measure => simp [intOf]; omega
        · obtain rfl : k = m.vars.length := by omega
          rw [List.take_length] at HAC
          clear R2 hlt hk
          have y8 := KM.out.cell 8
          go_wp2_with fail
          clear y8
          go_loopw [13, 14, 15, 87] (fun pz xz oz i wr => ∃ (k : Nat) (u : Value) (pcc : List Pr) (pvs : List Value), k ≤ m.procs.length ∧ i = .int .i64 k ∧ Hid (allF (procF m.types) (pshown (m.procs.take k)) = some pcc) ∧ Hid (Blk wr w.heap.size (mdcells m.name sb iv yv (.slice A0 m.types.length cap0) gv (.slice A1 m.consts.length cap1) (.slice A2 m.vars.length cap2) (.slice A3 m.procs.length cap3) nv) 46) ∧ Hid (Blk wr (w.heap.size + 1) zSym 26) ∧ Hid (Blk wr (w.heap.size + 1 + 1) (scells ⟨m.name, [], [], []⟩ (.slice Ac nc cc) (.slice Av nvv cv9) u) 26) ∧ Hid (Below w.heap.size w wr) ∧ Hid (OwnL wr (w.heap.size + 3) 48 5 (.slice Ac nc cc) ((cshown m.consts).map fun c => (ccells c).toList)) ∧ Hid (OwnL wr (w.heap.size + 3) 73 5 (.slice Av nvv cv9) (vrows acc)) ∧ Hid (OwnPs wr (w.heap.size + 3) u pcc pvs)) (fun _ _ _ i _ => m.procs.length - (intOf i).toNat)
          case atStart => exact ⟨0, _, [], [], Nat.zero_le _, rfl, Lib.hid rfl, KM, KR, KO, HB, OC, OV, Lib.hid (OwnPs.nil_ _ _)⟩
          case round =>
            clear KM KR KO HB OC OV
            obtain ⟨k, u, pcc, pvs, hk, rfl, HPC, KM, KR, KO, HB, OC, OV, OP⟩ := hrel
            obtain ⟨Ap, np, cp, hu⟩ := OwnL.form OP.out.own
            subst hu
            have hgo := KO.out.lt
            by_cases hlt : k < m.procs.length
            · obtain ⟨x, hx⟩ : ∃ x, m.procs[k]? = some x := ⟨m.procs[k], List.getElem?_eq_getElem hlt⟩
              obtain ⟨⟨xv, xb, xe⟩, hxs⟩ : ∃ y, xs[k]? = some y := ⟨xs[k]'(by have := HXL.out; omega), List.getElem?_eq_getElem _⟩
              obtain ⟨hv0, hb0, he0, _⟩ := HXE.out k x _ hx hxs
              have hv1 : xv.oneCell' = true := hv0.rows.one
              rcases R3.out with hz | ⟨b, off, rfl, hb1, hr⟩
              · omega
              have hl := load_mid (w := wr) Try.underlying53 rfl sz_pd (range_below (hr k (pdcells x xv xb xe).toList (by rw [List.getElem?_zipWith, hx, hxs])) HB.out hb1) rfl
              have hst := store_blk_new wr zPd (pdcells x xv xb xe) 53 sz_pd rfl rfl (pdcells_one x hv1 hb0 he0)
              have hk0 : (0 : Int) ≤ (k : Int) := by omega
              have hk1 : (k : Int) < (m.procs.length : Int) := by omega
              have HX := Lib.hid hx
              have HV0 := Lib.hid hv0
              have HAL := Lib.hid (show pcc.length ≤ k by have := allF_len HPC.out; have h2 := pshown_len m.procs k; omega)
              clear hx hxs hr hv0
              go_upto_region 23 with fail
              clear hl hst
              have KX1 := Lib.hid (Blk.new wr (pdcells x xv xb xe) 53)
              have KM1 := Lib.hid (KM.out.old (.cells (pdcells x xv xb xe) 53))
              have KR1 := Lib.hid (KR.out.old (.cells (pdcells x xv xb xe) 53))
              have KO1 := Lib.hid (KO.out.old (.cells (pdcells x xv xb xe) 53))
              have TA := Lib.hid (Touch.alloc wr (.cells (pdcells x xv xb xe) 53))
              have HB1 := Lib.hid (HB.out.alloc HB.out.size (.cells (pdcells x xv xb xe) 53))
              have OC1 := Lib.hid (OwnL.touch OC.out TA.out (fun y h => by cases h))
              have OV1 := Lib.hid (OwnL.touch OV.out TA.out (fun y h => by cases h))
              have OP1 := Lib.hid (OP.out.touch TA.out (fun y h => by cases h))
              clear TA
              generalize wr.heap.size = gx at KX1 hgo ⊢
              generalize wr.alloc (.cells (pdcells x xv xb xe) 53) = w1 at KX1 KM1 KR1 KO1 HB1 OC1 OV1 OP1 ⊢
              clear KM KR KO HB OC OV OP
              have y1 : w1.cell? ⟨gx, 1, none⟩ = some (.bool x.shown) := KX1.out.cell 1
              cases hs : x.shown with
              | false =>
                rw [hs] at y1
                have HC2 := Lib.hid (show pshown (m.procs.take (k + 1)) = pshown (m.procs.take k) by rw [take_snoc HX.out, pshown_off hs])
                clear hs
                go_wp2_with fail
                go_roundw
                case rel => exact ⟨k + 1, _, pcc, pvs, by omega, by go_num, by rw [HC2.out]; exact HPC, KM1, KR1, KO1, HB1, OC1, OV1, OP1⟩
                case measure => simp [intOf]; omega
              | true =>
                rw [hs] at y1
                have HC2 := Lib.hid (show pshown (m.procs.take (k + 1)) = pshown (m.procs.take k) ++ [x] by rw [take_snoc HX.out, pshown_on hs])
                have HFN := Lib.hid (fun (h : procF m.types x = none) => OfAns.procs (m := m) acc HAC.out (allF_none h (pshown_at hs HX.out).choose_spec))
                clear hs
                have y4 := KM1.out.cell 4
                have hl := load_blk Try.underlying53 rfl sz_pd KX1.out rfl
                have H1 := Lib.hid (proc_any (HTY.out.below HB1.out) x (HV0.out.below HB1.out) hb0 he0)
                go_wp2_with fail
                refine H1.out.mono ?_
                rintro e w2 ⟨q, qv, rfl, hq1, hbq, hqq⟩
                have hstq := store_blk_new w2 zPrc (pcells q qv) 63 sz_proc rfl rfl (pcells_one q hq1)
                have KM2 := Lib.hid ((KM1.out.step hbq).old (.cells (pcells q qv) 63))
                have KR2 := Lib.hid ((KR1.out.step hbq).old (.cells (pcells q qv) 63))
                have KO2 := Lib.hid ((KO1.out.step hbq).old (.cells (pcells q qv) 63))
                have KY2 := Lib.hid (Blk.new w2 (pcells q qv) 63)
                have TA := Lib.hid (show Touch w1 (w2.alloc (.cells (pcells q qv) 63)) [] from (Touch.of_below hbq []).trans (Touch.alloc w2 _) (fun x h _ => h))
                have HB2 := Lib.hid ((HB1.out.trans (hbq.mono HB1.out.size)).alloc (by have := HB1.out.size; have := hbq.size; omega) (.cells (pcells q qv) 63))
                have OC2 := Lib.hid (OwnL.touch OC1.out TA.out (fun y h => by cases h))
                have OV2 := Lib.hid (OwnL.touch OV1.out TA.out (fun y h => by cases h))
                have OP2 := Lib.hid (OP1.out.touch TA.out (fun y h => by cases h))
                have HQQ := Lib.hid (show ∀ q', procF m.types x = some q' → q = q' ∧ OwnL (w2.alloc (.cells (pcells q qv) 63)) (w.heap.size + 3) 73 5 qv (vrows q.params) from fun q' h => ⟨(hqq q' h).1, OwnL.weak (OwnL.touch (hqq q' h).2 (Touch.alloc w2 _) (fun y h => by cases h)) (by have := KO1.out.lt; omega)⟩)
                clear hqq
                go_upto_region 25 with fail
                clear hstq y1 y4 hl TA hbq
                generalize w2.heap.size = gy at KY2 ⊢
                generalize w2.alloc (.cells (pcells q qv) 63) = w3 at KM2 KR2 KO2 KY2 HB2 OC2 OV2 OP2 HQQ ⊢
                clear KX1 KM1 KR1 KO1 HB1 OC1 OV1 OP1 H1
                cases hpf : procF m.types x with
                | none =>
                  have HVN := Lib.hid hpf
                  clear hpf
                  have HAN := Lib.hid (show OfAns m noSym 130 from HFN.out HVN.out)
                  have hst := store_blk sz_sym KR2.out rfl rfl zSym_one
                  have hres := loadVar_blk Try.underlying26 rfl sz_sym (KR2.out.setRow zSym) rfl
                  go_wp2_with fail
                  refine bodyPost_ret (v := .tuple #[.agg zSym, .int .i64 130]) ?_ rfl ⟨noSym, 130, _, _, _, [], rfl, HAN.out, noSym_own _ _, belRow1 HB2.out _⟩
                  simp [results, Try.results17, asAddr, hres]
                | some q' =>
                  obtain ⟨hqe, hoq⟩ := HQQ.out q' hpf
                  subst hqe
                  have HVY := Lib.hid hpf
                  have OQ2 := Lib.hid hoq
                  clear hpf hoq HQQ HFN
                  have HPC2 := Lib.hid (show allF (procF m.types) (pshown (m.procs.take (k + 1))) = some (pcc ++ [q]) by rw [HC2.out]; exact allF_snoc HVY.out HPC.out)
                  have hl := load_blk Try.underlying63 rfl sz_proc KY2.out rfl
                  have y3 := KO2.out.cell 3
                  go_wp2_with (at_builtin; refine wpList_append_own_wide _ rfl _ _ 24 rfl (w.heap.size + 3) 63 iP (.agg #[.string ⟨#[]⟩, .slice none 0 0, .int .i64 0]) 3 48 Try.underlying24 PI.out PZ0.out PZ1.out PZ2.out rfl (by decide) _ _ _ rfl (World.ownsRow.alloc OP2.out.own _) ⟨w3.heap.size, 0, none⟩ 1 1 (pcells q qv).toList rfl rfl ?g1 ?g2 ?g3 ?g4 ?g5 ?_)
                  case g2 => first | exact ⟨rfl, hq1, rfl⟩ | exact ⟨rfl, rfl⟩ | exact hq1
                  case g3 => rw [prows_len OP2.out.len]; have := HAL.out; have := HPA.out; unfold maxLen; omega
                  case g4 => rw [prows_len OP2.out.len]; have := HAL.out; have := HPA.out; omega
                  case g5 => have := KO2.out.lt; simp; omega
                  intro v' wa hown8 hgrow8 _
                  have T8 := Touch.of_grown hgrow8
                  have TA := Lib.hid (Touch.alloc w3 (.cells (pcells q qv) 63))
                  have hne : ∀ y ∈ (Value.slice Ap np cp).ownBlock.toList, (w.heap.size + 3) ≤ y := fun y hy => by simp only [Option.mem_toList, Option.mem_def] at hy; exact (own_lt OP2.out.own y hy).2
                  have KMa := Lib.hid (T8.blk (KM2.out.old (.cells (pcells q qv) 63)) (fun hm => by have := hne _ hm; omega))
                  have KRa := Lib.hid (T8.blk (KR2.out.old (.cells (pcells q qv) 63)) (fun hm => by have := hne _ hm; omega))
                  have KOa := Lib.hid (T8.blk (KO2.out.old (.cells (pcells q qv) 63)) (fun hm => by have := hne _ hm; omega))
                  have HBa := Lib.hid ((HB2.out.alloc HB2.out.size (.cells (pcells q qv) 63)).trans (T8.below (by have := HB2.out.size; simp; omega) (fun y hy => by have := hne y hy; omega)))
                  have OCa : Hid (OwnL wa (w.heap.size + 3) 48 5 (.slice Ac nc cc) ((cshown m.consts).map fun c => (ccells c).toList)) := Lib.hid (T8.owns (World.ownsRow.alloc OC2.out _) (fun g hg hm => by simp only [Option.mem_toList, Option.mem_def] at hm; exact own_ne OP2.out.own OC2.out (by decide) g g hm hg rfl))
                  have OVa : Hid (OwnL wa (w.heap.size + 3) 73 5 (.slice Av nvv cv9) (vrows acc)) := Lib.hid (T8.owns (World.ownsRow.alloc OV2.out _) (fun g hg hm => by simp only [Option.mem_toList, Option.mem_def] at hm; exact own_ne OP2.out.own OV2.out (by decide) g g hm hg rfl))
                  have OPa := Lib.hid (show OwnPs wa (w.heap.size + 3) v' (pcc ++ [q]) (pvs ++ [qv]) from OwnPs.push (OP2.out.touch TA.out (fun y h => by cases h)) (OwnL.touch OQ2.out TA.out (fun y h => by cases h)) T8 (by rw [prows_snoc OP2.out.len]; exact ownL_push (by rw [prows_len OP2.out.len]; have h := hown8; rw [OP2.out.len, Nat.min_self] at h; exact h)))
                  clear hown8 hgrow8 T8 TA hne y3 hl KM2 KO2 KR2 HB2 OC2 OV2 OP2 OQ2 KY2
                  obtain ⟨A', un', uc', hv'⟩ := OwnL.form OPa.out.own
                  subst hv'
                  have y3 := KOa.out.cell 3
                  have ff3 := KOa.out.frozen 3
                  have TS := Lib.hid (Touch.set wa ⟨w.heap.size + 1 + 1, 3, none⟩ (.slice A' un' uc'))
                  have KOb : Hid (Blk (wa.setCell ⟨w.heap.size + 1 + 1, 3, none⟩ (.slice A' un' uc')) (w.heap.size + 1 + 1) (scells ⟨m.name, [], [], []⟩ (.slice Ac nc cc) (.slice Av nvv cv9) (.slice A' un' uc')) 26) := Lib.hid (KOa.out.set 3 _)
                  have KMb := Lib.hid (TS.out.blk KMa.out (by simp only [List.mem_singleton]; omega))
                  have KRb := Lib.hid (TS.out.blk KRa.out (by simp only [List.mem_singleton]; omega))
                  have HBb := Lib.hid (HBa.out.trans (TS.out.below HBa.out.size (fun y hy => by simp only [List.mem_singleton] at hy; omega)))
                  have OCb := Lib.hid (OwnL.touch OCa.out TS.out (fun y hy => by simp only [List.mem_singleton] at hy; omega))
                  have OVb := Lib.hid (OwnL.touch OVa.out TS.out (fun y hy => by simp only [List.mem_singleton] at hy; omega))
                  have OPb := Lib.hid (OPa.out.touch TS.out (fun y hy => by simp only [List.mem_singleton] at hy; omega))
                  go_wp2_with fail
                  go_roundw
                  case rel => exact ⟨k + 1, _, _, _, by omega, by go_num, HPC2, KMb, KRb, KOb, HBb, OCb, OVb, OPb⟩
                  case measure => simp [intOf]; omega
            · obtain rfl : k = m.procs.length := by omega
              rw [List.take_length] at HPC
              clear R3 hlt hk
              have OWN := Lib.hid (show SmOwn wr (w.heap.size + 3) ⟨m.name, cshown m.consts, acc, pcc⟩ (.slice Ac nc cc) (.slice Av nvv cv9) (.slice Ap np cp) pvs from ⟨of_fit HFT.out HAC.out HPC.out, OC.out, OV.out, OP.out⟩)
              have KS := Lib.hid (show Blk wr (w.heap.size + 1 + 1) (scells ⟨m.name, cshown m.consts, acc, pcc⟩ (.slice Ac nc cc) (.slice Av nvv cv9) (.slice Ap np cp)) 26 from KO.out)
              clear OC OV OP KO
              have hlS := load_blk Try.underlying26 rfl sz_sym KS.out rfl
              by_cases hok : smOk ⟨m.name, cshown m.consts, acc, pcc⟩
              · have H1 := Lib.hid (right_any (w := wr) ⟨m.name, cshown m.consts, acc, pcc⟩ OWN.out.at (q := true) ⟨fun _ => hok, fun _ => rfl⟩)
                have HAN := Lib.hid (OfAns.right (m := m) acc pcc HAC.out HPC.out hok)
                clear hok
                go_wp2_with (go_at_call 10; refine H1.out.mono ?_; rintro e w12 ⟨rfl, hb12⟩; have KR12 := Lib.hid (KR.out.step hb12); have KS12 := Lib.hid (KS.out.step hb12); have OWN12 := Lib.hid (OWN.out.below hb12); have HB12 := Lib.hid (HB.out.trans (hb12.mono HB.out.size)); clear hb12; have hl12 := load_blk Try.underlying26 rfl sz_sym KS12.out rfl; have hst12 := store_blk sz_sym KR12.out rfl rfl (scells_one ⟨m.name, cshown m.consts, acc, pcc⟩ (cv := (.slice Ac nc cc)) (vv := (.slice Av nvv cv9)) (pv := (.slice Ap np cp)) rfl rfl rfl); have hres := loadVar_blk Try.underlying26 rfl sz_sym (KR12.out.setRow (scells ⟨m.name, cshown m.consts, acc, pcc⟩ (.slice Ac nc cc) (.slice Av nvv cv9) (.slice Ap np cp))) rfl)
                have OWNF := Lib.hid ((OWN12.out.touch (Touch.row w12 (w.heap.size + 1) (scells ⟨m.name, cshown m.consts, acc, pcc⟩ (.slice Ac nc cc) (.slice Av nvv cv9) (.slice Ap np cp))) (fun x hx => by simp only [List.mem_singleton] at hx; omega)).weak (B' := w.heap.size) (by omega))
                refine bodyPost_ret (v := .tuple #[.agg (scells ⟨m.name, cshown m.consts, acc, pcc⟩ (.slice Ac nc cc) (.slice Av nvv cv9) (.slice Ap np cp)), .int .i64 0]) ?_ rfl ⟨_, 0, _, _, _, pvs, rfl, HAN.out, OWNF.out, belRow1 HB12.out _⟩
                simp [results, Try.results17, asAddr, hres]
              · have H1 := Lib.hid (right_any (w := wr) ⟨m.name, cshown m.consts, acc, pcc⟩ OWN.out.at (q := false) ⟨(fun h => by cases h), fun h => absurd h hok⟩)
                have HAN := Lib.hid (OfAns.form (m := m) acc pcc HAC.out HPC.out hok)
                clear hok
                go_wp2_with (go_at_call 10; refine H1.out.mono ?_; rintro e w12 ⟨rfl, hb12⟩; have KR12 := Lib.hid (KR.out.step hb12); have HB12 := Lib.hid (HB.out.trans (hb12.mono HB.out.size)); clear hb12; have hst12 := store_blk sz_sym KR12.out rfl rfl zSym_one; have hres := loadVar_blk Try.underlying26 rfl sz_sym (KR12.out.setRow zSym) rfl)
                refine bodyPost_ret (v := .tuple #[.agg zSym, .int .i64 130]) ?_ rfl ⟨noSym, 130, _, _, _, [], rfl, HAN.out, noSym_own _ _, belRow1 HB12.out _⟩
                simp [results, Try.results17, asAddr, hres]
end
end Go.Proofs.Ytgemnmceflcpcaa
