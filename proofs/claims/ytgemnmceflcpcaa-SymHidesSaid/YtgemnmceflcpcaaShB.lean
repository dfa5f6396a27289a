/- A procedure as it is shown. -/
import Derived.Test.YtgemnmceflcpcaaShA
namespace Go.Proofs.Ytgemnmceflcpcaa
open Go Go.RowKit Go.Lib Go.Proofs.Ytgemnmceflcpcaa.Sy
set_option linter.unusedVariables false
set_option linter.unusedSimpArgs false
/-- Each turned, or none of them. -/
def allF {α β : Type} (f : α → Option β) : List α → Option (List β)
  | [] => some []
  | x :: l => match f x with
    | none => none
    | some y => match allF f l with
      | none => none
      | some ys => some (y :: ys)
theorem allF_snoc {α β : Type} {f : α → Option β} {x : α} {y : β} (hx : f x = some y) : ∀ {l : List α} {ys : List β}, allF f l = some ys → allF f (l ++ [x]) = some (ys ++ [y])
  | [], ys, h => by cases h; simp [allF, hx]
  | a :: l, ys, h => by
    unfold allF at h
    cases ha : f a with
    | none => rw [ha] at h; cases h
    | some b =>
      rw [ha] at h
      cases hl : allF f l with
      | none => simp [hl] at h
      | some zs =>
        simp only [hl] at h; cases h
        simp only [List.cons_append, allF, ha, allF_snoc hx hl]
theorem allF_none {α β : Type} {f : α → Option β} {x : α} (hx : f x = none) : ∀ {l : List α} {k : Nat}, l[k]? = some x → allF f l = none
  | [], k, h => by simp at h
  | a :: l, 0, h => by simp at h; subst h; unfold allF; rw [hx]
  | a :: l, k + 1, h => by
    rw [List.getElem?_cons_succ] at h
    unfold allF
    cases f a with
    | none => rfl
    | some b => simp only [allF_none hx h]
theorem allF_len {α β : Type} {f : α → Option β} : ∀ {l : List α} {ys : List β}, allF f l = some ys → ys.length = l.length
  | [], ys, h => by cases h; rfl
  | a :: l, ys, h => by
    unfold allF at h
    cases ha : f a with
    | none => rw [ha] at h; cases h
    | some b =>
      rw [ha] at h
      cases hl : allF f l with
      | none => simp [hl] at h
      | some zs =>
        simp only [hl] at h; cases h
        simp [allF_len hl]
def parF (l : List Ty) (v : Vd) : Option Vr := if (shapeF l v.type 9).1 = 0 then none else some ⟨⟨#[]⟩, (shapeF l v.type 9).1, 0, (shapeF l v.type 9).2, v.ref⟩
def procF (l : List Ty) (p : Pd) : Option Pr :=
  if p.params < 0 ∨ p.vars.length < p.params ∨ 8 < p.params then none else
    match allF (parF l) (p.vars.take p.params.toNat) with
    | none => none
    | some ps => if p.result = 0 then some ⟨p.name, ps, 0⟩ else
      if (shapeF l p.result 0).1 = 0 ∨ (shapeF l p.result 0).2 = true then none else some ⟨p.name, ps, (shapeF l p.result 0).1⟩
@[reducible] def vdcells (v : Vd) : Array Value := #[.string v.name, .int .i64 v.type, .bool v.shown, .bool v.ref]
@[reducible] def pdcells (p : Pd) (vv bv ev : Value) : Array Value := #[.string p.name, .bool p.shown, .int .i64 p.params, vv, .int .i64 p.result, bv, ev]
theorem sz_vd : (Try.prog.info? 50).map (·.size) = some 4 := by kernel_rfl
theorem sz_pd : (Try.prog.info? 53).map (·.size) = some 7 := by kernel_rfl
theorem sz_mod : (Try.prog.info? 46).map (·.size) = some 10 := by kernel_rfl
theorem vdcells_one (c : Vd) : OneRow (vdcells c) := by
  intro v hv
  simp only [vdcells, List.mem_toArray, List.mem_cons, List.not_mem_nil, or_false] at hv
  rcases hv with rfl | rfl | rfl | rfl <;> rfl
theorem pdcells_one (p : Pd) {vv bv ev : Value} (h1 : vv.oneCell' = true) (h2 : bv.oneCell' = true) (h3 : ev.oneCell' = true) : OneRow (pdcells p vv bv ev) := by
  intro v hv
  simp only [pdcells, List.mem_toArray, List.mem_cons, List.not_mem_nil, or_false] at hv
  rcases hv with rfl | rfl | rfl | rfl | rfl | rfl | rfl <;> first | rfl | assumption
theorem exec_load_vd (ρ : Operand → Value) (dst : Option Tmp) (x : Operand) (ty' : TypeId) (pos : String) (after : Array Edge) (guard : Option (Nat × Bool)) :
    execOp ρ ⟨dst, .load 50 x, ty', pos, after, guard⟩ = (do pure (.value (← loadWhole 50 (ρ x)))) := rfl
theorem exec_store_vd (ρ : Operand → Value) (dst : Option Tmp) (x y : Operand) (ty' : TypeId) (pos : String) (after : Array Edge) (guard : Option (Nat × Bool)) :
    execOp ρ ⟨dst, .store 50 x y, ty', pos, after, guard⟩ = (do storeWhole 50 (ρ x) (ρ y); pure .skip) := rfl
theorem exec_load_pd (ρ : Operand → Value) (dst : Option Tmp) (x : Operand) (ty' : TypeId) (pos : String) (after : Array Edge) (guard : Option (Nat × Bool)) :
    execOp ρ ⟨dst, .load 53 x, ty', pos, after, guard⟩ = (do pure (.value (← loadWhole 53 (ρ x)))) := rfl
theorem exec_store_pd (ρ : Operand → Value) (dst : Option Tmp) (x y : Operand) (ty' : TypeId) (pos : String) (after : Array Edge) (guard : Option (Nat × Bool)) :
    execOp ρ ⟨dst, .store 53 x y, ty', pos, after, guard⟩ = (do storeWhole 53 (ρ x) (ρ y); pure .skip) := rfl
theorem exec_load_mod (ρ : Operand → Value) (dst : Option Tmp) (x : Operand) (ty' : TypeId) (pos : String) (after : Array Edge) (guard : Option (Nat × Bool)) :
    execOp ρ ⟨dst, .load 46 x, ty', pos, after, guard⟩ = (do pure (.value (← loadWhole 46 (ρ x)))) := rfl
theorem exec_store_mod (ρ : Operand → Value) (dst : Option Tmp) (x y : Operand) (ty' : TypeId) (pos : String) (after : Array Edge) (guard : Option (Nat × Bool)) :
    execOp ρ ⟨dst, .store 46 x y, ty', pos, after, guard⟩ = (do storeWhole 46 (ρ x) (ρ y); pure .skip) := rfl
attribute [local go_sem ↓] exec_load_const exec_store_const exec_load_var exec_store_var exec_load_proc exec_store_proc exec_load_sym exec_store_sym exec_load_vd exec_store_vd exec_load_pd exec_store_pd exec_load_mod exec_store_mod
@[reducible] def zVd : Array Value := #[.string ⟨#[]⟩, .int .i64 0, .bool false, .bool false]
/-- Variables of a module as they lie. -/
structure VdsAt (w : World) (v : Value) (l : List Vd) : Prop where
  rows : RowsAt w v 4 (l.map fun c => (vdcells c).toList)
  fit : ∀ c ∈ l, c.name.size ≤ maxLen ∧ (Lit.int .i64 c.type).wf = true
theorem VdsAt.below {w w' : World} {v : Value} {l : List Vd} (h : VdsAt w v l) (b : Below w.heap.size w w') : VdsAt w' v l := ⟨h.rows.below b, h.fit⟩
/-- What proc answers. -/
def PrcP (l : List Ty) (p : Pd) (w : World) (e : Ending) (w' : World) : Prop :=
  ∃ q pv, e = .returned (.tuple #[.agg (pcells q pv), .bool (procF l p).isSome]) ∧ pv.oneCell' = true ∧ Below w.heap.size w w' ∧ ∀ q', procF l p = some q' → q = q' ∧ OwnL w' w.heap.size 73 5 pv (vrows q.params)
theorem belRow1 {w0 w : World} (h : Below w0.heap.size w0 w) (X : Array Value) : Below w0.heap.size w0 (w.setRow (w0.heap.size + 1) X) := h.trans ((Touch.row w (w0.heap.size + 1) X).below h.size (fun g hg => by simp only [List.mem_singleton] at hg; omega))
theorem shapeF_bd {l : List Ty} {t arr : Int} : 0 ≤ (shapeF l t arr).1 ∧ (shapeF l t arr).1 ≤ 5 := by
  unfold shapeF
  split
  · split
    · next h => exact ⟨by have := h.1; simp only; omega, h.2⟩
    · split
      · next h => exact ⟨by have := h.2.2.2.1; simp only; omega, h.2.2.2.2⟩
      · exact ⟨by decide, by decide⟩
  · exact ⟨by decide, by decide⟩
theorem procF_bad {l : List Ty} {p : Pd} (h : p.params < 0 ∨ p.vars.length < p.params ∨ 8 < p.params) : procF l p = none := by unfold procF; rw [if_pos h]
theorem procF_pars {l : List Ty} {p : Pd} (h : allF (parF l) (p.vars.take p.params.toNat) = none) : procF l p = none := by
  unfold procF
  split
  · rfl
  · rw [h]
theorem procF_res {l : List Ty} {p : Pd} (h0 : ¬ (p.params < 0 ∨ p.vars.length < p.params ∨ 8 < p.params)) {ps : List Vr} (h : allF (parF l) (p.vars.take p.params.toNat) = some ps) :
    procF l p = if p.result = 0 then some ⟨p.name, ps, 0⟩ else if (shapeF l p.result 0).1 = 0 ∨ (shapeF l p.result 0).2 = true then none else some ⟨p.name, ps, (shapeF l p.result 0).1⟩ := by
  unfold procF; rw [if_neg h0, h]
theorem parF_none {l : List Ty} {v : Vd} (h : (shapeF l v.type 9).1 = 0) : parF l v = none := by unfold parF; rw [if_pos h]
theorem parF_some {l : List Ty} {v : Vd} (h : (shapeF l v.type 9).1 ≠ 0) : parF l v = some ⟨⟨#[]⟩, (shapeF l v.type 9).1, 0, (shapeF l v.type 9).2, v.ref⟩ := by unfold parF; rw [if_neg h]
theorem info_symvar : (Try.prog.info? 73).map (fun i => (i.zero, i.size, i.bytes)) = some (some (.agg #[.string ⟨#[]⟩, .int .i64 0, .int .i64 0, .bool false, .bool false]), 5, 40) := by kernel_rfl
section
variable {w : World}
set_option maxHeartbeats 8000000 in
set_option maxRecDepth 100000 in
theorem proc_any {A : Option Addr} {cap : Nat} {l : List Ty} (hT : TysAt w A cap l) (p : Pd) {vv bv ev : Value} (hV : VdsAt w vv p.vars) (hb : bv.oneCell' = true) (he : ev.oneCell' = true) :
    Calls Try.prog 49 #[.slice A l.length cap, .agg (pdcells p vv bv ev)] w (PrcP l p w) := by
  obtain ⟨nm, sh, np, vs, rs⟩ := p
  simp only at hV
  obtain ⟨A1, cap1, rfl, c11, c12, R1⟩ := list_of hV.rows (List.length_map _)
  have hvo : (Value.slice A1 vs.length cap1).oneCell' = true := rfl
  have HTY := Lib.hid hT
  have HVV := Lib.hid hV
  have R1 := Lib.hid R1
  unfold maxLen at c12
  have HB := Lib.hid ((((Below.refl w.heap.size w).alloc (Nat.le_refl _) (.cells (pdcells ⟨nm, sh, np, vs, rs⟩ (.slice A1 vs.length cap1) bv ev) 53)).alloc (by simp) (.cells zPrc 63)).alloc (by simp; omega) (.cells (pcells ⟨nm, [], 0⟩ (.slice none 0 0)) 63))
  have KX := Lib.hid (((Blk.new w (pdcells ⟨nm, sh, np, vs, rs⟩ (.slice A1 vs.length cap1) bv ev) 53).old (.cells zPrc 63)).old (.cells (pcells ⟨nm, [], 0⟩ (.slice none 0 0)) 63))
  have KR := Lib.hid ((Blk.new (w.alloc (.cells (pdcells ⟨nm, sh, np, vs, rs⟩ (.slice A1 vs.length cap1) bv ev) 53)) zPrc 63).old (.cells (pcells ⟨nm, [], 0⟩ (.slice none 0 0)) 63))
  have KO := Lib.hid (Blk.new ((w.alloc (.cells (pdcells ⟨nm, sh, np, vs, rs⟩ (.slice A1 vs.length cap1) bv ev) 53)).alloc (.cells zPrc 63)) (pcells ⟨nm, [], 0⟩ (.slice none 0 0)) 63)
  have hz3 : w.heap.size + 3 ≤ (((w.alloc (.cells (pdcells ⟨nm, sh, np, vs, rs⟩ (.slice A1 vs.length cap1) bv ev) 53)).alloc (.cells zPrc 63)).alloc (.cells (pcells ⟨nm, [], 0⟩ (.slice none 0 0)) 63)).heap.size := by simp
  have x0 := ((Blk.new w (pdcells ⟨nm, sh, np, vs, rs⟩ (.slice A1 vs.length cap1) bv ev) 53).old (.cells zPrc 63)).cell 0
  have x0b := (((Blk.new w (pdcells ⟨nm, sh, np, vs, rs⟩ (.slice A1 vs.length cap1) bv ev) 53).old (.cells zPrc 63)).old (.cells zPrc 63)).cell 0
  have hst := store_blk_new ((w.alloc (.cells (pdcells ⟨nm, sh, np, vs, rs⟩ (.slice A1 vs.length cap1) bv ev) 53)).alloc (.cells zPrc 63)) zPrc (pcells ⟨nm, [], 0⟩ (.slice none 0 0)) 63 sz_proc rfl rfl (pcells_one _ rfl)
  have h1 := pdcells_one ⟨nm, sh, np, vs, rs⟩ (vv := .slice A1 vs.length cap1) hvo hb he
  simp only [World.size_alloc] at KR KO hst
  clear hT hV
  go_enter Try.func49, Try.ntmps49
  go_upto_region 2 with fail
  clear hst x0 x0b h1
  generalize ((w.alloc (.cells (pdcells ⟨nm, sh, np, vs, rs⟩ (.slice A1 vs.length cap1) bv ev) 53)).alloc (.cells zPrc 63)).alloc (.cells (pcells ⟨nm, [], 0⟩ (.slice none 0 0)) 63) = w3 at KX KO KR HB hz3 ⊢
  by_cases n0 : np < 0
  · clear R1
    have HPN := Lib.hid (show procF l ⟨nm, sh, np, vs, rs⟩ = none from procF_bad (by simp only; omega))
    have hlO := load_blk Try.underlying63 rfl sz_proc KO.out rfl
    have hstR := store_blk sz_proc KR.out rfl rfl (pcells_one ⟨nm, [], 0⟩ (pv := (.slice none 0 0)) rfl)
    have hres := loadVar_blk Try.underlying63 rfl sz_proc (KR.out.setRow (pcells ⟨nm, [], 0⟩ (.slice none 0 0))) rfl
    have y2 := KX.out.cell 2
    have y3 := KX.out.cell 3
    go_wp2_with fail
    refine bodyPost_ret (v := .tuple #[.agg (pcells ⟨nm, [], 0⟩ (.slice none 0 0)), .bool false]) ?_ rfl ⟨_, _, by rw [HPN.out]; rfl, rfl, belRow1 HB.out _, fun q' hq => by rw [HPN.out] at hq; cases hq⟩
    simp [results, Try.results49, asAddr, hres]
  by_cases n1 : (vs.length : Int) < np
  · clear R1
    have HPN := Lib.hid (show procF l ⟨nm, sh, np, vs, rs⟩ = none from procF_bad (by simp only; omega))
    have hlO := load_blk Try.underlying63 rfl sz_proc KO.out rfl
    have hstR := store_blk sz_proc KR.out rfl rfl (pcells_one ⟨nm, [], 0⟩ (pv := (.slice none 0 0)) rfl)
    have hres := loadVar_blk Try.underlying63 rfl sz_proc (KR.out.setRow (pcells ⟨nm, [], 0⟩ (.slice none 0 0))) rfl
    have y2 := KX.out.cell 2
    have y3 := KX.out.cell 3
    go_wp2_with fail
    refine bodyPost_ret (v := .tuple #[.agg (pcells ⟨nm, [], 0⟩ (.slice none 0 0)), .bool false]) ?_ rfl ⟨_, _, by rw [HPN.out]; rfl, rfl, belRow1 HB.out _, fun q' hq => by rw [HPN.out] at hq; cases hq⟩
    simp [results, Try.results49, asAddr, hres]
  by_cases n2 : 8 < np
  · clear R1
    have HPN := Lib.hid (show procF l ⟨nm, sh, np, vs, rs⟩ = none from procF_bad (by simp only; omega))
    have hlO := load_blk Try.underlying63 rfl sz_proc KO.out rfl
    have hstR := store_blk sz_proc KR.out rfl rfl (pcells_one ⟨nm, [], 0⟩ (pv := (.slice none 0 0)) rfl)
    have hres := loadVar_blk Try.underlying63 rfl sz_proc (KR.out.setRow (pcells ⟨nm, [], 0⟩ (.slice none 0 0))) rfl
    have y2 := KX.out.cell 2
    have y3 := KX.out.cell 3
    go_wp2_with fail
    refine bodyPost_ret (v := .tuple #[.agg (pcells ⟨nm, [], 0⟩ (.slice none 0 0)), .bool false]) ?_ rfl ⟨_, _, by rw [HPN.out]; rfl, rfl, belRow1 HB.out _, fun q' hq => by rw [HPN.out] at hq; cases hq⟩
    simp [results, Try.results49, asAddr, hres]
  obtain ⟨k, rfl⟩ := Int.eq_ofNat_of_zero_le (show 0 ≤ np by omega)
  have hk0 : (0 : Int) ≤ (k : Int) := by omega
  have hk1 : (k : Int) ≤ (vs.length : Int) := by omega
  have hk8 : (k : Int) ≤ 8 := by omega
  have hkc : k ≤ cap1 := by omega
  have HGD := Lib.hid (show ¬ ((k : Int) < 0 ∨ (vs.length : Int) < k ∨ 8 < (k : Int)) by omega)
  clear n0 n1 n2
  obtain ⟨i0, hi, hz0, hz1, hz2⟩ := info_parts info_symvar
  have HI := Lib.hid hi
  have HZ0 := Lib.hid hz0
  have HZ1 := Lib.hid hz1
  have HZ2 := Lib.hid hz2
  clear hi hz0 hz1 hz2
  have y2 := KX.out.cell 2
  have y3 := KX.out.cell 3
  go_wp2_with fail
  clear y2 y3
  go_loopw [8, 9, 10, 39] (fun pz fz oz i wr => ∃ (j : Nat) (acc : List Vr) (u : Value), j ≤ k ∧ i = .int .i64 j ∧ Hid (allF (parF l) (vs.take j) = some acc) ∧ Hid (Blk wr w.heap.size (pdcells ⟨nm, sh, k, vs, rs⟩ (.slice A1 vs.length cap1) bv ev) 53) ∧ Hid (Blk wr (w.heap.size + 1 + 1) (pcells ⟨nm, acc, 0⟩ u) 63) ∧ Hid (Blk wr (w.heap.size + 1) zPrc 63) ∧ Hid (Below w.heap.size w wr) ∧ Hid (OwnL wr (w.heap.size + 3) 73 5 u (vrows acc))) (fun _ _ _ i _ => k - (intOf i).toNat)
  case atStart => exact ⟨0, [], _, Nat.zero_le _, rfl, Lib.hid rfl, KX, KO, KR, HB, Lib.hid (World.ownsRow_nil _ _ _ _)⟩
  case round =>
    clear KX KO KR HB
    obtain ⟨j, acc, u, hj, rfl, HAC, KX, KO, KR, HB, OW⟩ := hrel
    obtain ⟨Au, un, uc, hu⟩ := OwnL.form OW.out
    subst hu
    by_cases hlt : j < k
    · obtain ⟨x, hx⟩ : ∃ x, vs[j]? = some x := ⟨vs[j]'(by omega), List.getElem?_eq_getElem _⟩
      rcases R1.out with hz | ⟨b, off, rfl, hb1, hr⟩
      · omega
      have hl := load_mid (w := wr) Try.underlying50 rfl sz_vd (range_below (hr j (vdcells x).toList (by rw [List.getElem?_map, hx]; rfl)) HB.out hb1) rfl
      have hst := store_blk_new wr zVd (vdcells x) 50 sz_vd rfl rfl (vdcells_one x)
      have hj0 : (0 : Int) ≤ (j : Int) := by omega
      have hj1 : (j : Int) < (k : Int) := by omega
      have HX := Lib.hid hx
      have HAL := Lib.hid (show acc.length ≤ j by have := allF_len HAC.out; rw [List.length_take] at this; omega)
      clear hx hr
      go_upto_region 7 with fail
      clear hl hst
      have KV1 := Lib.hid (Blk.new wr (vdcells x) 50)
      have KX1 := Lib.hid (KX.out.old (.cells (vdcells x) 50))
      have KO1 := Lib.hid (KO.out.old (.cells (vdcells x) 50))
      have KR1 := Lib.hid (KR.out.old (.cells (vdcells x) 50))
      have HB1 := Lib.hid (HB.out.alloc HB.out.size (.cells (vdcells x) 50))
      have OW1 := Lib.hid (show OwnL (wr.alloc (.cells (vdcells x) 50)) _ _ _ _ _ from World.ownsRow.alloc OW.out _)
      have hgo := KO.out.lt
      have HNV := Lib.hid (show ∀ g, (Value.slice Au un uc).ownBlock = some g → g ≠ wr.heap.size from fun g hg => by have := (own_lt OW.out g hg).1; omega)
      generalize wr.heap.size = gv at KV1 hgo HNV ⊢
      generalize wr.alloc (.cells (vdcells x) 50) = w1 at KV1 KX1 KO1 KR1 HB1 OW1 ⊢
      clear KX KO KR HB OW
      have y1 := KV1.out.cell 1
      have H1 := Lib.hid (shape_any (HTY.out.below HB1.out) x.type 9)
      have HPS := Lib.hid (fun (h : (shapeF l x.type 9).1 = 0) => parF_none (l := l) (v := x) h)
      have HPT := Lib.hid (fun (h : (shapeF l x.type 9).1 ≠ 0) => parF_some (l := l) (v := x) h)
      obtain ⟨F, hF⟩ : ∃ F, (shapeF l x.type 9).1 = F := ⟨_, rfl⟩
      obtain ⟨O, hO⟩ : ∃ O, (shapeF l x.type 9).2 = O := ⟨_, rfl⟩
      rw [hF, hO] at H1 HPT
      rw [hF] at HPS
      clear hF hO
      go_upto_region 8 with (go_at_call 48; refine H1.out.mono ?_; rintro e w2 ⟨rfl, rfl⟩)
      clear y1
      by_cases hF0 : F = 0
      · subst hF0
        have HPN := Lib.hid (show procF l ⟨nm, sh, k, vs, rs⟩ = none from procF_pars (allF_none (HPS.out rfl) (k := j) (by simp only [Int.toNat_natCast]; rw [List.getElem?_take_of_lt hlt]; exact HX.out)))
        have hlO := load_blk Try.underlying63 rfl sz_proc KO1.out rfl
        have hstR := store_blk sz_proc KR1.out rfl rfl (pcells_one ⟨nm, acc, 0⟩ (pv := (.slice Au un uc)) rfl)
        have hres := loadVar_blk Try.underlying63 rfl sz_proc (KR1.out.setRow (pcells ⟨nm, acc, 0⟩ (.slice Au un uc))) rfl
        go_wp2_with fail
        refine bodyPost_ret (v := .tuple #[.agg (pcells ⟨nm, acc, 0⟩ (.slice Au un uc)), .bool false]) ?_ rfl ⟨_, _, by rw [HPN.out]; rfl, rfl, belRow1 HB1.out _, fun q' hq => by rw [HPN.out] at hq; cases hq⟩
        simp [results, Try.results49, asAddr, hres]
      · have hF1 : (F == 0) = false := by simpa using hF0
        have HPY := Lib.hid (HPT.out hF0)
        have y3 := KV1.out.cell 3
        have y1 := KO1.out.cell 1
        have HAC2 := Lib.hid (show allF (parF l) (vs.take (j + 1)) = some (acc ++ [⟨⟨#[]⟩, F, 0, O, x.ref⟩]) by rw [take_snoc HX.out]; exact allF_snoc HPY.out HAC.out)
        clear hF0 HPS HPT
        go_wp2_with (at_builtin; refine wpList_append_own _ rfl _ _ 23 rfl (w.heap.size + 3) 73 i0 (.agg #[.string ⟨#[]⟩, .int .i64 0, .int .i64 0, .bool false, .bool false]) 5 40 Try.underlying23 HI.out HZ0.out HZ1.out HZ2.out rfl (by decide) _ _ _ rfl (World.ownsRow.alloc OW1.out _) ⟨w1.heap.size, 0, none⟩ 1 1 (vcells ⟨⟨#[]⟩, F, 0, O, x.ref⟩).toList rfl rfl ?d1 ?d2 ?d3 ?d4 ?d5 ?_)
        case d2 => exact ⟨rfl, rfl, rfl, rfl, rfl⟩
        case d3 => rw [List.length_map]; have := HAL.out; unfold maxLen; omega
        case d4 => rw [List.length_map]; have := HAL.out; omega
        case d5 => have := KO1.out.lt; simp; omega
        intro v' wa hown8 hgrow8 _
        have T8 := Touch.of_grown hgrow8
        have hne : ∀ y ∈ (Value.slice Au un uc).ownBlock.toList, w.heap.size + 3 ≤ y := fun y hy => by simp only [Option.mem_toList, Option.mem_def] at hy; exact (own_lt OW1.out y hy).2
        have KXa := Lib.hid (T8.blk (KX1.out.old (.cells (vcells ⟨⟨#[]⟩, F, 0, O, x.ref⟩) 73)) (fun hm => by have := hne _ hm; omega))
        have KOa := Lib.hid (T8.blk (KO1.out.old (.cells (vcells ⟨⟨#[]⟩, F, 0, O, x.ref⟩) 73)) (fun hm => by have := hne _ hm; omega))
        have KRa := Lib.hid (T8.blk (KR1.out.old (.cells (vcells ⟨⟨#[]⟩, F, 0, O, x.ref⟩) 73)) (fun hm => by have := hne _ hm; omega))
        have HBa := Lib.hid ((HB1.out.alloc HB1.out.size (.cells (vcells ⟨⟨#[]⟩, F, 0, O, x.ref⟩) 73)).trans (T8.below (by have := HB1.out.size; simp; omega) (fun y hy => by have := hne y hy; omega)))
        have OWa := Lib.hid (show OwnL wa (w.heap.size + 3) 73 5 v' (vrows (acc ++ [⟨⟨#[]⟩, F, 0, O, x.ref⟩])) by unfold vrows; rw [List.map_append]; exact ownL_push (by rw [List.length_map]; exact hown8))
        clear hown8 hgrow8 T8 hne y1 y3 KX1 KO1 KR1 HB1 OW1 KV1
        obtain ⟨A', un', uc', hv'⟩ := OwnL.form OWa.out
        subst hv'
        have y1 := KOa.out.cell 1
        have ff1 := KOa.out.frozen 1
        have TS := Lib.hid (Touch.set wa ⟨w.heap.size + 1 + 1, 1, none⟩ (.slice A' un' uc'))
        have KOb : Hid (Blk (wa.setCell ⟨w.heap.size + 1 + 1, 1, none⟩ (.slice A' un' uc')) (w.heap.size + 1 + 1) (pcells ⟨nm, acc ++ [⟨⟨#[]⟩, F, 0, O, x.ref⟩], 0⟩ (.slice A' un' uc')) 63) := Lib.hid (KOa.out.set 1 _)
        have KXb := Lib.hid (TS.out.blk KXa.out (by simp only [List.mem_singleton]; omega))
        have KRb := Lib.hid (TS.out.blk KRa.out (by simp only [List.mem_singleton]; omega))
        have HBb := Lib.hid (HBa.out.trans (TS.out.below HBa.out.size (fun y hy => by simp only [List.mem_singleton] at hy; omega)))
        have OWb := Lib.hid (OwnL.touch OWa.out TS.out (fun y hy => by simp only [List.mem_singleton] at hy; omega))
        go_wp2_with fail
        go_roundw
        case rel => exact ⟨j + 1, _, _, by omega, by go_num, HAC2, KXb, KOb, KRb, HBb, OWb⟩
        case measure => simp [intOf]; omega
    · obtain rfl : j = k := by omega
      have y4 := KX.out.cell 4
      have HCK := Lib.hid (procF_res (l := l) (p := ⟨nm, sh, j, vs, rs⟩) HGD.out (ps := acc) (by simp only [Int.toNat_natCast]; exact HAC.out))
      simp only at HCK
      clear R1 HVV
      by_cases r0 : rs = 0
      · subst r0
        have HPN := Lib.hid (show procF l ⟨nm, sh, j, vs, 0⟩ = some ⟨nm, acc, 0⟩ by rw [HCK.out, if_pos rfl])
        have hlO := load_blk Try.underlying63 rfl sz_proc KO.out rfl
        have hstR := store_blk sz_proc KR.out rfl rfl (pcells_one ⟨nm, acc, 0⟩ (pv := (.slice Au un uc)) rfl)
        have hres := loadVar_blk Try.underlying63 rfl sz_proc (KR.out.setRow (pcells ⟨nm, acc, 0⟩ (.slice Au un uc))) rfl
        clear HCK
        go_wp2_with fail
        have OW9 := Lib.hid (OwnL.touch OW.out (Touch.row wr (w.heap.size + 1) (pcells ⟨nm, acc, 0⟩ (.slice Au un uc))) (fun y hy => by simp only [List.mem_singleton] at hy; omega))
        refine bodyPost_ret (v := .tuple #[.agg (pcells ⟨nm, acc, 0⟩ (.slice Au un uc)), .bool true]) ?_ rfl ⟨_, _, by rw [HPN.out]; rfl, rfl, belRow1 HB.out _, fun q' hq => by rw [HPN.out] at hq; cases hq; exact ⟨rfl, OwnL.weak OW9.out (by omega)⟩⟩
        simp [results, Try.results49, asAddr, hres]
      · have r1 : (rs != 0) = true := by simpa using r0
        have r2 : (rs == 0) = false := by simpa using r0
        rw [if_neg r0] at HCK
        have H1 := Lib.hid (shape_any (HTY.out.below HB.out) rs 0)
        obtain ⟨F, hF⟩ : ∃ F, (shapeF l rs 0).1 = F := ⟨_, rfl⟩
        obtain ⟨O, hO⟩ : ∃ O, (shapeF l rs 0).2 = O := ⟨_, rfl⟩
        rw [hF, hO] at H1 HCK
        clear hF hO r0
        go_upto_region 14 with (go_at_call 48; refine H1.out.mono ?_; rintro e w2 ⟨rfl, rfl⟩)
        by_cases hF0 : F = 0
        · subst hF0
          have HPN := Lib.hid (show procF l ⟨nm, sh, j, vs, rs⟩ = none from by rw [HCK.out, if_pos (.inl rfl)])
          have hlO := load_blk Try.underlying63 rfl sz_proc KO.out rfl
          have hstR := store_blk sz_proc KR.out rfl rfl (pcells_one ⟨nm, acc, 0⟩ (pv := (.slice Au un uc)) rfl)
          have hres := loadVar_blk Try.underlying63 rfl sz_proc (KR.out.setRow (pcells ⟨nm, acc, 0⟩ (.slice Au un uc))) rfl
          go_wp2_with fail
          refine bodyPost_ret (v := .tuple #[.agg (pcells ⟨nm, acc, 0⟩ (.slice Au un uc)), .bool false]) ?_ rfl ⟨_, _, by rw [HPN.out]; rfl, rfl, belRow1 HB.out _, fun q' hq => by rw [HPN.out] at hq; cases hq⟩
          simp [results, Try.results49, asAddr, hres]
        · have hF1 : (F == 0) = false := by simpa using hF0
          cases O with
          | true =>
            have HPN := Lib.hid (show procF l ⟨nm, sh, j, vs, rs⟩ = none from by rw [HCK.out, if_pos (.inr rfl)])
            have hlO := load_blk Try.underlying63 rfl sz_proc KO.out rfl
            have hstR := store_blk sz_proc KR.out rfl rfl (pcells_one ⟨nm, acc, 0⟩ (pv := (.slice Au un uc)) rfl)
            have hres := loadVar_blk Try.underlying63 rfl sz_proc (KR.out.setRow (pcells ⟨nm, acc, 0⟩ (.slice Au un uc))) rfl
            go_wp2_with fail
            refine bodyPost_ret (v := .tuple #[.agg (pcells ⟨nm, acc, 0⟩ (.slice Au un uc)), .bool false]) ?_ rfl ⟨_, _, by rw [HPN.out]; rfl, rfl, belRow1 HB.out _, fun q' hq => by rw [HPN.out] at hq; cases hq⟩
            simp [results, Try.results49, asAddr, hres]
          | false =>
            have HPN := Lib.hid (show procF l ⟨nm, sh, j, vs, rs⟩ = some ⟨nm, acc, F⟩ by rw [HCK.out, if_neg (by simp [hF0])])
            have y2 := KO.out.cell 2
            have ff2 := KO.out.frozen 2
            have TS := Lib.hid (Touch.set wr ⟨w.heap.size + 1 + 1, 2, none⟩ (.int .i64 F))
            have KO2 : Hid (Blk (wr.setCell ⟨w.heap.size + 1 + 1, 2, none⟩ (.int .i64 F)) (w.heap.size + 1 + 1) (pcells ⟨nm, acc, F⟩ (.slice Au un uc)) 63) := Lib.hid (KO.out.set 2 _)
            have KR2 := Lib.hid (TS.out.blk KR.out (by simp only [List.mem_singleton]; omega))
            have HB2 := Lib.hid (HB.out.trans (TS.out.below HB.out.size (fun y hy => by simp only [List.mem_singleton] at hy; omega)))
            have OW2 := Lib.hid (OwnL.touch OW.out TS.out (fun y hy => by simp only [List.mem_singleton] at hy; omega))
            have hlO := load_blk Try.underlying63 rfl sz_proc KO2.out rfl
            have hstR := store_blk sz_proc KR2.out rfl rfl (pcells_one ⟨nm, acc, F⟩ (pv := (.slice Au un uc)) rfl)
            have hres := loadVar_blk Try.underlying63 rfl sz_proc (KR2.out.setRow (pcells ⟨nm, acc, F⟩ (.slice Au un uc))) rfl
            clear HCK hF0
            go_wp2_with fail
            have OW9 := Lib.hid (OwnL.touch OW2.out (Touch.row (wr.setCell ⟨w.heap.size + 1 + 1, 2, none⟩ (.int .i64 F)) (w.heap.size + 1) (pcells ⟨nm, acc, F⟩ (.slice Au un uc))) (fun y hy => by simp only [List.mem_singleton] at hy; omega))
            refine bodyPost_ret (v := .tuple #[.agg (pcells ⟨nm, acc, F⟩ (.slice Au un uc)), .bool true]) ?_ rfl ⟨_, _, by rw [HPN.out]; rfl, rfl, belRow1 HB2.out _, fun q' hq => by rw [HPN.out] at hq; cases hq; exact ⟨rfl, OwnL.weak OW9.out (by omega)⟩⟩
            simp [results, Try.results49, asAddr, hres]
end
end Go.Proofs.Ytgemnmceflcpcaa
