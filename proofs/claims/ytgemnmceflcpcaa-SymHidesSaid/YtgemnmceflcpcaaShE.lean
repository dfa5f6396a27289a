/- What is not exported makes no difference: the law's walk. -/
import Derived.Test.YtgemnmceflcpcaaShD
import Derived.Test.YtgemnmceflcpcaaSbF
import Derived.Test.YtgemnmceflcpcaaSsA
import Derived.Deep.CutBlock
namespace Go.Proofs.Ytgemnmceflcpcaa
open Go Go.RowKit Go.Lib Go.Proofs.Ytgemnmceflcpcaa.Sy
set_option linter.unusedVariables false
set_option linter.unusedSimpArgs false
attribute [local go_sem ↓] exec_load_const exec_store_const exec_load_var exec_store_var exec_load_proc exec_store_proc exec_load_sym exec_store_sym exec_load_vd exec_store_vd exec_load_pd exec_store_pd exec_load_mod exec_store_mod
theorem mem_tl {X : Array Value} {u : Value} (h : u ∈ X.toList) : u ∈ X := by simpa using h
theorem info_vd : (Try.prog.info? 50).map (fun i => (i.zero, i.size, i.bytes)) = some (some (.agg #[.string ⟨#[]⟩, .int .i64 0, .bool false, .bool false]), 4, 32) := by kernel_rfl
theorem info_pd : (Try.prog.info? 53).map (fun i => (i.zero, i.size, i.bytes)) = some (some (.agg #[.string ⟨#[]⟩, .bool false, .int .i64 0, .slice none 0 0, .int .i64 0, .slice none 0 0, .slice none 0 0]), 7, 112) := by kernel_rfl
theorem SmOwn.far {w w' : World} {B : Nat} {s : Sm} {cv vv pv : Value} {pvs : List Value} {r : List Nat} (h : SmOwn w B s cv vv pv pvs) (T : Touch w w' r) (hn : ∀ g ∈ ownR cv vv pv pvs, g ∈ r → False) : SmOwn w' B s cv vv pv pvs := by
  refine ⟨h.fit, T.owns h.c (fun g hg => hn g (by unfold ownR; simp [hg])), T.owns h.v (fun g hg => hn g (by unfold ownR; simp [hg])), ⟨h.p.len, T.owns h.p.own (fun g hg => hn g (by unfold ownR; simp [hg])), fun k p q hp hq => T.owns (h.p.each k p q hp hq) (fun g hg => hn g ?_)⟩⟩
  unfold ownR
  simp only [List.mem_append, List.mem_flatMap]
  exact .inr ⟨q, List.mem_of_getElem? hq, by simp [hg]⟩
theorem PdsAt.below {w w' : World} {v : Value} {l : List Pd} (h : PdsAt w v l) (b : Below w.heap.size w w') : PdsAt w' v l := by
  obtain ⟨xs, h1, h2, h3⟩ := h
  exact ⟨xs, h1, h2.below b, fun k p x hp hx => ⟨(h3 k p x hp hx).1.below b, (h3 k p x hp hx).2⟩⟩
theorem MdAt.below {w w' : World} {m : Md} {A0 : Option Addr} {cap0 : Nat} {cv vv pv : Value} (h : MdAt w m A0 cap0 cv vv pv) (b : Below w.heap.size w w') : MdAt w' m A0 cap0 cv vv pv :=
  ⟨h.fit, h.types.below b, h.c.below b, h.v.below b, h.p.below b, h.ca, h.va, h.pa⟩
@[reducible] def zMod : Array Value := #[.string ⟨#[]⟩, .bool false, .slice none 0 0, .slice none 0 0, .slice none 0 0, .slice none 0 0, .slice none 0 0, .slice none 0 0, .slice none 0 0, .slice none 0 0]
section
variable {w : World}
set_option maxHeartbeats 8000000 in
set_option maxRecDepth 100000 in
theorem hides_any {m : Md} {A0 : Option Addr} {cap0 : Nat} {cv vv pv sb iv yv gv nv : Value} (hM : MdAt w m A0 cap0 cv vv pv) (ca : ArgL cv m.consts.length 56) (va : ArgL vv m.vars.length 32) (pa : ArgL pv m.procs.length 112)
    (h1 : sb.oneCell' = true) (h2 : iv.oneCell' = true) (h3 : yv.oneCell' = true) (h5 : gv.oneCell' = true) (h9 : nv.oneCell' = true)
    (c : Cst) (hc : CFit c) (v : Vd) (hv : v.name.size ≤ maxLen ∧ (Lit.int .i64 v.type).wf = true) (p : Pd) {xv xb xe : Value} (hp : VdsAt w xv p.vars) (hxb : xb.oneCell' = true) (hxe : xe.oneCell' = true) (hpn : p.name.size ≤ maxLen) :
    Calls Try.prog 4 #[.agg (mdcells m.name sb iv yv (.slice A0 m.types.length cap0) gv cv vv pv nv), .agg (ccells c), .agg (vdcells v), .agg (pdcells p xv xb xe)] w fun e w' => e = .returned (.bool true) ∧ Below w.heap.size w w' := by
  have HMD := Lib.hid hM
  obtain ⟨hF, hT, hC, hV, hP, hca, hva, hpa⟩ := hM
  obtain ⟨A1, cap1, rfl, c11, c12, _⟩ := list_of hC.1 (List.length_map _)
  obtain ⟨A2, cap2, rfl, c21, c22, _⟩ := list_of hV.rows (List.length_map _)
  obtain ⟨xs, hxl, hxr, hxe2⟩ := hP
  obtain ⟨A3, cap3, rfl, c31, c32, _⟩ := list_of (n := m.procs.length) hxr (by rw [List.length_zipWith, hxl, Nat.min_self])
  have hone := mdcells_one m.name (cv := .slice A1 m.consts.length cap1) (vv := .slice A2 m.vars.length cap2) (pv := .slice A3 m.procs.length cap3) (tv := .slice A0 m.types.length cap0) h1 h2 h3 rfl h5 rfl rfl rfl h9
  have hxv : xv.oneCell' = true := hp.rows.one
  have hpo := pdcells_one p hxv hxb hxe
  unfold maxLen at c12 c22 c32
  have hcap0 := hT.fit
  have hmax0 := hT.max
  unfold maxLen at hmax0
  have HPO := Lib.hid (show ∀ r ∈ (List.zipWith (fun p x => (pdcells p x.1 x.2.1 x.2.2).toList) m.procs xs), ∀ u ∈ r, u.oneCell' = true from fun r hr u hu => by
    obtain ⟨k, hk, rfl⟩ := List.getElem_of_mem hr
    rw [List.getElem_zipWith] at hu
    have hk1 : k < m.procs.length := by rw [List.length_zipWith] at hk; omega
    obtain ⟨g1, g2, g3, _⟩ := hxe2 k m.procs[k] (xs[k]'(by omega)) (List.getElem?_eq_getElem hk1) (List.getElem?_eq_getElem _)
    exact pdcells_one _ g1.rows.one g2 g3 u (by simpa using hu))
  have HPR := Lib.hid (show ∀ r ∈ (List.zipWith (fun p x => (pdcells p x.1 x.2.1 x.2.2).toList) m.procs xs), r.length = 7 from fun r hr => by
    obtain ⟨k, hk, rfl⟩ := List.getElem_of_mem hr
    rw [List.getElem_zipWith]; rfl)
  have HCR := Lib.hid hC
  have HVR := Lib.hid hV
  have HXR := Lib.hid hxr
  have HZL := Lib.hid (show (List.zipWith (fun p x => (pdcells p x.1 x.2.1 x.2.2).toList) m.procs xs).length = m.procs.length by rw [List.length_zipWith, hxl, Nat.min_self])
  have HXL := Lib.hid hxl
  have HXE := Lib.hid hxe2
  have HFT := Lib.hid hF
  have HTY := Lib.hid hT
  have HCA := Lib.hid ca
  have HVA := Lib.hid va
  have HPA := Lib.hid pa
  have HCF := Lib.hid hc
  have HVF := Lib.hid hv
  have HPV := Lib.hid hp
  have H1 := Lib.hid (And.intro h1 (And.intro h2 (And.intro h3 (And.intro h5 h9))))
  have HXB := Lib.hid (And.intro hxb (And.intro hxe hpn))
  clear hF hT hC hV hxl hxr hxe2 hca hva hpa ca va pa hc hv hp h1 h2 h3 h5 h9 hxb hxe hpn
  have KM := Lib.hid ((((Blk.new w (mdcells m.name sb iv yv (.slice A0 m.types.length cap0) gv (.slice A1 m.consts.length cap1) (.slice A2 m.vars.length cap2) (.slice A3 m.procs.length cap3) nv) 46).old (.cells (ccells c) 48)).old (.cells (vdcells v) 50)).old (.cells (pdcells p xv xb xe) 53))
  have KC := Lib.hid (((Blk.new (w.alloc (.cells (mdcells m.name sb iv yv (.slice A0 m.types.length cap0) gv (.slice A1 m.consts.length cap1) (.slice A2 m.vars.length cap2) (.slice A3 m.procs.length cap3) nv) 46)) (ccells c) 48).old (.cells (vdcells v) 50)).old (.cells (pdcells p xv xb xe) 53))
  have KV := Lib.hid ((Blk.new ((w.alloc (.cells (mdcells m.name sb iv yv (.slice A0 m.types.length cap0) gv (.slice A1 m.consts.length cap1) (.slice A2 m.vars.length cap2) (.slice A3 m.procs.length cap3) nv) 46)).alloc (.cells (ccells c) 48)) (vdcells v) 50).old (.cells (pdcells p xv xb xe) 53))
  have KP := Lib.hid (Blk.new (((w.alloc (.cells (mdcells m.name sb iv yv (.slice A0 m.types.length cap0) gv (.slice A1 m.consts.length cap1) (.slice A2 m.vars.length cap2) (.slice A3 m.procs.length cap3) nv) 46)).alloc (.cells (ccells c) 48)).alloc (.cells (vdcells v) 50)) (pdcells p xv xb xe) 53)
  have HB := Lib.hid (((((Below.refl w.heap.size w).alloc (Nat.le_refl _) (.cells (mdcells m.name sb iv yv (.slice A0 m.types.length cap0) gv (.slice A1 m.consts.length cap1) (.slice A2 m.vars.length cap2) (.slice A3 m.procs.length cap3) nv) 46)).alloc (by simp) (.cells (ccells c) 48)).alloc (by simp; omega) (.cells (vdcells v) 50)).alloc (by simp; omega) (.cells (pdcells p xv xb xe) 53))
  have hz4 : w.heap.size + 4 ≤ ((((w.alloc (.cells (mdcells m.name sb iv yv (.slice A0 m.types.length cap0) gv (.slice A1 m.consts.length cap1) (.slice A2 m.vars.length cap2) (.slice A3 m.procs.length cap3) nv) 46)).alloc (.cells (ccells c) 48)).alloc (.cells (vdcells v) 50)).alloc (.cells (pdcells p xv xb xe) 53)).heap.size := by simp
  have hco := ccells_one c
  have hvo := vdcells_one v
  simp only [World.size_alloc] at KC KV KP
  go_enter Try.func4, Try.ntmps4
  go_upto_region 1 with fail
  clear hone hpo hco hvo
  generalize (((w.alloc (.cells (mdcells m.name sb iv yv (.slice A0 m.types.length cap0) gv (.slice A1 m.consts.length cap1) (.slice A2 m.vars.length cap2) (.slice A3 m.procs.length cap3) nv) 46)).alloc (.cells (ccells c) 48)).alloc (.cells (vdcells v) 50)).alloc (.cells (pdcells p xv xb xe) 53) = w0 at KM KC KV KP HB hz4 ⊢
  go_wp2_with fail
  refine (shown_any (w := w0)).mono ?_
  rintro e w1 ⟨rfl, hb⟩
  have KM1 := Lib.hid (KM.out.step hb)
  have KC1 := Lib.hid (KC.out.step hb)
  have KV1 := Lib.hid (KV.out.step hb)
  have KP1 := Lib.hid (KP.out.step hb)
  have HB1 := Lib.hid (HB.out.trans (hb.mono HB.out.size))
  clear hb KM KC KV KP HB
  have l1 := load_blk Try.underlying46 rfl sz_mod KM1.out rfl
  have HMW := Lib.hid (fun (W : World) (hW : Below w.heap.size w W) => MdAt.below HMD.out hW)
  go_wp2_with fail
  refine (of_any (HMW.out _ HB1.out) H1.out.1 H1.out.2.1 H1.out.2.2.1 H1.out.2.2.2.1 H1.out.2.2.2.2).mono ?_
  rintro e w2 ⟨s, er, cs1, vs1, ps1, pvs1, rfl, han, hs, hb⟩
  have hst := store_blk_new w2 zSym (scells s cs1 vs1 ps1) 26 sz_sym rfl rfl hs.ones
  have bnew := (Below.refl _ w2).alloc (Nat.le_refl _) (.cells (scells s cs1 vs1 ps1) 26)
  have HAN := Lib.hid han
  have HIN := Lib.hid (fun g hg => (ownR_in hs g hg).2)
  have KS3 := Lib.hid (Blk.new w2 (scells s cs1 vs1 ps1) 26)
  have KM3 := Lib.hid ((KM1.out.step hb).step bnew)
  have KC3 := Lib.hid ((KC1.out.step hb).step bnew)
  have KV3 := Lib.hid ((KV1.out.step hb).step bnew)
  have KP3 := Lib.hid ((KP1.out.step hb).step bnew)
  have HS3 := Lib.hid ((hs.below bnew).weak (B' := w.heap.size + 4) (by have := KP1.out.lt; omega))
  have HB3 := Lib.hid ((HB1.out.trans (hb.mono HB1.out.size)).alloc (by have := HB1.out.size; have := hb.size; omega) (.cells (scells s cs1 vs1 ps1) 26))
  have hz5 : w.heap.size + 4 ≤ w2.heap.size := by have := KP1.out.lt; have := hb.size; omega
  clear han hs hb bnew KM1 KC1 KV1 KP1 HB1
  go_upto_region 3 with fail
  clear hst l1
  have hgs : w2.heap.size < (w2.alloc (.cells (scells s cs1 vs1 ps1) 26)).heap.size := KS3.out.lt
  generalize w2.heap.size = gs at KS3 HIN hz5 hgs ⊢
  generalize w2.alloc (.cells (scells s cs1 vs1 ps1) 26) = w3 at KS3 KM3 KC3 KV3 KP3 HS3 HB3 hgs ⊢
  have l1 := load_blk Try.underlying46 rfl sz_mod KM3.out rfl
  have hst := store_blk_new w3 zMod (mdcells m.name sb iv yv (.slice A0 m.types.length cap0) gv (.slice A1 m.consts.length cap1) (.slice A2 m.vars.length cap2) (.slice A3 m.procs.length cap3) nv) 46 sz_mod rfl rfl (mdcells_one m.name (cv := .slice A1 m.consts.length cap1) (vv := .slice A2 m.vars.length cap2) (pv := .slice A3 m.procs.length cap3) (tv := .slice A0 m.types.length cap0) H1.out.1 H1.out.2.1 H1.out.2.2.1 rfl H1.out.2.2.2.1 rfl rfl rfl H1.out.2.2.2.2)
  have KG4 := Lib.hid (Blk.new w3 (mdcells m.name sb iv yv (.slice A0 m.types.length cap0) gv (.slice A1 m.consts.length cap1) (.slice A2 m.vars.length cap2) (.slice A3 m.procs.length cap3) nv) 46)
  have KM4 := Lib.hid (KM3.out.old (.cells (mdcells m.name sb iv yv (.slice A0 m.types.length cap0) gv (.slice A1 m.consts.length cap1) (.slice A2 m.vars.length cap2) (.slice A3 m.procs.length cap3) nv) 46))
  have KC4 := Lib.hid (KC3.out.old (.cells (mdcells m.name sb iv yv (.slice A0 m.types.length cap0) gv (.slice A1 m.consts.length cap1) (.slice A2 m.vars.length cap2) (.slice A3 m.procs.length cap3) nv) 46))
  have KV4 := Lib.hid (KV3.out.old (.cells (mdcells m.name sb iv yv (.slice A0 m.types.length cap0) gv (.slice A1 m.consts.length cap1) (.slice A2 m.vars.length cap2) (.slice A3 m.procs.length cap3) nv) 46))
  have KP4 := Lib.hid (KP3.out.old (.cells (mdcells m.name sb iv yv (.slice A0 m.types.length cap0) gv (.slice A1 m.consts.length cap1) (.slice A2 m.vars.length cap2) (.slice A3 m.procs.length cap3) nv) 46))
  have KS4 := Lib.hid (KS3.out.old (.cells (mdcells m.name sb iv yv (.slice A0 m.types.length cap0) gv (.slice A1 m.consts.length cap1) (.slice A2 m.vars.length cap2) (.slice A3 m.procs.length cap3) nv) 46))
  have TA := Lib.hid (Touch.alloc w3 (.cells (mdcells m.name sb iv yv (.slice A0 m.types.length cap0) gv (.slice A1 m.consts.length cap1) (.slice A2 m.vars.length cap2) (.slice A3 m.procs.length cap3) nv) 46))
  have HS4 := Lib.hid (HS3.out.touch TA.out (fun x h => by cases h))
  have HB4 := Lib.hid (HB3.out.alloc HB3.out.size (.cells (mdcells m.name sb iv yv (.slice A0 m.types.length cap0) gv (.slice A1 m.consts.length cap1) (.slice A2 m.vars.length cap2) (.slice A3 m.procs.length cap3) nv) 46))
  clear KM3 KC3 KV3 KP3 KS3 HS3 HB3 TA
  go_upto_region 4 with fail
  clear l1 hst
  generalize w3.heap.size = gm at KG4 hgs ⊢
  generalize w3.alloc (.cells (mdcells m.name sb iv yv (.slice A0 m.types.length cap0) gv (.slice A1 m.consts.length cap1) (.slice A2 m.vars.length cap2) (.slice A3 m.procs.length cap3) nv) 46) = w4 at KG4 KM4 KC4 KV4 KP4 KS4 HS4 HB4 ⊢
  have x4 := KC4.out.cell 4
  have f4 := KC4.out.frozen 4
  have TS1 := Lib.hid (Touch.set w4 ⟨w.heap.size + 1, 4, none⟩ (.bool false))
  have KC5 : Hid (Blk (w4.setCell ⟨w.heap.size + 1, 4, none⟩ (.bool false)) (w.heap.size + 1) (ccells ⟨c.name, c.type, c.n, c.s, false⟩) 48) := Lib.hid (KC4.out.set 4 _)
  have KM5 := Lib.hid (TS1.out.blk KM4.out (by simp only [List.mem_singleton]; omega))
  have KV5 := Lib.hid (TS1.out.blk KV4.out (by simp only [List.mem_singleton]; omega))
  have KP5 := Lib.hid (TS1.out.blk KP4.out (by simp only [List.mem_singleton]; omega))
  have KS5 := Lib.hid (TS1.out.blk KS4.out (by simp only [List.mem_singleton]; omega))
  have KG5 := Lib.hid (TS1.out.blk KG4.out (by simp only [List.mem_singleton]; omega))
  have HS5 := Lib.hid (HS4.out.touch TS1.out (fun x hx => by simp only [List.mem_singleton] at hx; omega))
  have HB5 := Lib.hid (HB4.out.trans (TS1.out.below HB4.out.size (fun x hx => by simp only [List.mem_singleton] at hx; omega)))
  go_upto_region 5 with fail
  generalize w4.setCell ⟨w.heap.size + 1, 4, none⟩ (.bool false) = w5 at KM5 KC5 KV5 KP5 KS5 KG5 HS5 HB5 ⊢
  clear KM4 KC4 KV4 KP4 KS4 KG4 HS4 HB4 TS1
  clear x4 f4
  have x4 := KV5.out.cell 2
  have f4 := KV5.out.frozen 2
  have TS2 := Lib.hid (Touch.set w5 ⟨w.heap.size + 1 + 1, 2, none⟩ (.bool false))
  have KV6 : Hid (Blk (w5.setCell ⟨w.heap.size + 1 + 1, 2, none⟩ (.bool false)) (w.heap.size + 1 + 1) (vdcells ⟨v.name, v.type, false, v.ref⟩) 50) := Lib.hid (KV5.out.set 2 _)
  have KM6 := Lib.hid (TS2.out.blk KM5.out (by simp only [List.mem_singleton]; omega))
  have KC6 := Lib.hid (TS2.out.blk KC5.out (by simp only [List.mem_singleton]; omega))
  have KP6 := Lib.hid (TS2.out.blk KP5.out (by simp only [List.mem_singleton]; omega))
  have KS6 := Lib.hid (TS2.out.blk KS5.out (by simp only [List.mem_singleton]; omega))
  have KG6 := Lib.hid (TS2.out.blk KG5.out (by simp only [List.mem_singleton]; omega))
  have HS6 := Lib.hid (HS5.out.touch TS2.out (fun x hx => by simp only [List.mem_singleton] at hx; omega))
  have HB6 := Lib.hid (HB5.out.trans (TS2.out.below HB5.out.size (fun x hx => by simp only [List.mem_singleton] at hx; omega)))
  go_upto_region 6 with fail
  generalize w5.setCell ⟨w.heap.size + 1 + 1, 2, none⟩ (.bool false) = w6 at KM6 KC6 KV6 KP6 KS6 KG6 HS6 HB6 ⊢
  clear KM5 KC5 KV5 KP5 KS5 KG5 HS5 HB5 TS2
  clear x4 f4
  have x4 := KP6.out.cell 1
  have f4 := KP6.out.frozen 1
  have TS3 := Lib.hid (Touch.set w6 ⟨w.heap.size + 1 + 1 + 1, 1, none⟩ (.bool false))
  have KP7 : Hid (Blk (w6.setCell ⟨w.heap.size + 1 + 1 + 1, 1, none⟩ (.bool false)) (w.heap.size + 1 + 1 + 1) (pdcells ⟨p.name, false, p.params, p.vars, p.result⟩ xv xb xe) 53) := Lib.hid (KP6.out.set 1 _)
  have KM7 := Lib.hid (TS3.out.blk KM6.out (by simp only [List.mem_singleton]; omega))
  have KC7 := Lib.hid (TS3.out.blk KC6.out (by simp only [List.mem_singleton]; omega))
  have KV7 := Lib.hid (TS3.out.blk KV6.out (by simp only [List.mem_singleton]; omega))
  have KS7 := Lib.hid (TS3.out.blk KS6.out (by simp only [List.mem_singleton]; omega))
  have KG7 := Lib.hid (TS3.out.blk KG6.out (by simp only [List.mem_singleton]; omega))
  have HS7 := Lib.hid (HS6.out.touch TS3.out (fun x hx => by simp only [List.mem_singleton] at hx; omega))
  have HB7 := Lib.hid (HB6.out.trans (TS3.out.below HB6.out.size (fun x hx => by simp only [List.mem_singleton] at hx; omega)))
  go_upto_region 7 with fail
  generalize w6.setCell ⟨w.heap.size + 1 + 1 + 1, 1, none⟩ (.bool false) = wx at KM7 KC7 KV7 KP7 KS7 KG7 HS7 HB7 ⊢
  clear KM6 KC6 KV6 KP6 KS6 KG6 HS6 HB6 TS3
  clear x4 f4
  have KM := KM7
  have KC := KC7
  have KV := KV7
  have KP := KP7
  have KS := KS7
  have KG := KG7
  have HS := HS7
  have HBX := HB7
  clear KM7 KC7 KV7 KP7 KS7 KG7 HS7 HB7

  go_cut [8] from 29 to 41 (fun s8 wc0 => ∃ A9 n9 c9, Hid (Touch wx wc0 [gm]) ∧ Hid (Blk wc0 gm (mdcells m.name sb iv yv (.slice A0 m.types.length cap0) gv (.slice A9 n9 c9) (.slice A2 m.vars.length cap2) (.slice A3 m.procs.length cap3) nv) 46) ∧ Hid (OwnL wc0 (gm + 1) 48 5 (.slice A9 n9 c9) ((ccells ⟨c.name, c.type, c.n, c.s, false⟩).toList :: (m.consts.map fun c => (ccells c).toList))))
  case first =>
    have hwrc : IntKind.i64.wrap ((m.consts.length : Int) + 1) = (m.consts.length : Int) + 1 := IntWalk.i64_in _ (by have := HCA.out.reach; omega)
    have hgm := KG.out.lt
    refine wp_region_held_drew (S := (fun w' => Hid (Touch wx w' [gm]))) (by kernel_rfl) (Lib.hid ((Touch.drewN wx 1).mono (fun x h => by cases h))) (fun hHeld0 => ?_)
    clear hHeld0
    have TD := Lib.hid (show Touch wx wx.drew [] from (Touch.drewN wx 1).mono (fun x h => by cases h))
    have KGd := Lib.hid KG.out.drew
    generalize wx.drew = we at TD KGd ⊢
    have hHeld : (fun w' => Hid (Touch wx w' [gm])) we := Lib.hid (TD.out.mono (fun x h => by cases h))
    refine tke 0 (v := ?v0c) ?hy0c hHeld ?rest0c
    case hy0c => intro wq q1; clear q1; simp only [List.getElem_toArray, List.getElem_cons_zero, List.getElem_cons_succ]; go_simp; try with_reducible rfl
    refine tke 1 (v := ?v1c) ?hy1c hHeld ?rest1c
    case hy1c => intro wq q1; have c1 := (q1.out.blk KM.out (by simp only [List.mem_singleton]; omega)).cell 6; clear q1; simp only [List.getElem_toArray, List.getElem_cons_zero, List.getElem_cons_succ]; go_simp; try with_reducible rfl
    refine tke 2 (v := ?v2c) ?hy2c hHeld ?rest2c
    case hy2c => intro wq q1; clear q1; simp only [List.getElem_toArray, List.getElem_cons_zero, List.getElem_cons_succ]; go_simp; try with_reducible rfl
    refine tke 3 (v := ?v3c) ?hy3c hHeld ?rest3c
    case hy3c => intro wq q1; clear q1; simp only [List.getElem_toArray, List.getElem_cons_zero, List.getElem_cons_succ]; go_simp; try with_reducible rfl
    refine tke 5 (v := ?v5c) ?hy5c hHeld ?rest5c
    case hy5c => intro wq q1; have l1 := load_blk (w := wq) Try.underlying48 rfl sz_const (q1.out.blk KC.out (by simp only [List.mem_singleton]; omega)) rfl; clear q1; simp only [List.getElem_toArray, List.getElem_cons_zero, List.getElem_cons_succ]; go_simp; try with_reducible rfl
    refine tke 8 (v := ?v8c) ?hy8c hHeld ?rest8c
    case hy8c => intro wq q1; clear q1; simp only [List.getElem_toArray, List.getElem_cons_zero, List.getElem_cons_succ]; go_simp; try with_reducible rfl
    refine tke 9 (v := ?v9c) ?hy9c hHeld ?rest9c
    case hy9c => intro wq q1; have c1 := (q1.out.blk KM.out (by simp only [List.mem_singleton]; omega)).cell 6; clear q1; simp only [List.getElem_toArray, List.getElem_cons_zero, List.getElem_cons_succ]; go_simp; try with_reducible rfl
    clear hHeld
    obtain ⟨mbc, hmb⟩ : ∃ X, X = madeCells (Value.cells (.agg #[.string ⟨#[]⟩, .int .i64 0, .int .i64 0, .string ⟨#[]⟩, .bool false])) ((m.consts.length + 1) * 5) := ⟨_, rfl⟩
    have hmbs : mbc.size = (m.consts.length + 1) * 5 := by rw [hmb, size_madeCells]
    have HMK := Lib.hid (show ∀ W : World, (Instr.makeSlice 22 (.int .i64 0) (.int .i64 ((m.consts.length : Int) + 1))).run Try.prog W = .ok (.slice (some ⟨W.heap.size, 0, none⟩) 0 (m.consts.length + 1)) (W.alloc (.cells mbc 48)) from fun W => by rw [hmb]; exact mk_rows 22 48 _ 5 _ Try.underlying22 info_const 0 (m.consts.length + 1) (by omega) (by have := HCA.out.reach; omega) (by have := HCA.out.reach; omega) W)
    clear hmb
    refine wpAnyH_ready (rs := [4, 6]) (by kernel_rfl) (by simp) ?_
    refine (AllReadyH.cons (o := _) rfl (fun K hK => ?_) (AllReadyH.cons (o := _) rfl (fun K hK => ?_) AllReadyH.nil))
    · skip
      try simp only [List.getElem_toArray, List.getElem_cons_zero, List.getElem_cons_succ]
      have hmk := HMK.out
      go_simp
      clear hmk
      have T1 := Lib.hid (TD.out.trans (Touch.alloc we (.cells mbc 48)) (fun x h _ => h))
      have KG1 := Lib.hid (KGd.out.old (.cells mbc 48))
      have HO1 : Hid ((we.alloc (.cells mbc 48)).ownsRow wx.heap.size 48 5 (.slice (some ⟨we.heap.size, 0, none⟩) 0 (m.consts.length + 1)) 0 []) := Lib.hid (World.ownsRow_made we _ (m.consts.length + 1) TD.out.size (by have := HCA.out.reach; unfold maxLen; omega) hmbs)
      refine hK.out _ _ (Lib.hid (T1.out.mono (fun x h => by cases h))) (fun _ => ?_)
      refine wpAnyH_ready (rs := [6]) (by kernel_rfl) (by simp) ?_
      refine (AllReadyH.cons (o := _) rfl (fun K hK => ?_) AllReadyH.nil)
      try simp only [List.getElem_toArray, List.getElem_cons_zero, List.getElem_cons_succ]
      go_simp
      have T2 := Lib.hid (T1.out.trans (Touch.alloc (we.alloc (.cells mbc 48)) (.cells (ccells ⟨c.name, c.type, c.n, c.s, false⟩) 48)) (fun x h _ => h))
      have KG2 := Lib.hid (KG1.out.old (.cells (ccells ⟨c.name, c.type, c.n, c.s, false⟩) 48))
      have KB2 := Lib.hid (Blk.new (we.alloc (.cells mbc 48)) (ccells ⟨c.name, c.type, c.n, c.s, false⟩) 48)
      have HO2 := Lib.hid (World.ownsRow.alloc HO1.out (.cells (ccells ⟨c.name, c.type, c.n, c.s, false⟩) 48))
      simp only [World.size_alloc] at KB2
      clear HO1 KG1 T1
      refine hK.out _ _ (Lib.hid (T2.out.mono (fun x h => by cases h))) (fun _ => ?_)
      refine wpAnyH_ready (rs := [7]) (by kernel_rfl) (by simp) ?_
      refine (AllReadyH.cons (o := _) rfl (fun K hK => ?_) AllReadyH.nil)
      refine step_wide rfl _ _ 22 (by rfl) wx.heap.size 48 _ 5 56 Try.underlying22 info_const (by rfl) (by decide) (by rfl) HO2.out (A := some _) (m := 1) (c := 1) (by rfl) (ccells ⟨c.name, c.type, c.n, c.s, false⟩).toList (by rfl) (.inr ⟨_, rfl, World.news_of_block KB2.out⟩) (fun u hu => ccells_one _ u (mem_tl hu)) (by unfold maxLen; omega) (by omega) T2.out.size ?_
      intro u1 w8 ho8 T8
      have TA := Lib.hid (T2.out.trans T8 (fun x hx hlt => by simp only [Option.mem_toList, Option.mem_def] at hx; have := (own_lt HO2.out x hx).2; omega))
      have KGA := Lib.hid (T8.blk KG2.out (fun hm => by simp only [Option.mem_toList, Option.mem_def] at hm; have := (own_lt HO2.out _ hm).2; omega))
      have HOA := Lib.hid ho8
      clear ho8 T8 HO2 KB2 KG2
      obtain ⟨A', c', e', HA'⟩ := rows_newsN (sz := 5) (by decide) (fun r hr => by obtain ⟨x, _, rfl⟩ := List.mem_map.1 hr; rfl) (HCR.out.1.below (HBX.out.trans (TA.out.below HBX.out.size (fun x h => by cases h)))) (List.length_map _) HCA.out.none
      injection e' with e1 e2 e3
      subst e1 e3
      have HA' := Lib.hid HA'
      clear e2
      refine hK.out _ _ (Lib.hid (TA.out.mono (fun x h => by cases h))) (fun _ => ?_)
      refine wpAnyH_ready (rs := [10]) (by kernel_rfl) (by simp) ?_
      refine (AllReadyH.cons (o := _) rfl (fun K hK => ?_) AllReadyH.nil)
      refine step_wide rfl _ _ 22 (by rfl) wx.heap.size 48 _ 5 56 Try.underlying22 info_const (by rfl) (by decide) (by rfl) HOA.out (by rfl) (m.consts.map fun c => (ccells c).toList).flatten (by rw [flat_length (sz := 5) (fun r hr => by obtain ⟨x, _, rfl⟩ := List.mem_map.1 hr; rfl), (List.length_map _)]) HA'.out (fun u hu => by obtain ⟨r, hr, hu⟩ := List.mem_flatten.1 hu; obtain ⟨x, _, rfl⟩ := List.mem_map.1 hr; exact ccells_one x u (mem_tl hu)) (by have := HCA.out.reach; unfold maxLen; omega) (by have := HCA.out.reach; omega) TA.out.size ?_
      intro u2 w9 ho9 T9
      have TB := Lib.hid (TA.out.trans T9 (fun x hx hlt => by simp only [Option.mem_toList, Option.mem_def] at hx; have := (own_lt HOA.out x hx).2; omega))
      have KGB := Lib.hid (T9.blk KGA.out (fun hm => by simp only [Option.mem_toList, Option.mem_def] at hm; have := (own_lt HOA.out _ hm).2; omega))
      have ON9 : Hid (OwnL w9 (gm + 1) 48 5 u2 ((ccells ⟨c.name, c.type, c.n, c.s, false⟩).toList :: (m.consts.map fun c => (ccells c).toList))) := Lib.hid (OwnL.weak (B := wx.heap.size) (by unfold OwnL; rw [List.length_cons, List.flatten_cons, (List.length_map _), show m.consts.length + 1 = 0 + 1 + m.consts.length from by omega]; exact ho9) (by omega))
      obtain ⟨A9, n9, c9, hu2⟩ := OwnL.form ON9.out
      subst hu2
      clear ho9 T9 HOA KGA HA'
      refine hK.out _ _ (Lib.hid (TB.out.mono (fun x h => by cases h))) (fun _ => ?_)
      refine tke 11 (v := ?v11c1) ?hy11c1 (Lib.hid (TB.out.mono (fun x h => by cases h))) ?rest11c1
      case hy11c1 => intro wq q1; clear q1; simp only [List.getElem_toArray, List.getElem_cons_zero, List.getElem_cons_succ]; go_simp; try with_reducible rfl
      have c1 := KGB.out.cell 6
      have ff1 := KGB.out.frozen 6
      refine wpAnyH_ready (rs := [12]) (by kernel_rfl) (by simp) ?_
      refine (AllReadyH.cons (o := _) rfl (fun K hK => ?_) AllReadyH.nil)
      try simp only [List.getElem_toArray, List.getElem_cons_zero, List.getElem_cons_succ]
      go_simp
      clear c1 ff1
      have TS := Lib.hid (Touch.set w9 ⟨gm, 6, none⟩ (.slice A9 n9 c9))
      have TF := Lib.hid (show Touch wx (w9.setCell ⟨gm, 6, none⟩ (.slice A9 n9 c9)) [gm] from (TB.out.mono (fun x h => by cases h)).trans TS.out (fun x hx _ => hx))
      have KG : Hid (Blk (w9.setCell ⟨gm, 6, none⟩ (.slice A9 n9 c9)) gm (mdcells m.name sb iv yv (.slice A0 m.types.length cap0) gv (.slice A9 n9 c9) (.slice A2 m.vars.length cap2) (.slice A3 m.procs.length cap3) nv) 46) := Lib.hid (KGB.out.set 6 _)
      have OC : Hid (OwnL (w9.setCell ⟨gm, 6, none⟩ (.slice A9 n9 c9)) (gm + 1) 48 5 (.slice A9 n9 c9) ((ccells ⟨c.name, c.type, c.n, c.s, false⟩).toList :: (m.consts.map fun c => (ccells c).toList))) := Lib.hid (OwnL.touch ON9.out TS.out (fun x hx => by simp only [List.mem_singleton] at hx; omega))
      refine hK.out _ _ TF (fun _ => ?_)
      refine wpAnyH_done (by kernel_rfl) ?_ _
      clear TS ON9 KGB TB TA T2
      go_wp2_with fail
      go_meet
      exact ⟨A9, n9, c9, TF, KG, OC⟩
    · skip
      try simp only [List.getElem_toArray, List.getElem_cons_zero, List.getElem_cons_succ]
      go_simp
      have T1 := Lib.hid (TD.out.trans (Touch.alloc we (.cells (ccells ⟨c.name, c.type, c.n, c.s, false⟩) 48)) (fun x h _ => h))
      have KG1 := Lib.hid (KGd.out.old (.cells (ccells ⟨c.name, c.type, c.n, c.s, false⟩) 48))
      have KB1 := Lib.hid (Blk.new we (ccells ⟨c.name, c.type, c.n, c.s, false⟩) 48)
      refine hK.out _ _ (Lib.hid (T1.out.mono (fun x h => by cases h))) (fun _ => ?_)
      refine wpAnyH_ready (rs := [4]) (by kernel_rfl) (by simp) ?_
      refine (AllReadyH.cons (o := _) rfl (fun K hK => ?_) AllReadyH.nil)
      try simp only [List.getElem_toArray, List.getElem_cons_zero, List.getElem_cons_succ]
      have hmk := HMK.out
      go_simp
      clear hmk
      have T2 := Lib.hid (T1.out.trans (Touch.alloc (we.alloc (.cells (ccells ⟨c.name, c.type, c.n, c.s, false⟩) 48)) (.cells mbc 48)) (fun x h _ => h))
      have KG2 := Lib.hid (KG1.out.old (.cells mbc 48))
      have HO2 : Hid (((we.alloc (.cells (ccells ⟨c.name, c.type, c.n, c.s, false⟩) 48)).alloc (.cells mbc 48)).ownsRow wx.heap.size 48 5 (.slice (some ⟨(we.alloc (.cells (ccells ⟨c.name, c.type, c.n, c.s, false⟩) 48)).heap.size, 0, none⟩) 0 (m.consts.length + 1)) 0 []) := Lib.hid (World.ownsRow_made (we.alloc (.cells (ccells ⟨c.name, c.type, c.n, c.s, false⟩) 48)) _ (m.consts.length + 1) T1.out.size (by have := HCA.out.reach; unfold maxLen; omega) hmbs)
      have KB2 := Lib.hid (KB1.out.old (.cells mbc 48))
      simp only [World.size_alloc] at HO2
      clear KB1 KG1 T1
      refine hK.out _ _ (Lib.hid (T2.out.mono (fun x h => by cases h))) (fun _ => ?_)
      refine wpAnyH_ready (rs := [7]) (by kernel_rfl) (by simp) ?_
      refine (AllReadyH.cons (o := _) rfl (fun K hK => ?_) AllReadyH.nil)
      refine step_wide rfl _ _ 22 (by rfl) wx.heap.size 48 _ 5 56 Try.underlying22 info_const (by rfl) (by decide) (by rfl) HO2.out (A := some _) (m := 1) (c := 1) (by rfl) (ccells ⟨c.name, c.type, c.n, c.s, false⟩).toList (by rfl) (.inr ⟨_, rfl, World.news_of_block KB2.out⟩) (fun u hu => ccells_one _ u (mem_tl hu)) (by unfold maxLen; omega) (by omega) T2.out.size ?_
      intro u1 w8 ho8 T8
      have TA := Lib.hid (T2.out.trans T8 (fun x hx hlt => by simp only [Option.mem_toList, Option.mem_def] at hx; have := (own_lt HO2.out x hx).2; omega))
      have KGA := Lib.hid (T8.blk KG2.out (fun hm => by simp only [Option.mem_toList, Option.mem_def] at hm; have := (own_lt HO2.out _ hm).2; omega))
      have HOA := Lib.hid ho8
      clear ho8 T8 HO2 KB2 KG2
      obtain ⟨A', c', e', HA'⟩ := rows_newsN (sz := 5) (by decide) (fun r hr => by obtain ⟨x, _, rfl⟩ := List.mem_map.1 hr; rfl) (HCR.out.1.below (HBX.out.trans (TA.out.below HBX.out.size (fun x h => by cases h)))) (List.length_map _) HCA.out.none
      injection e' with e1 e2 e3
      subst e1 e3
      have HA' := Lib.hid HA'
      clear e2
      refine hK.out _ _ (Lib.hid (TA.out.mono (fun x h => by cases h))) (fun _ => ?_)
      refine wpAnyH_ready (rs := [10]) (by kernel_rfl) (by simp) ?_
      refine (AllReadyH.cons (o := _) rfl (fun K hK => ?_) AllReadyH.nil)
      refine step_wide rfl _ _ 22 (by rfl) wx.heap.size 48 _ 5 56 Try.underlying22 info_const (by rfl) (by decide) (by rfl) HOA.out (by rfl) (m.consts.map fun c => (ccells c).toList).flatten (by rw [flat_length (sz := 5) (fun r hr => by obtain ⟨x, _, rfl⟩ := List.mem_map.1 hr; rfl), (List.length_map _)]) HA'.out (fun u hu => by obtain ⟨r, hr, hu⟩ := List.mem_flatten.1 hu; obtain ⟨x, _, rfl⟩ := List.mem_map.1 hr; exact ccells_one x u (mem_tl hu)) (by have := HCA.out.reach; unfold maxLen; omega) (by have := HCA.out.reach; omega) TA.out.size ?_
      intro u2 w9 ho9 T9
      have TB := Lib.hid (TA.out.trans T9 (fun x hx hlt => by simp only [Option.mem_toList, Option.mem_def] at hx; have := (own_lt HOA.out x hx).2; omega))
      have KGB := Lib.hid (T9.blk KGA.out (fun hm => by simp only [Option.mem_toList, Option.mem_def] at hm; have := (own_lt HOA.out _ hm).2; omega))
      have ON9 : Hid (OwnL w9 (gm + 1) 48 5 u2 ((ccells ⟨c.name, c.type, c.n, c.s, false⟩).toList :: (m.consts.map fun c => (ccells c).toList))) := Lib.hid (OwnL.weak (B := wx.heap.size) (by unfold OwnL; rw [List.length_cons, List.flatten_cons, (List.length_map _), show m.consts.length + 1 = 0 + 1 + m.consts.length from by omega]; exact ho9) (by omega))
      obtain ⟨A9, n9, c9, hu2⟩ := OwnL.form ON9.out
      subst hu2
      clear ho9 T9 HOA KGA HA'
      refine hK.out _ _ (Lib.hid (TB.out.mono (fun x h => by cases h))) (fun _ => ?_)
      refine tke 11 (v := ?v11c2) ?hy11c2 (Lib.hid (TB.out.mono (fun x h => by cases h))) ?rest11c2
      case hy11c2 => intro wq q1; clear q1; simp only [List.getElem_toArray, List.getElem_cons_zero, List.getElem_cons_succ]; go_simp; try with_reducible rfl
      have c1 := KGB.out.cell 6
      have ff1 := KGB.out.frozen 6
      refine wpAnyH_ready (rs := [12]) (by kernel_rfl) (by simp) ?_
      refine (AllReadyH.cons (o := _) rfl (fun K hK => ?_) AllReadyH.nil)
      try simp only [List.getElem_toArray, List.getElem_cons_zero, List.getElem_cons_succ]
      go_simp
      clear c1 ff1
      have TS := Lib.hid (Touch.set w9 ⟨gm, 6, none⟩ (.slice A9 n9 c9))
      have TF := Lib.hid (show Touch wx (w9.setCell ⟨gm, 6, none⟩ (.slice A9 n9 c9)) [gm] from (TB.out.mono (fun x h => by cases h)).trans TS.out (fun x hx _ => hx))
      have KG : Hid (Blk (w9.setCell ⟨gm, 6, none⟩ (.slice A9 n9 c9)) gm (mdcells m.name sb iv yv (.slice A0 m.types.length cap0) gv (.slice A9 n9 c9) (.slice A2 m.vars.length cap2) (.slice A3 m.procs.length cap3) nv) 46) := Lib.hid (KGB.out.set 6 _)
      have OC : Hid (OwnL (w9.setCell ⟨gm, 6, none⟩ (.slice A9 n9 c9)) (gm + 1) 48 5 (.slice A9 n9 c9) ((ccells ⟨c.name, c.type, c.n, c.s, false⟩).toList :: (m.consts.map fun c => (ccells c).toList))) := Lib.hid (OwnL.touch ON9.out TS.out (fun x hx => by simp only [List.mem_singleton] at hx; omega))
      refine hK.out _ _ TF (fun _ => ?_)
      refine wpAnyH_done (by kernel_rfl) ?_ _
      clear TS ON9 KGB TB TA T2
      go_wp2_with fail
      go_meet
      exact ⟨A9, n9, c9, TF, KG, OC⟩
  case rest =>
  obtain ⟨Bc, nnc, kkc, TF, KG2, OC⟩ := hcut
  have hgm := KG.out.lt
  replace KM := Lib.hid (TF.out.blk KM.out (by simp only [List.mem_singleton]; omega))
  replace KC := Lib.hid (TF.out.blk KC.out (by simp only [List.mem_singleton]; omega))
  replace KV := Lib.hid (TF.out.blk KV.out (by simp only [List.mem_singleton]; omega))
  replace KP := Lib.hid (TF.out.blk KP.out (by simp only [List.mem_singleton]; omega))
  replace KS := Lib.hid (TF.out.blk KS.out (by simp only [List.mem_singleton]; omega))
  replace HS := Lib.hid (SmOwn.far HS.out TF.out (fun g hg hm => by simp only [List.mem_singleton] at hm; have := HIN.out g hg; omega))
  replace HBX := Lib.hid (HBX.out.trans (TF.out.below HBX.out.size (fun x hx => by simp only [List.mem_singleton] at hx; omega)))
  replace KG := KG2
  clear KG2 TF hgm
  go_upto_region 8 with fail
  go_cut [8] from 41 to 53 (fun s8 wc0 => ∃ A9 n9 c9, Hid (Touch wc wc0 [gm]) ∧ Hid (Blk wc0 gm (mdcells m.name sb iv yv (.slice A0 m.types.length cap0) gv (.slice Bc nnc kkc) (.slice A9 n9 c9) (.slice A3 m.procs.length cap3) nv) 46) ∧ Hid (OwnL wc0 (gm + 1) 50 4 (.slice A9 n9 c9) ((vdcells ⟨v.name, v.type, false, v.ref⟩).toList :: (m.vars.map fun c => (vdcells c).toList))))
  case first =>
    have hwrv : IntKind.i64.wrap ((m.vars.length : Int) + 1) = (m.vars.length : Int) + 1 := IntWalk.i64_in _ (by have := HVA.out.reach; omega)
    have hgm := KG.out.lt
    refine wp_region_held_drew (S := (fun w' => Hid (Touch wc w' [gm]))) (by kernel_rfl) (Lib.hid ((Touch.drewN wc 1).mono (fun x h => by cases h))) (fun hHeld0 => ?_)
    clear hHeld0
    have TD := Lib.hid (show Touch wc wc.drew [] from (Touch.drewN wc 1).mono (fun x h => by cases h))
    have KGd := Lib.hid KG.out.drew
    generalize wc.drew = we at TD KGd ⊢
    have hHeld : (fun w' => Hid (Touch wc w' [gm])) we := Lib.hid (TD.out.mono (fun x h => by cases h))
    refine tke 0 (v := ?v0v) ?hy0v hHeld ?rest0v
    case hy0v => intro wq q1; clear q1; simp only [List.getElem_toArray, List.getElem_cons_zero, List.getElem_cons_succ]; go_simp; try with_reducible rfl
    refine tke 1 (v := ?v1v) ?hy1v hHeld ?rest1v
    case hy1v => intro wq q1; have c1 := (q1.out.blk KM.out (by simp only [List.mem_singleton]; omega)).cell 7; clear q1; simp only [List.getElem_toArray, List.getElem_cons_zero, List.getElem_cons_succ]; go_simp; try with_reducible rfl
    refine tke 2 (v := ?v2v) ?hy2v hHeld ?rest2v
    case hy2v => intro wq q1; clear q1; simp only [List.getElem_toArray, List.getElem_cons_zero, List.getElem_cons_succ]; go_simp; try with_reducible rfl
    refine tke 3 (v := ?v3v) ?hy3v hHeld ?rest3v
    case hy3v => intro wq q1; clear q1; simp only [List.getElem_toArray, List.getElem_cons_zero, List.getElem_cons_succ]; go_simp; try with_reducible rfl
    refine tke 5 (v := ?v5v) ?hy5v hHeld ?rest5v
    case hy5v => intro wq q1; have l1 := load_blk (w := wq) Try.underlying50 rfl sz_vd (q1.out.blk KV.out (by simp only [List.mem_singleton]; omega)) rfl; clear q1; simp only [List.getElem_toArray, List.getElem_cons_zero, List.getElem_cons_succ]; go_simp; try with_reducible rfl
    refine tke 8 (v := ?v8v) ?hy8v hHeld ?rest8v
    case hy8v => intro wq q1; clear q1; simp only [List.getElem_toArray, List.getElem_cons_zero, List.getElem_cons_succ]; go_simp; try with_reducible rfl
    refine tke 9 (v := ?v9v) ?hy9v hHeld ?rest9v
    case hy9v => intro wq q1; have c1 := (q1.out.blk KM.out (by simp only [List.mem_singleton]; omega)).cell 7; clear q1; simp only [List.getElem_toArray, List.getElem_cons_zero, List.getElem_cons_succ]; go_simp; try with_reducible rfl
    clear hHeld
    obtain ⟨mbv, hmb⟩ : ∃ X, X = madeCells (Value.cells (.agg #[.string ⟨#[]⟩, .int .i64 0, .bool false, .bool false])) ((m.vars.length + 1) * 4) := ⟨_, rfl⟩
    have hmbs : mbv.size = (m.vars.length + 1) * 4 := by rw [hmb, size_madeCells]
    have HMK := Lib.hid (show ∀ W : World, (Instr.makeSlice 42 (.int .i64 0) (.int .i64 ((m.vars.length : Int) + 1))).run Try.prog W = .ok (.slice (some ⟨W.heap.size, 0, none⟩) 0 (m.vars.length + 1)) (W.alloc (.cells mbv 50)) from fun W => by rw [hmb]; exact mk_rows 42 50 _ 4 _ Try.underlying42 info_vd 0 (m.vars.length + 1) (by omega) (by have := HVA.out.reach; omega) (by have := HVA.out.reach; omega) W)
    clear hmb
    refine wpAnyH_ready (rs := [4, 6]) (by kernel_rfl) (by simp) ?_
    refine (AllReadyH.cons (o := _) rfl (fun K hK => ?_) (AllReadyH.cons (o := _) rfl (fun K hK => ?_) AllReadyH.nil))
    · skip
      try simp only [List.getElem_toArray, List.getElem_cons_zero, List.getElem_cons_succ]
      have hmk := HMK.out
      go_simp
      clear hmk
      have T1 := Lib.hid (TD.out.trans (Touch.alloc we (.cells mbv 50)) (fun x h _ => h))
      have KG1 := Lib.hid (KGd.out.old (.cells mbv 50))
      have HO1 : Hid ((we.alloc (.cells mbv 50)).ownsRow wc.heap.size 50 4 (.slice (some ⟨we.heap.size, 0, none⟩) 0 (m.vars.length + 1)) 0 []) := Lib.hid (World.ownsRow_made we _ (m.vars.length + 1) TD.out.size (by have := HVA.out.reach; unfold maxLen; omega) hmbs)
      refine hK.out _ _ (Lib.hid (T1.out.mono (fun x h => by cases h))) (fun _ => ?_)
      refine wpAnyH_ready (rs := [6]) (by kernel_rfl) (by simp) ?_
      refine (AllReadyH.cons (o := _) rfl (fun K hK => ?_) AllReadyH.nil)
      try simp only [List.getElem_toArray, List.getElem_cons_zero, List.getElem_cons_succ]
      go_simp
      have T2 := Lib.hid (T1.out.trans (Touch.alloc (we.alloc (.cells mbv 50)) (.cells (vdcells ⟨v.name, v.type, false, v.ref⟩) 50)) (fun x h _ => h))
      have KG2 := Lib.hid (KG1.out.old (.cells (vdcells ⟨v.name, v.type, false, v.ref⟩) 50))
      have KB2 := Lib.hid (Blk.new (we.alloc (.cells mbv 50)) (vdcells ⟨v.name, v.type, false, v.ref⟩) 50)
      have HO2 := Lib.hid (World.ownsRow.alloc HO1.out (.cells (vdcells ⟨v.name, v.type, false, v.ref⟩) 50))
      simp only [World.size_alloc] at KB2
      clear HO1 KG1 T1
      refine hK.out _ _ (Lib.hid (T2.out.mono (fun x h => by cases h))) (fun _ => ?_)
      refine wpAnyH_ready (rs := [7]) (by kernel_rfl) (by simp) ?_
      refine (AllReadyH.cons (o := _) rfl (fun K hK => ?_) AllReadyH.nil)
      refine step_wide rfl _ _ 42 (by rfl) wc.heap.size 50 _ 4 32 Try.underlying42 info_vd (by rfl) (by decide) (by rfl) HO2.out (A := some _) (m := 1) (c := 1) (by rfl) (vdcells ⟨v.name, v.type, false, v.ref⟩).toList (by rfl) (.inr ⟨_, rfl, World.news_of_block KB2.out⟩) (fun u hu => vdcells_one _ u (mem_tl hu)) (by unfold maxLen; omega) (by omega) T2.out.size ?_
      intro u1 w8 ho8 T8
      have TA := Lib.hid (T2.out.trans T8 (fun x hx hlt => by simp only [Option.mem_toList, Option.mem_def] at hx; have := (own_lt HO2.out x hx).2; omega))
      have KGA := Lib.hid (T8.blk KG2.out (fun hm => by simp only [Option.mem_toList, Option.mem_def] at hm; have := (own_lt HO2.out _ hm).2; omega))
      have HOA := Lib.hid ho8
      clear ho8 T8 HO2 KB2 KG2
      obtain ⟨A', c', e', HA'⟩ := rows_newsN (sz := 4) (by decide) (fun r hr => by obtain ⟨x, _, rfl⟩ := List.mem_map.1 hr; rfl) (HVR.out.rows.below (HBX.out.trans (TA.out.below HBX.out.size (fun x h => by cases h)))) (List.length_map _) HVA.out.none
      injection e' with e1 e2 e3
      subst e1 e3
      have HA' := Lib.hid HA'
      clear e2
      refine hK.out _ _ (Lib.hid (TA.out.mono (fun x h => by cases h))) (fun _ => ?_)
      refine wpAnyH_ready (rs := [10]) (by kernel_rfl) (by simp) ?_
      refine (AllReadyH.cons (o := _) rfl (fun K hK => ?_) AllReadyH.nil)
      refine step_wide rfl _ _ 42 (by rfl) wc.heap.size 50 _ 4 32 Try.underlying42 info_vd (by rfl) (by decide) (by rfl) HOA.out (by rfl) (m.vars.map fun c => (vdcells c).toList).flatten (by rw [flat_length (sz := 4) (fun r hr => by obtain ⟨x, _, rfl⟩ := List.mem_map.1 hr; rfl), (List.length_map _)]) HA'.out (fun u hu => by obtain ⟨r, hr, hu⟩ := List.mem_flatten.1 hu; obtain ⟨x, _, rfl⟩ := List.mem_map.1 hr; exact vdcells_one x u (mem_tl hu)) (by have := HVA.out.reach; unfold maxLen; omega) (by have := HVA.out.reach; omega) TA.out.size ?_
      intro u2 w9 ho9 T9
      have TB := Lib.hid (TA.out.trans T9 (fun x hx hlt => by simp only [Option.mem_toList, Option.mem_def] at hx; have := (own_lt HOA.out x hx).2; omega))
      have KGB := Lib.hid (T9.blk KGA.out (fun hm => by simp only [Option.mem_toList, Option.mem_def] at hm; have := (own_lt HOA.out _ hm).2; omega))
      have ON9 : Hid (OwnL w9 (gm + 1) 50 4 u2 ((vdcells ⟨v.name, v.type, false, v.ref⟩).toList :: (m.vars.map fun c => (vdcells c).toList))) := Lib.hid (OwnL.weak (B := wc.heap.size) (by unfold OwnL; rw [List.length_cons, List.flatten_cons, (List.length_map _), show m.vars.length + 1 = 0 + 1 + m.vars.length from by omega]; exact ho9) (by omega))
      obtain ⟨A9, n9, c9, hu2⟩ := OwnL.form ON9.out
      subst hu2
      clear ho9 T9 HOA KGA HA'
      refine hK.out _ _ (Lib.hid (TB.out.mono (fun x h => by cases h))) (fun _ => ?_)
      refine tke 11 (v := ?v11v1) ?hy11v1 (Lib.hid (TB.out.mono (fun x h => by cases h))) ?rest11v1
      case hy11v1 => intro wq q1; clear q1; simp only [List.getElem_toArray, List.getElem_cons_zero, List.getElem_cons_succ]; go_simp; try with_reducible rfl
      have c1 := KGB.out.cell 7
      have ff1 := KGB.out.frozen 7
      refine wpAnyH_ready (rs := [12]) (by kernel_rfl) (by simp) ?_
      refine (AllReadyH.cons (o := _) rfl (fun K hK => ?_) AllReadyH.nil)
      try simp only [List.getElem_toArray, List.getElem_cons_zero, List.getElem_cons_succ]
      go_simp
      clear c1 ff1
      have TS := Lib.hid (Touch.set w9 ⟨gm, 7, none⟩ (.slice A9 n9 c9))
      have TF := Lib.hid (show Touch wc (w9.setCell ⟨gm, 7, none⟩ (.slice A9 n9 c9)) [gm] from (TB.out.mono (fun x h => by cases h)).trans TS.out (fun x hx _ => hx))
      have KG : Hid (Blk (w9.setCell ⟨gm, 7, none⟩ (.slice A9 n9 c9)) gm (mdcells m.name sb iv yv (.slice A0 m.types.length cap0) gv (.slice Bc nnc kkc) (.slice A9 n9 c9) (.slice A3 m.procs.length cap3) nv) 46) := Lib.hid (KGB.out.set 7 _)
      have OV : Hid (OwnL (w9.setCell ⟨gm, 7, none⟩ (.slice A9 n9 c9)) (gm + 1) 50 4 (.slice A9 n9 c9) ((vdcells ⟨v.name, v.type, false, v.ref⟩).toList :: (m.vars.map fun c => (vdcells c).toList))) := Lib.hid (OwnL.touch ON9.out TS.out (fun x hx => by simp only [List.mem_singleton] at hx; omega))
      refine hK.out _ _ TF (fun _ => ?_)
      refine wpAnyH_done (by kernel_rfl) ?_ _
      clear TS ON9 KGB TB TA T2
      go_wp2_with fail
      go_meet
      exact ⟨A9, n9, c9, TF, KG, OV⟩
    · skip
      try simp only [List.getElem_toArray, List.getElem_cons_zero, List.getElem_cons_succ]
      go_simp
      have T1 := Lib.hid (TD.out.trans (Touch.alloc we (.cells (vdcells ⟨v.name, v.type, false, v.ref⟩) 50)) (fun x h _ => h))
      have KG1 := Lib.hid (KGd.out.old (.cells (vdcells ⟨v.name, v.type, false, v.ref⟩) 50))
      have KB1 := Lib.hid (Blk.new we (vdcells ⟨v.name, v.type, false, v.ref⟩) 50)
      refine hK.out _ _ (Lib.hid (T1.out.mono (fun x h => by cases h))) (fun _ => ?_)
      refine wpAnyH_ready (rs := [4]) (by kernel_rfl) (by simp) ?_
      refine (AllReadyH.cons (o := _) rfl (fun K hK => ?_) AllReadyH.nil)
      try simp only [List.getElem_toArray, List.getElem_cons_zero, List.getElem_cons_succ]
      have hmk := HMK.out
      go_simp
      clear hmk
      have T2 := Lib.hid (T1.out.trans (Touch.alloc (we.alloc (.cells (vdcells ⟨v.name, v.type, false, v.ref⟩) 50)) (.cells mbv 50)) (fun x h _ => h))
      have KG2 := Lib.hid (KG1.out.old (.cells mbv 50))
      have HO2 : Hid (((we.alloc (.cells (vdcells ⟨v.name, v.type, false, v.ref⟩) 50)).alloc (.cells mbv 50)).ownsRow wc.heap.size 50 4 (.slice (some ⟨(we.alloc (.cells (vdcells ⟨v.name, v.type, false, v.ref⟩) 50)).heap.size, 0, none⟩) 0 (m.vars.length + 1)) 0 []) := Lib.hid (World.ownsRow_made (we.alloc (.cells (vdcells ⟨v.name, v.type, false, v.ref⟩) 50)) _ (m.vars.length + 1) T1.out.size (by have := HVA.out.reach; unfold maxLen; omega) hmbs)
      have KB2 := Lib.hid (KB1.out.old (.cells mbv 50))
      simp only [World.size_alloc] at HO2
      clear KB1 KG1 T1
      refine hK.out _ _ (Lib.hid (T2.out.mono (fun x h => by cases h))) (fun _ => ?_)
      refine wpAnyH_ready (rs := [7]) (by kernel_rfl) (by simp) ?_
      refine (AllReadyH.cons (o := _) rfl (fun K hK => ?_) AllReadyH.nil)
      refine step_wide rfl _ _ 42 (by rfl) wc.heap.size 50 _ 4 32 Try.underlying42 info_vd (by rfl) (by decide) (by rfl) HO2.out (A := some _) (m := 1) (c := 1) (by rfl) (vdcells ⟨v.name, v.type, false, v.ref⟩).toList (by rfl) (.inr ⟨_, rfl, World.news_of_block KB2.out⟩) (fun u hu => vdcells_one _ u (mem_tl hu)) (by unfold maxLen; omega) (by omega) T2.out.size ?_
      intro u1 w8 ho8 T8
      have TA := Lib.hid (T2.out.trans T8 (fun x hx hlt => by simp only [Option.mem_toList, Option.mem_def] at hx; have := (own_lt HO2.out x hx).2; omega))
      have KGA := Lib.hid (T8.blk KG2.out (fun hm => by simp only [Option.mem_toList, Option.mem_def] at hm; have := (own_lt HO2.out _ hm).2; omega))
      have HOA := Lib.hid ho8
      clear ho8 T8 HO2 KB2 KG2
      obtain ⟨A', c', e', HA'⟩ := rows_newsN (sz := 4) (by decide) (fun r hr => by obtain ⟨x, _, rfl⟩ := List.mem_map.1 hr; rfl) (HVR.out.rows.below (HBX.out.trans (TA.out.below HBX.out.size (fun x h => by cases h)))) (List.length_map _) HVA.out.none
      injection e' with e1 e2 e3
      subst e1 e3
      have HA' := Lib.hid HA'
      clear e2
      refine hK.out _ _ (Lib.hid (TA.out.mono (fun x h => by cases h))) (fun _ => ?_)
      refine wpAnyH_ready (rs := [10]) (by kernel_rfl) (by simp) ?_
      refine (AllReadyH.cons (o := _) rfl (fun K hK => ?_) AllReadyH.nil)
      refine step_wide rfl _ _ 42 (by rfl) wc.heap.size 50 _ 4 32 Try.underlying42 info_vd (by rfl) (by decide) (by rfl) HOA.out (by rfl) (m.vars.map fun c => (vdcells c).toList).flatten (by rw [flat_length (sz := 4) (fun r hr => by obtain ⟨x, _, rfl⟩ := List.mem_map.1 hr; rfl), (List.length_map _)]) HA'.out (fun u hu => by obtain ⟨r, hr, hu⟩ := List.mem_flatten.1 hu; obtain ⟨x, _, rfl⟩ := List.mem_map.1 hr; exact vdcells_one x u (mem_tl hu)) (by have := HVA.out.reach; unfold maxLen; omega) (by have := HVA.out.reach; omega) TA.out.size ?_
      intro u2 w9 ho9 T9
      have TB := Lib.hid (TA.out.trans T9 (fun x hx hlt => by simp only [Option.mem_toList, Option.mem_def] at hx; have := (own_lt HOA.out x hx).2; omega))
      have KGB := Lib.hid (T9.blk KGA.out (fun hm => by simp only [Option.mem_toList, Option.mem_def] at hm; have := (own_lt HOA.out _ hm).2; omega))
      have ON9 : Hid (OwnL w9 (gm + 1) 50 4 u2 ((vdcells ⟨v.name, v.type, false, v.ref⟩).toList :: (m.vars.map fun c => (vdcells c).toList))) := Lib.hid (OwnL.weak (B := wc.heap.size) (by unfold OwnL; rw [List.length_cons, List.flatten_cons, (List.length_map _), show m.vars.length + 1 = 0 + 1 + m.vars.length from by omega]; exact ho9) (by omega))
      obtain ⟨A9, n9, c9, hu2⟩ := OwnL.form ON9.out
      subst hu2
      clear ho9 T9 HOA KGA HA'
      refine hK.out _ _ (Lib.hid (TB.out.mono (fun x h => by cases h))) (fun _ => ?_)
      refine tke 11 (v := ?v11v2) ?hy11v2 (Lib.hid (TB.out.mono (fun x h => by cases h))) ?rest11v2
      case hy11v2 => intro wq q1; clear q1; simp only [List.getElem_toArray, List.getElem_cons_zero, List.getElem_cons_succ]; go_simp; try with_reducible rfl
      have c1 := KGB.out.cell 7
      have ff1 := KGB.out.frozen 7
      refine wpAnyH_ready (rs := [12]) (by kernel_rfl) (by simp) ?_
      refine (AllReadyH.cons (o := _) rfl (fun K hK => ?_) AllReadyH.nil)
      try simp only [List.getElem_toArray, List.getElem_cons_zero, List.getElem_cons_succ]
      go_simp
      clear c1 ff1
      have TS := Lib.hid (Touch.set w9 ⟨gm, 7, none⟩ (.slice A9 n9 c9))
      have TF := Lib.hid (show Touch wc (w9.setCell ⟨gm, 7, none⟩ (.slice A9 n9 c9)) [gm] from (TB.out.mono (fun x h => by cases h)).trans TS.out (fun x hx _ => hx))
      have KG : Hid (Blk (w9.setCell ⟨gm, 7, none⟩ (.slice A9 n9 c9)) gm (mdcells m.name sb iv yv (.slice A0 m.types.length cap0) gv (.slice Bc nnc kkc) (.slice A9 n9 c9) (.slice A3 m.procs.length cap3) nv) 46) := Lib.hid (KGB.out.set 7 _)
      have OV : Hid (OwnL (w9.setCell ⟨gm, 7, none⟩ (.slice A9 n9 c9)) (gm + 1) 50 4 (.slice A9 n9 c9) ((vdcells ⟨v.name, v.type, false, v.ref⟩).toList :: (m.vars.map fun c => (vdcells c).toList))) := Lib.hid (OwnL.touch ON9.out TS.out (fun x hx => by simp only [List.mem_singleton] at hx; omega))
      refine hK.out _ _ TF (fun _ => ?_)
      refine wpAnyH_done (by kernel_rfl) ?_ _
      clear TS ON9 KGB TB TA T2
      go_wp2_with fail
      go_meet
      exact ⟨A9, n9, c9, TF, KG, OV⟩
  case rest =>
  obtain ⟨Bv, nnv, kkv, TF, KG2, OV⟩ := hcut
  have hgm := KG.out.lt
  replace KM := Lib.hid (TF.out.blk KM.out (by simp only [List.mem_singleton]; omega))
  replace KC := Lib.hid (TF.out.blk KC.out (by simp only [List.mem_singleton]; omega))
  replace KV := Lib.hid (TF.out.blk KV.out (by simp only [List.mem_singleton]; omega))
  replace KP := Lib.hid (TF.out.blk KP.out (by simp only [List.mem_singleton]; omega))
  replace KS := Lib.hid (TF.out.blk KS.out (by simp only [List.mem_singleton]; omega))
  replace HS := Lib.hid (SmOwn.far HS.out TF.out (fun g hg hm => by simp only [List.mem_singleton] at hm; have := HIN.out g hg; omega))
  replace HBX := Lib.hid (HBX.out.trans (TF.out.below HBX.out.size (fun x hx => by simp only [List.mem_singleton] at hx; omega)))
  replace OC := Lib.hid (TF.out.owns OC.out (fun g hg hm => by simp only [List.mem_singleton] at hm; have := (OwnL.lt OC.out g hg).2; omega))
  replace KG := KG2
  clear KG2 TF hgm
  go_upto_region 9 with fail
  go_cut [8] from 53 to 65 (fun s8 wc0 => ∃ A9 n9 c9, Hid (Touch wc wc0 [gm]) ∧ Hid (Blk wc0 gm (mdcells m.name sb iv yv (.slice A0 m.types.length cap0) gv (.slice Bc nnc kkc) (.slice Bv nnv kkv) (.slice A9 n9 c9) nv) 46) ∧ Hid (OwnL wc0 (gm + 1) 53 7 (.slice A9 n9 c9) ((pdcells ⟨p.name, false, p.params, p.vars, p.result⟩ xv xb xe).toList :: (List.zipWith (fun p x => (pdcells p x.1 x.2.1 x.2.2).toList) m.procs xs))))
  case first =>
    have hwrp : IntKind.i64.wrap ((m.procs.length : Int) + 1) = (m.procs.length : Int) + 1 := IntWalk.i64_in _ (by have := HPA.out.reach; omega)
    have hgm := KG.out.lt
    refine wp_region_held_drew (S := (fun w' => Hid (Touch wc w' [gm]))) (by kernel_rfl) (Lib.hid ((Touch.drewN wc 1).mono (fun x h => by cases h))) (fun hHeld0 => ?_)
    clear hHeld0
    have TD := Lib.hid (show Touch wc wc.drew [] from (Touch.drewN wc 1).mono (fun x h => by cases h))
    have KGd := Lib.hid KG.out.drew
    generalize wc.drew = we at TD KGd ⊢
    have hHeld : (fun w' => Hid (Touch wc w' [gm])) we := Lib.hid (TD.out.mono (fun x h => by cases h))
    refine tke 0 (v := ?v0p) ?hy0p hHeld ?rest0p
    case hy0p => intro wq q1; clear q1; simp only [List.getElem_toArray, List.getElem_cons_zero, List.getElem_cons_succ]; go_simp; try with_reducible rfl
    refine tke 1 (v := ?v1p) ?hy1p hHeld ?rest1p
    case hy1p => intro wq q1; have c1 := (q1.out.blk KM.out (by simp only [List.mem_singleton]; omega)).cell 8; clear q1; simp only [List.getElem_toArray, List.getElem_cons_zero, List.getElem_cons_succ]; go_simp; try with_reducible rfl
    refine tke 2 (v := ?v2p) ?hy2p hHeld ?rest2p
    case hy2p => intro wq q1; clear q1; simp only [List.getElem_toArray, List.getElem_cons_zero, List.getElem_cons_succ]; go_simp; try with_reducible rfl
    refine tke 3 (v := ?v3p) ?hy3p hHeld ?rest3p
    case hy3p => intro wq q1; clear q1; simp only [List.getElem_toArray, List.getElem_cons_zero, List.getElem_cons_succ]; go_simp; try with_reducible rfl
    refine tke 5 (v := ?v5p) ?hy5p hHeld ?rest5p
    case hy5p => intro wq q1; have l1 := load_blk (w := wq) Try.underlying53 rfl sz_pd (q1.out.blk KP.out (by simp only [List.mem_singleton]; omega)) rfl; clear q1; simp only [List.getElem_toArray, List.getElem_cons_zero, List.getElem_cons_succ]; go_simp; try with_reducible rfl
    refine tke 8 (v := ?v8p) ?hy8p hHeld ?rest8p
    case hy8p => intro wq q1; clear q1; simp only [List.getElem_toArray, List.getElem_cons_zero, List.getElem_cons_succ]; go_simp; try with_reducible rfl
    refine tke 9 (v := ?v9p) ?hy9p hHeld ?rest9p
    case hy9p => intro wq q1; have c1 := (q1.out.blk KM.out (by simp only [List.mem_singleton]; omega)).cell 8; clear q1; simp only [List.getElem_toArray, List.getElem_cons_zero, List.getElem_cons_succ]; go_simp; try with_reducible rfl
    clear hHeld
    obtain ⟨mbp, hmb⟩ : ∃ X, X = madeCells (Value.cells (.agg #[.string ⟨#[]⟩, .bool false, .int .i64 0, .slice none 0 0, .int .i64 0, .slice none 0 0, .slice none 0 0])) ((m.procs.length + 1) * 7) := ⟨_, rfl⟩
    have hmbs : mbp.size = (m.procs.length + 1) * 7 := by rw [hmb, size_madeCells]
    have HMK := Lib.hid (show ∀ W : World, (Instr.makeSlice 43 (.int .i64 0) (.int .i64 ((m.procs.length : Int) + 1))).run Try.prog W = .ok (.slice (some ⟨W.heap.size, 0, none⟩) 0 (m.procs.length + 1)) (W.alloc (.cells mbp 53)) from fun W => by rw [hmb]; exact mk_rows 43 53 _ 7 _ Try.underlying43 info_pd 0 (m.procs.length + 1) (by omega) (by have := HPA.out.reach; omega) (by have := HPA.out.reach; omega) W)
    clear hmb
    refine wpAnyH_ready (rs := [4, 6]) (by kernel_rfl) (by simp) ?_
    refine (AllReadyH.cons (o := _) rfl (fun K hK => ?_) (AllReadyH.cons (o := _) rfl (fun K hK => ?_) AllReadyH.nil))
    · skip
      try simp only [List.getElem_toArray, List.getElem_cons_zero, List.getElem_cons_succ]
      have hmk := HMK.out
      go_simp
      clear hmk
      have T1 := Lib.hid (TD.out.trans (Touch.alloc we (.cells mbp 53)) (fun x h _ => h))
      have KG1 := Lib.hid (KGd.out.old (.cells mbp 53))
      have HO1 : Hid ((we.alloc (.cells mbp 53)).ownsRow wc.heap.size 53 7 (.slice (some ⟨we.heap.size, 0, none⟩) 0 (m.procs.length + 1)) 0 []) := Lib.hid (World.ownsRow_made we _ (m.procs.length + 1) TD.out.size (by have := HPA.out.reach; unfold maxLen; omega) hmbs)
      refine hK.out _ _ (Lib.hid (T1.out.mono (fun x h => by cases h))) (fun _ => ?_)
      refine wpAnyH_ready (rs := [6]) (by kernel_rfl) (by simp) ?_
      refine (AllReadyH.cons (o := _) rfl (fun K hK => ?_) AllReadyH.nil)
      try simp only [List.getElem_toArray, List.getElem_cons_zero, List.getElem_cons_succ]
      go_simp
      have T2 := Lib.hid (T1.out.trans (Touch.alloc (we.alloc (.cells mbp 53)) (.cells (pdcells ⟨p.name, false, p.params, p.vars, p.result⟩ xv xb xe) 53)) (fun x h _ => h))
      have KG2 := Lib.hid (KG1.out.old (.cells (pdcells ⟨p.name, false, p.params, p.vars, p.result⟩ xv xb xe) 53))
      have KB2 := Lib.hid (Blk.new (we.alloc (.cells mbp 53)) (pdcells ⟨p.name, false, p.params, p.vars, p.result⟩ xv xb xe) 53)
      have HO2 := Lib.hid (World.ownsRow.alloc HO1.out (.cells (pdcells ⟨p.name, false, p.params, p.vars, p.result⟩ xv xb xe) 53))
      simp only [World.size_alloc] at KB2
      clear HO1 KG1 T1
      refine hK.out _ _ (Lib.hid (T2.out.mono (fun x h => by cases h))) (fun _ => ?_)
      refine wpAnyH_ready (rs := [7]) (by kernel_rfl) (by simp) ?_
      refine (AllReadyH.cons (o := _) rfl (fun K hK => ?_) AllReadyH.nil)
      refine step_wide rfl _ _ 43 (by rfl) wc.heap.size 53 _ 7 112 Try.underlying43 info_pd (by rfl) (by decide) (by rfl) HO2.out (A := some _) (m := 1) (c := 1) (by rfl) (pdcells ⟨p.name, false, p.params, p.vars, p.result⟩ xv xb xe).toList (by rfl) (.inr ⟨_, rfl, World.news_of_block KB2.out⟩) (fun u hu => pdcells_one _ HPV.out.rows.one HXB.out.1 HXB.out.2.1 u (mem_tl hu)) (by unfold maxLen; omega) (by omega) T2.out.size ?_
      intro u1 w8 ho8 T8
      have TA := Lib.hid (T2.out.trans T8 (fun x hx hlt => by simp only [Option.mem_toList, Option.mem_def] at hx; have := (own_lt HO2.out x hx).2; omega))
      have KGA := Lib.hid (T8.blk KG2.out (fun hm => by simp only [Option.mem_toList, Option.mem_def] at hm; have := (own_lt HO2.out _ hm).2; omega))
      have HOA := Lib.hid ho8
      clear ho8 T8 HO2 KB2 KG2
      obtain ⟨A', c', e', HA'⟩ := rows_newsN (sz := 7) (by decide) (HPR.out) (HXR.out.below (HBX.out.trans (TA.out.below HBX.out.size (fun x h => by cases h)))) HZL.out HPA.out.none
      injection e' with e1 e2 e3
      subst e1 e3
      have HA' := Lib.hid HA'
      clear e2
      refine hK.out _ _ (Lib.hid (TA.out.mono (fun x h => by cases h))) (fun _ => ?_)
      refine wpAnyH_ready (rs := [10]) (by kernel_rfl) (by simp) ?_
      refine (AllReadyH.cons (o := _) rfl (fun K hK => ?_) AllReadyH.nil)
      refine step_wide rfl _ _ 43 (by rfl) wc.heap.size 53 _ 7 112 Try.underlying43 info_pd (by rfl) (by decide) (by rfl) HOA.out (by rfl) (List.zipWith (fun p x => (pdcells p x.1 x.2.1 x.2.2).toList) m.procs xs).flatten (by rw [flat_length (sz := 7) (HPR.out), HZL.out]) HA'.out (fun u hu => by obtain ⟨r, hr, hu⟩ := List.mem_flatten.1 hu; exact HPO.out r hr u hu) (by have := HPA.out.reach; unfold maxLen; omega) (by have := HPA.out.reach; omega) TA.out.size ?_
      intro u2 w9 ho9 T9
      have TB := Lib.hid (TA.out.trans T9 (fun x hx hlt => by simp only [Option.mem_toList, Option.mem_def] at hx; have := (own_lt HOA.out x hx).2; omega))
      have KGB := Lib.hid (T9.blk KGA.out (fun hm => by simp only [Option.mem_toList, Option.mem_def] at hm; have := (own_lt HOA.out _ hm).2; omega))
      have ON9 : Hid (OwnL w9 (gm + 1) 53 7 u2 ((pdcells ⟨p.name, false, p.params, p.vars, p.result⟩ xv xb xe).toList :: (List.zipWith (fun p x => (pdcells p x.1 x.2.1 x.2.2).toList) m.procs xs))) := Lib.hid (OwnL.weak (B := wc.heap.size) (by unfold OwnL; rw [List.length_cons, List.flatten_cons, HZL.out, show m.procs.length + 1 = 0 + 1 + m.procs.length from by omega]; exact ho9) (by omega))
      obtain ⟨A9, n9, c9, hu2⟩ := OwnL.form ON9.out
      subst hu2
      clear ho9 T9 HOA KGA HA'
      refine hK.out _ _ (Lib.hid (TB.out.mono (fun x h => by cases h))) (fun _ => ?_)
      refine tke 11 (v := ?v11p1) ?hy11p1 (Lib.hid (TB.out.mono (fun x h => by cases h))) ?rest11p1
      case hy11p1 => intro wq q1; clear q1; simp only [List.getElem_toArray, List.getElem_cons_zero, List.getElem_cons_succ]; go_simp; try with_reducible rfl
      have c1 := KGB.out.cell 8
      have ff1 := KGB.out.frozen 8
      refine wpAnyH_ready (rs := [12]) (by kernel_rfl) (by simp) ?_
      refine (AllReadyH.cons (o := _) rfl (fun K hK => ?_) AllReadyH.nil)
      try simp only [List.getElem_toArray, List.getElem_cons_zero, List.getElem_cons_succ]
      go_simp
      clear c1 ff1
      have TS := Lib.hid (Touch.set w9 ⟨gm, 8, none⟩ (.slice A9 n9 c9))
      have TF := Lib.hid (show Touch wc (w9.setCell ⟨gm, 8, none⟩ (.slice A9 n9 c9)) [gm] from (TB.out.mono (fun x h => by cases h)).trans TS.out (fun x hx _ => hx))
      have KG : Hid (Blk (w9.setCell ⟨gm, 8, none⟩ (.slice A9 n9 c9)) gm (mdcells m.name sb iv yv (.slice A0 m.types.length cap0) gv (.slice Bc nnc kkc) (.slice Bv nnv kkv) (.slice A9 n9 c9) nv) 46) := Lib.hid (KGB.out.set 8 _)
      have OP : Hid (OwnL (w9.setCell ⟨gm, 8, none⟩ (.slice A9 n9 c9)) (gm + 1) 53 7 (.slice A9 n9 c9) ((pdcells ⟨p.name, false, p.params, p.vars, p.result⟩ xv xb xe).toList :: (List.zipWith (fun p x => (pdcells p x.1 x.2.1 x.2.2).toList) m.procs xs))) := Lib.hid (OwnL.touch ON9.out TS.out (fun x hx => by simp only [List.mem_singleton] at hx; omega))
      refine hK.out _ _ TF (fun _ => ?_)
      refine wpAnyH_done (by kernel_rfl) ?_ _
      clear TS ON9 KGB TB TA T2
      go_wp2_with fail
      go_meet
      exact ⟨A9, n9, c9, TF, KG, OP⟩
    · skip
      try simp only [List.getElem_toArray, List.getElem_cons_zero, List.getElem_cons_succ]
      go_simp
      have T1 := Lib.hid (TD.out.trans (Touch.alloc we (.cells (pdcells ⟨p.name, false, p.params, p.vars, p.result⟩ xv xb xe) 53)) (fun x h _ => h))
      have KG1 := Lib.hid (KGd.out.old (.cells (pdcells ⟨p.name, false, p.params, p.vars, p.result⟩ xv xb xe) 53))
      have KB1 := Lib.hid (Blk.new we (pdcells ⟨p.name, false, p.params, p.vars, p.result⟩ xv xb xe) 53)
      refine hK.out _ _ (Lib.hid (T1.out.mono (fun x h => by cases h))) (fun _ => ?_)
      refine wpAnyH_ready (rs := [4]) (by kernel_rfl) (by simp) ?_
      refine (AllReadyH.cons (o := _) rfl (fun K hK => ?_) AllReadyH.nil)
      try simp only [List.getElem_toArray, List.getElem_cons_zero, List.getElem_cons_succ]
      have hmk := HMK.out
      go_simp
      clear hmk
      have T2 := Lib.hid (T1.out.trans (Touch.alloc (we.alloc (.cells (pdcells ⟨p.name, false, p.params, p.vars, p.result⟩ xv xb xe) 53)) (.cells mbp 53)) (fun x h _ => h))
      have KG2 := Lib.hid (KG1.out.old (.cells mbp 53))
      have HO2 : Hid (((we.alloc (.cells (pdcells ⟨p.name, false, p.params, p.vars, p.result⟩ xv xb xe) 53)).alloc (.cells mbp 53)).ownsRow wc.heap.size 53 7 (.slice (some ⟨(we.alloc (.cells (pdcells ⟨p.name, false, p.params, p.vars, p.result⟩ xv xb xe) 53)).heap.size, 0, none⟩) 0 (m.procs.length + 1)) 0 []) := Lib.hid (World.ownsRow_made (we.alloc (.cells (pdcells ⟨p.name, false, p.params, p.vars, p.result⟩ xv xb xe) 53)) _ (m.procs.length + 1) T1.out.size (by have := HPA.out.reach; unfold maxLen; omega) hmbs)
      have KB2 := Lib.hid (KB1.out.old (.cells mbp 53))
      simp only [World.size_alloc] at HO2
      clear KB1 KG1 T1
      refine hK.out _ _ (Lib.hid (T2.out.mono (fun x h => by cases h))) (fun _ => ?_)
      refine wpAnyH_ready (rs := [7]) (by kernel_rfl) (by simp) ?_
      refine (AllReadyH.cons (o := _) rfl (fun K hK => ?_) AllReadyH.nil)
      refine step_wide rfl _ _ 43 (by rfl) wc.heap.size 53 _ 7 112 Try.underlying43 info_pd (by rfl) (by decide) (by rfl) HO2.out (A := some _) (m := 1) (c := 1) (by rfl) (pdcells ⟨p.name, false, p.params, p.vars, p.result⟩ xv xb xe).toList (by rfl) (.inr ⟨_, rfl, World.news_of_block KB2.out⟩) (fun u hu => pdcells_one _ HPV.out.rows.one HXB.out.1 HXB.out.2.1 u (mem_tl hu)) (by unfold maxLen; omega) (by omega) T2.out.size ?_
      intro u1 w8 ho8 T8
      have TA := Lib.hid (T2.out.trans T8 (fun x hx hlt => by simp only [Option.mem_toList, Option.mem_def] at hx; have := (own_lt HO2.out x hx).2; omega))
      have KGA := Lib.hid (T8.blk KG2.out (fun hm => by simp only [Option.mem_toList, Option.mem_def] at hm; have := (own_lt HO2.out _ hm).2; omega))
      have HOA := Lib.hid ho8
      clear ho8 T8 HO2 KB2 KG2
      obtain ⟨A', c', e', HA'⟩ := rows_newsN (sz := 7) (by decide) (HPR.out) (HXR.out.below (HBX.out.trans (TA.out.below HBX.out.size (fun x h => by cases h)))) HZL.out HPA.out.none
      injection e' with e1 e2 e3
      subst e1 e3
      have HA' := Lib.hid HA'
      clear e2
      refine hK.out _ _ (Lib.hid (TA.out.mono (fun x h => by cases h))) (fun _ => ?_)
      refine wpAnyH_ready (rs := [10]) (by kernel_rfl) (by simp) ?_
      refine (AllReadyH.cons (o := _) rfl (fun K hK => ?_) AllReadyH.nil)
      refine step_wide rfl _ _ 43 (by rfl) wc.heap.size 53 _ 7 112 Try.underlying43 info_pd (by rfl) (by decide) (by rfl) HOA.out (by rfl) (List.zipWith (fun p x => (pdcells p x.1 x.2.1 x.2.2).toList) m.procs xs).flatten (by rw [flat_length (sz := 7) (HPR.out), HZL.out]) HA'.out (fun u hu => by obtain ⟨r, hr, hu⟩ := List.mem_flatten.1 hu; exact HPO.out r hr u hu) (by have := HPA.out.reach; unfold maxLen; omega) (by have := HPA.out.reach; omega) TA.out.size ?_
      intro u2 w9 ho9 T9
      have TB := Lib.hid (TA.out.trans T9 (fun x hx hlt => by simp only [Option.mem_toList, Option.mem_def] at hx; have := (own_lt HOA.out x hx).2; omega))
      have KGB := Lib.hid (T9.blk KGA.out (fun hm => by simp only [Option.mem_toList, Option.mem_def] at hm; have := (own_lt HOA.out _ hm).2; omega))
      have ON9 : Hid (OwnL w9 (gm + 1) 53 7 u2 ((pdcells ⟨p.name, false, p.params, p.vars, p.result⟩ xv xb xe).toList :: (List.zipWith (fun p x => (pdcells p x.1 x.2.1 x.2.2).toList) m.procs xs))) := Lib.hid (OwnL.weak (B := wc.heap.size) (by unfold OwnL; rw [List.length_cons, List.flatten_cons, HZL.out, show m.procs.length + 1 = 0 + 1 + m.procs.length from by omega]; exact ho9) (by omega))
      obtain ⟨A9, n9, c9, hu2⟩ := OwnL.form ON9.out
      subst hu2
      clear ho9 T9 HOA KGA HA'
      refine hK.out _ _ (Lib.hid (TB.out.mono (fun x h => by cases h))) (fun _ => ?_)
      refine tke 11 (v := ?v11p2) ?hy11p2 (Lib.hid (TB.out.mono (fun x h => by cases h))) ?rest11p2
      case hy11p2 => intro wq q1; clear q1; simp only [List.getElem_toArray, List.getElem_cons_zero, List.getElem_cons_succ]; go_simp; try with_reducible rfl
      have c1 := KGB.out.cell 8
      have ff1 := KGB.out.frozen 8
      refine wpAnyH_ready (rs := [12]) (by kernel_rfl) (by simp) ?_
      refine (AllReadyH.cons (o := _) rfl (fun K hK => ?_) AllReadyH.nil)
      try simp only [List.getElem_toArray, List.getElem_cons_zero, List.getElem_cons_succ]
      go_simp
      clear c1 ff1
      have TS := Lib.hid (Touch.set w9 ⟨gm, 8, none⟩ (.slice A9 n9 c9))
      have TF := Lib.hid (show Touch wc (w9.setCell ⟨gm, 8, none⟩ (.slice A9 n9 c9)) [gm] from (TB.out.mono (fun x h => by cases h)).trans TS.out (fun x hx _ => hx))
      have KG : Hid (Blk (w9.setCell ⟨gm, 8, none⟩ (.slice A9 n9 c9)) gm (mdcells m.name sb iv yv (.slice A0 m.types.length cap0) gv (.slice Bc nnc kkc) (.slice Bv nnv kkv) (.slice A9 n9 c9) nv) 46) := Lib.hid (KGB.out.set 8 _)
      have OP : Hid (OwnL (w9.setCell ⟨gm, 8, none⟩ (.slice A9 n9 c9)) (gm + 1) 53 7 (.slice A9 n9 c9) ((pdcells ⟨p.name, false, p.params, p.vars, p.result⟩ xv xb xe).toList :: (List.zipWith (fun p x => (pdcells p x.1 x.2.1 x.2.2).toList) m.procs xs))) := Lib.hid (OwnL.touch ON9.out TS.out (fun x hx => by simp only [List.mem_singleton] at hx; omega))
      refine hK.out _ _ TF (fun _ => ?_)
      refine wpAnyH_done (by kernel_rfl) ?_ _
      clear TS ON9 KGB TB TA T2
      go_wp2_with fail
      go_meet
      exact ⟨A9, n9, c9, TF, KG, OP⟩
  case rest =>
  obtain ⟨Bp, nnp, kkp, TF, KG2, OP⟩ := hcut
  have hgm := KG.out.lt
  replace KM := Lib.hid (TF.out.blk KM.out (by simp only [List.mem_singleton]; omega))
  replace KC := Lib.hid (TF.out.blk KC.out (by simp only [List.mem_singleton]; omega))
  replace KV := Lib.hid (TF.out.blk KV.out (by simp only [List.mem_singleton]; omega))
  replace KP := Lib.hid (TF.out.blk KP.out (by simp only [List.mem_singleton]; omega))
  replace KS := Lib.hid (TF.out.blk KS.out (by simp only [List.mem_singleton]; omega))
  replace HS := Lib.hid (SmOwn.far HS.out TF.out (fun g hg hm => by simp only [List.mem_singleton] at hm; have := HIN.out g hg; omega))
  replace HBX := Lib.hid (HBX.out.trans (TF.out.below HBX.out.size (fun x hx => by simp only [List.mem_singleton] at hx; omega)))
  replace OC := Lib.hid (TF.out.owns OC.out (fun g hg hm => by simp only [List.mem_singleton] at hm; have := (OwnL.lt OC.out g hg).2; omega))
  replace OV := Lib.hid (TF.out.owns OV.out (fun g hg hm => by simp only [List.mem_singleton] at hm; have := (OwnL.lt OV.out g hg).2; omega))
  replace KG := KG2
  clear KG2 TF hgm
  go_upto_region 10 with fail
  have HM2 := Lib.hid (show MdAt wc (⟨m.name, m.types, ⟨c.name, c.type, c.n, c.s, false⟩ :: m.consts, ⟨v.name, v.type, false, v.ref⟩ :: m.vars, ⟨p.name, false, p.params, p.vars, p.result⟩ :: m.procs⟩ : Md) A0 cap0 (.slice Bc nnc kkc) (.slice Bv nnv kkv) (.slice Bp nnp kkp) from by
    refine ⟨⟨HFT.out.name, HFT.out.types, fun x hx => ?_, fun x hx => ?_, fun x hx => ?_⟩, HTY.out.below HBX.out, ⟨own_rows (fun r hr => ?_) OC.out, fun x hx => ?_⟩, ⟨own_rows (fun r hr => ?_) OV.out, fun x hx => ?_⟩, ⟨(xv, xb, xe) :: xs, ?_, own_rows (fun r hr => ?_) OP.out, fun k q y hq hy => ?_⟩, ?_, ?_, ?_⟩
    · rcases List.mem_cons.1 hx with rfl | hx
      · exact HCF.out
      · exact HFT.out.consts x hx
    · rcases List.mem_cons.1 hx with rfl | hx
      · exact HVF.out.1
      · exact HFT.out.vars x hx
    · rcases List.mem_cons.1 hx with rfl | hx
      · exact HXB.out.2.2
      · exact HFT.out.procs x hx
    · rcases List.mem_cons.1 hr with rfl | hr
      · rfl
      · obtain ⟨x, _, rfl⟩ := List.mem_map.1 hr; rfl
    · rcases List.mem_cons.1 hx with rfl | hx
      · exact HCF.out
      · exact HFT.out.consts x hx
    · rcases List.mem_cons.1 hr with rfl | hr
      · rfl
      · obtain ⟨x, _, rfl⟩ := List.mem_map.1 hr; rfl
    · rcases List.mem_cons.1 hx with rfl | hx
      · exact HVF.out
      · exact HVR.out.fit x hx
    · show xs.length + 1 = m.procs.length + 1; rw [HXL.out]
    · rcases List.mem_cons.1 hr with rfl | hr
      · rfl
      · exact HPR.out r hr
    · cases k with
      | zero =>
        simp only [List.getElem?_cons_zero, Option.some.injEq] at hq hy
        subst hq hy
        exact ⟨HPV.out.below HBX.out, HXB.out.1, HXB.out.2.1, HXB.out.2.2⟩
      | succ k =>
        rw [List.getElem?_cons_succ] at hq hy
        obtain ⟨g1, g2⟩ := HXE.out k q y hq hy
        exact ⟨g1.below HBX.out, g2⟩
    · show (m.consts.length + 1) * 56 ≤ _; have := HCA.out.reach; omega
    · show (m.vars.length + 1) * 32 ≤ _; have := HVA.out.reach; omega
    · show (m.procs.length + 1) * 112 ≤ _; have := HPA.out.reach; omega)
  have l1 := load_blk Try.underlying46 rfl sz_mod KG.out rfl
  clear KM KC KV KP OC OV OP
  go_wp2_with fail
  refine (of_any HM2.out H1.out.1 H1.out.2.1 H1.out.2.2.1 H1.out.2.2.2.1 H1.out.2.2.2.2).mono ?_
  rintro e wa ⟨s2, er2, ct, vt, pt, pts, rfl, han, ht, hb⟩
  obtain ⟨e1, e2⟩ := (OfAns.hide HAN.out (c := ⟨c.name, c.type, c.n, c.s, false⟩) (v := ⟨v.name, v.type, false, v.ref⟩) (p := ⟨p.name, false, p.params, p.vars, p.result⟩) rfl rfl rfl).same han
  subst e1 e2
  have hst := store_blk_new wa zSym (scells s ct vt pt) 26 sz_sym rfl rfl ht.ones
  have bnew := (Below.refl _ wa).alloc (Nat.le_refl _) (.cells (scells s ct vt pt) 26)
  have KT1 := Lib.hid (Blk.new wa (scells s ct vt pt) 26)
  have KS1 := Lib.hid ((KS.out.step hb).step bnew)
  have HS1 := Lib.hid ((HS.out.below hb).below bnew)
  have HT1 := Lib.hid (ht.below bnew)
  have HX1 := Lib.hid ((HBX.out.trans (hb.mono HBX.out.size)).alloc (by have := HBX.out.size; have := hb.size; omega) (.cells (scells s ct vt pt) 26))
  clear han ht hb bnew KS HS HBX KG HM2
  go_upto_region 11 with fail
  clear hst l1
  generalize wa.heap.size = gt at KT1 ⊢
  generalize wa.alloc (.cells (scells s ct vt pt) 26) = wb at KT1 KS1 HS1 HT1 HX1 ⊢
  obtain ⟨q, hq⟩ := boolOf (smOk s)
  obtain ⟨L, ek, sm, hans⟩ : ∃ L er sm, AnsOf q s L er sm := ⟨_, _, _, rfl, rfl, rfl⟩
  have HQ := Lib.hid hq
  have HN := Lib.hid hans
  clear hq hans
  have l1 := load_blk Try.underlying26 rfl sz_sym KS1.out rfl
  go_wp2_with fail
  refine (key_q s HS1.out.at HQ.out HN.out).mono ?_
  rintro e wk ⟨rfl, hb⟩
  have KS2 := Lib.hid (KS1.out.step hb)
  have KT2 := Lib.hid (KT1.out.step hb)
  have HS2 := Lib.hid (HS1.out.below hb)
  have HT2 := Lib.hid (HT1.out.below hb)
  have HX2 := Lib.hid (HX1.out.trans (hb.mono HX1.out.size))
  clear hb l1 KS1 KT1 HS1 HT1 HX1
  have l1 := load_blk Try.underlying26 rfl sz_sym KT2.out rfl
  go_wp2_with fail
  refine (key_q s HT2.out.at HQ.out HN.out).mono ?_
  rintro e wl ⟨rfl, hb⟩
  have KS3 := Lib.hid (KS2.out.step hb)
  have KT3 := Lib.hid (KT2.out.step hb)
  have HS3 := Lib.hid (HS2.out.below hb)
  have HT3 := Lib.hid (HT2.out.below hb)
  have HX3 := Lib.hid (HX2.out.trans (hb.mono HX2.out.size))
  clear hb l1 KS2 KT2 HS2 HT2 HX2
  have l1 := load_blk Try.underlying26 rfl sz_sym KS3.out rfl
  have l2 := load_blk Try.underlying26 rfl sz_sym KT3.out rfl
  have H3 := Lib.hid (same_any s HS3.out.at HT3.out.at)
  go_wp2_with (go_at_call 15; refine H3.out.mono ?_; rintro e wz ⟨rfl, hbz⟩; have HBz := Lib.hid (HX3.out.trans (hbz.mono HX3.out.size)); clear hbz)
  go_ret
  exact ⟨rfl, HBz.out⟩
end
end Go.Proofs.Ytgemnmceflcpcaa
