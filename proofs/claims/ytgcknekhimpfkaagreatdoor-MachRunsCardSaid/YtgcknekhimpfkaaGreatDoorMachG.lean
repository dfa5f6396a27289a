/- A machine's run. -/
import Derived.Test.YtgcknekhimpfkaaGreatDoorQM
import Derived.WalkMore
import Derived.ScopeJumps
namespace Go.Proofs.YtgcknekhimpfkaaGreatDoor
open Go Go.RowKit Go.Lib Go.Proofs.YtgcknekhimpfkaaGreatDoor.Pl
open List renaming getElem_toArray → lA, getElem_cons_zero → lB, getElem_cons_succ → lC
set_option linter.unusedVariables false
set_option linter.unusedSimpArgs false
attribute [local go_sem ↓] exec_load_cpu exec_store_cpu exec_load_acc exec_store_acc exec_load_end exec_store_end
/-- What stands at the label. -/
inductive RunJ (w0 : World) (base m bm bd be n : Nat) (v0 : BV) (cut st : Int) (Z : MRes) : Act → World → Prop where
 | mk (u7 u8 u9 u10 u11 u12 u13 u14 u15 u16 u17 u18 u19 u20 u21 u22 u23 u24 u25 u26 u27 u28 u29 u30 u31 u32 u33 u34 u35 u36 u37 u38 u39 u40 u41 u42 u43 u44 u45 u46 u47 u48 u49 u50 u51 u52 u53 u54 u55 u56 u57 u58 u59 u60 u61 u62 u63 u64 u65 u66 u67 u68 u69 u70 u71 u72 u73 u74 u75 u76 u77 u78 u79 u80 u81 u82 u83 u84 u85 u86 u87 u88 u89 u90 u91 u92 u93 u94 u95 u96 u97 u98 u99 u100 u101 u102 u103 u104 u105 u106 u107 u108 u109 u110 u111 u112 u113 u114 u115 u116 u117 u118 u119 u120 u121 u122 u123 u124 u125 u126 u127 u128 u129 u130 u131 u132 u133 u134 u135 u136 : Value) (did : Nat) (v : BV) (x : BS) (y : MC) (w : World) (hR : Hid (RunW w0 w base m bm bd be v0 v x y did)) (hdn : did ≤ n) (hyc : y.cut = cut) (hys : y.st = st) (hZ : Hid (runM y.cut (n - did) y.cs x y.gone did = Z)) : RunJ w0 base m bm bd be n v0 cut st Z { tmps := #[.pointer (some ⟨m, 0, none⟩), .int .i64 (n : Int), .pointer (some ⟨bm, 0, none⟩), undef, .pointer (some ⟨be, 0, none⟩), .pointer (some ⟨bd, 0, none⟩), .func (.func 32) #[] #[.pointer (some ⟨bm, 0, none⟩), .pointer (some ⟨bd, 0, none⟩)], u7, u8, u9, u10, u11, u12, u13, u14, u15, u16, u17, u18, u19, u20, u21, u22, u23, u24, u25, u26, u27, u28, u29, u30, u31, u32, u33, u34, u35, u36, u37, u38, u39, u40, u41, u42, u43, u44, u45, u46, u47, u48, u49, u50, u51, u52, u53, u54, u55, u56, u57, u58, u59, u60, u61, u62, u63, u64, u65, u66, u67, u68, u69, u70, u71, u72, u73, u74, u75, u76, u77, u78, u79, u80, u81, u82, u83, u84, u85, u86, u87, u88, u89, u90, u91, u92, u93, u94, u95, u96, u97, u98, u99, u100, u101, u102, u103, u104, u105, u106, u107, u108, u109, u110, u111, u112, u113, u114, u115, u116, u117, u118, u119, u120, u121, u122, u123, u124, u125, u126, u127, u128, u129, u130, u131, u132, u133, u134, u135, u136], defers := [] } w
/-- How many steps are left. -/
def RunMu (n bd : Nat) (w : World) : Nat := n - (intOf ((w.cell? ⟨bd, 0, none⟩).getD undef)).toNat
/-- A scope with jumps, what the label comes to proved once. -/
theorem wp_scope_jumps2 {P : Program} {a : Act} {w : World} {Q : Exit → Act → World → Prop} {c rest : Code} (l : Nat) (J : Act → World → Prop) (μ : Act → World → Nat) (hf : findLabel c l = some (Code.skip.seq rest))
 (pass : ∀ a w, J a w → rest.wp P (Exit.jump l (fun a' w' => J a' w' ∧ μ a' w' < μ a w) Q) a w)
 (first : (∀ a w, J a w → rest.wp P (Exit.jump l J Q) a w) → c.wp P (Exit.jump l J Q) a w) : (Code.scope c).wp P Q a w :=
 wp_scope_jumps l J μ hf (first fun a w hJ => Code.wp_mono (fun e a' w' q => by
  cases e with
  | goto l' => exact ⟨q.1, q.2.1⟩
  | normal => exact q
  | exit id => exact q
  | ret => exact q
  | panic ch => exact q
  | outgrown => exact q) (pass a w hJ)) (fun a w hJ => wp_seq (wp_skip (pass a w hJ)))
theorem runM_gone (cut : Int) (n : Nat) (cs : Array Value) (x : BS) (d : Nat) : runM cut n cs x true d = ⟨7, 0, 0, d, cs, x, true⟩ := by cases n <;> rfl
theorem runM_stop {cut : Int} {n : Nat} {cs : Array Value} {x : BS} {d : Nat} {k t a : Int} {s : Nat} {x' : BS} (h : stepM cs x = .stop k t a s x') : runM cut (n + 1) cs x false d = ⟨k, t, a, d + s, cs, x', false⟩ := by
 show (match stepM cs x with
  | .stop k t a s x' => (⟨k, t, a, d + s, cs, x', false⟩ : MRes)
  | .go cs' x' lk => runM cut n cs' x' (lk && lookV cut x'.ws.length) (d + 1)) = _
 rw [h]
theorem runM_go {cut : Int} {n : Nat} {cs : Array Value} {x : BS} {d : Nat} {cs' : Array Value} {x' : BS} {lk : Bool} (h : stepM cs x = .go cs' x' lk) : runM cut (n + 1) cs x false d = runM cut n cs' x' (lk && lookV cut x'.ws.length) (d + 1) := by
 show (match stepM cs x with
  | .stop k t a s x' => (⟨k, t, a, d + s, cs, x', false⟩ : MRes)
  | .go cs' x' lk => runM cut n cs' x' (lk && lookV cut x'.ws.length) (d + 1)) = _
 rw [h]
theorem doneM_go {cs : Array Value} {i : In8} {l h : Int} {x' : BS} (h1 : ¬ h = 1) (h2 : ¬ h = 2) {X : Array Value} {n : Int} {t : Bool} (hx : i.ex cs l = (X, n, t)) {k a : Int} (hk : i.k = k) (ha : i.ad cs = a) :
 doneM cs i (l, h, x') = if t then trapM cs x' n else .go X x' (decide (k = 3) && decide (a = 4294967252)) := by
 unfold doneM
 simp only [hx, hk, ha]
 rw [if_neg h1, if_neg h2]
theorem runMu_eq {n bd d : Nat} {w : World} (h : w.cell? ⟨bd, 0, none⟩ = some (.int .i64 (d : Int))) : RunMu n bd w = n - d := by
 unfold RunMu
 rw [h]
 simp [intOf]
theorem new_end (w : World) (k t a s : Int) (Z : Array Value) (hz : Z.size = 4) : (storeWhole 46 (.pointer (some ⟨w.heap.size, 0, none⟩)) (.agg (endA k t a s))).run Tryz.prog (w.alloc (.cells Z 46)) = .ok () (w.alloc (.cells (endA k t a s) 46)) := by
 have := store_end (k := k) (t := t) (a := a) (s := s) (Blk.new w Z 46) hz
 rw [alloc_setRow] at this
 exact this
theorem mlook_any {w : World} {base m : Nat} {v : BV} {x : BS} {y : MC} (M : MachAt w base m v x y) :
 Calls Tryz.prog 33 #[.pointer (some ⟨m, 0, none⟩)] w fun e w' => e = .returned (.tuple #[]) ∧ MachAt w' base m v x { y with gone := lookV y.cut x.ws.length } ∧ MMoves w w' m v v := by
 by_cases h : 0 ≤ y.cut
 ·have e : lookV y.cut x.ws.length = decide (y.cut ≤ (x.ws.length : Int)) := by unfold lookV; rw [decide_eq_true h, Bool.true_and]
  rw [e]
  exact mlook_on M h
 ·have e : lookV y.cut x.ws.length = false := by unfold lookV; rw [decide_eq_false h, Bool.false_and]
  rw [e]
  exact mlook_off M (by omega)
theorem mc_eq {y yl : MC} {g : Bool} {d : Int} (h1 : yl.cut = y.cut) (h2 : yl.st = y.st) (h3 : yl.gone = g) : ({ yl with st := yl.st + d } : MC) = { y with cs := yl.cs, gone := g, st := y.st + d } := by
 cases y; cases yl; simp_all
/-- What a run leaves. -/
def RunE (w : World) (base m : Nat) (v : BV) (y : MC) (Y : MRes) (e : Ending) (w' : World) : Prop := ∃ Z, Y = Z ∧ e = .returned (.agg (endA Z.k Z.t Z.a Z.did)) ∧ ∃ v', MachAt w' base m v' Z.x { y with cs := Z.cs, gone := Z.gone, st := y.st + Z.did } ∧ MMoves w w' m v v'
theorem RunE.mk' {w w' : World} {base m : Nat} {v v' : BV} {y yl : MC} {Y Z : MRes} {k t a : Int} {d : Nat} {xl : BS} {g : Bool} (hY : Y = Z) (hZ : Z = ⟨k, t, a, d, yl.cs, xl, g⟩) (h1 : yl.cut = y.cut) (h2 : yl.st = y.st) (h3 : yl.gone = g) (M : MachAt w' base m v' xl { yl with st := yl.st + (d : Int) }) (V : MMoves w w' m v v') :
 RunE w base m v y Y (.returned (.agg (endA k t a d))) w' := by
 subst hZ
 refine ⟨_, hY, rfl, v', ?_, V⟩
 rw [mc_eq h1 h2 h3] at M
 exact M
theorem RunE.mk2 {w w' : World} {base m : Nat} {v v' : BV} {y yl : MC} {Y Z : MRes} {k t a dI : Int} {d : Nat} {xl : BS} {g : Bool} (hd : (d : Int) = dI) (hY : Y = Z) (hZ : Z = ⟨k, t, a, d, yl.cs, xl, g⟩) (h1 : yl.cut = y.cut) (h2 : yl.st = y.st) (h3 : yl.gone = g) (M : MachAt w' base m v' xl { yl with st := yl.st + dI }) (V : MMoves w w' m v v') :
 RunE w base m v y Y (.returned (.agg (endA k t a dI))) w' := by
 subst hd
 exact RunE.mk' hY hZ h1 h2 h3 M V
set_option maxRecDepth 100000 in
set_option maxHeartbeats 4000000 in
theorem mrun_any {w : World} {base m : Nat} {v : BV} {x : BS} {y : MC} (M : MachAt w base m v x y) (hT : Tab w) (hpos : 0 < base) (most : Int) (n : Nat) (hn : min (max most 0) 10000000 = (n : Int)) (s0 : 0 ≤ y.st) (s1 : y.st ≤ 9000000000000000000) :
 Calls Tryz.prog 11 #[.pointer (some ⟨m, 0, none⟩), .int .i64 most] w (RunE w base m v y (runM y.cut n y.cs x (lookV y.cut x.ws.length) 0)) := by
 have hmf := hmf_all
 go_enter Tryz.func11, Tryz.ntmps11
 obtain ⟨Z, hZ⟩ : ∃ Z, runM y.cut n y.cs x (lookV y.cut x.ws.length) 0 = Z := ⟨_, rfl⟩
 have HZ := hid hZ
 have HM := hid M
 have HT := hid hT
 have hn7 : (n : Int) ≤ 10000000 := by omega
 have hn8 : n ≤ 10000000 := by omega
 clear hZ M hT
 go_wp2_with fail
 refine wp_scope_jumps2 0 (RunJ w base m w.heap.size (w.heap.size + 2) (w.heap.size + 1) n v y.cut y.st Z) (fun _ w' => RunMu n (w.heap.size + 2) w') rfl ?pass ?first
 case first =>
  intro hpass
  have hB : Below w.heap.size w ((w.alloc (.cells #[.pointer (some ⟨m, 0, none⟩)] 28)).alloc (.cells #[.int .i64 0, .int .i64 0, .int .u32 0, .int .i64 0] 46)) := ((Below.refl _ _).alloc (Nat.le_refl _) _).alloc (by simp) _
  have k1 := (Blk.new w #[.pointer (some ⟨m, 0, none⟩)] 28).old (.cells #[.int .i64 0, .int .i64 0, .int .u32 0, .int .i64 0] 46)
  have k2 := Blk.new (w.alloc (.cells #[.pointer (some ⟨m, 0, none⟩)] 28)) #[.int .i64 0, .int .i64 0, .int .u32 0, .int .i64 0] 46
  simp only [World.size_alloc] at k2
  go_upto_region 6 with fail
  have hm : (if 10000000 < if most < 0 then 0 else most then 10000000 else if most < 0 then 0 else most) = (n : Int) := by
   rw [← hn]
   by_cases h0 : most < 0
   ·simp only [h0, if_true]; omega
   ·simp only [h0, if_false]
    by_cases h1 : 10000000 < most
    ·rw [if_pos h1]; omega
    ·rw [if_neg h1]; omega
  rw [hm]
  generalize (if most < 0 then (0 : Int) else most) = mx
  have k3 := Blk.new ((w.alloc (.cells #[.pointer (some ⟨m, 0, none⟩)] 28)).alloc (.cells #[.int .i64 0, .int .i64 0, .int .u32 0, .int .i64 0] 46)) #[.int .i64 0] 2
  have hB2 := hB.alloc (o := .cells #[.int .i64 0] 2) hB.size
  have k1' := k1.old (.cells #[.int .i64 0] 2)
  have k2' := k2.old (.cells #[.int .i64 0] 2)
  have cbm := k1'.cell 0
  simp only [World.size_alloc] at k3
  simp only [List.getElem?_toArray, List.getElem?_cons_zero] at cbm
  have hml := HM.out.mlt
  have hbl := fun g hg => (HM.out.bus.lt g hg).2
  have nf : ∀ k, w.heap.size + k ∉ m :: brow v := fun k hm => by
   rcases List.mem_cons.1 hm with h | h
   ·omega
   ·have := hbl _ h; omega
  have HR0 : Hid (RunW w (((w.alloc (.cells #[.pointer (some ⟨m, 0, none⟩)] 28)).alloc (.cells #[.int .i64 0, .int .i64 0, .int .u32 0, .int .i64 0] 46)).alloc (.cells #[.int .i64 0] 2)) base m w.heap.size (w.heap.size + 2) (w.heap.size + 1) v v x y 0) := hid
   { mach := HM.out.step hB2
     kb := k1'
     kd := k3
     ke := ⟨_, rfl, k2'⟩
     fb := nf 0
     fd := nf 2
     fe := nf 1
     nb := Nat.le_refl _
     nd := by omega
     ne := by omega
     ap := ⟨by omega, by omega, by omega⟩
     mv := MMoves.below hB2
     tab := HT.out.below hB2 HT.out.lt
     pos := hpos
     wpos := HT.out.lt }
  clear k1 k2 k3 k1' k2' hB hB2 nf hbl hm
  generalize ((w.alloc (.cells #[.pointer (some ⟨m, 0, none⟩)] 28)).alloc (.cells #[.int .i64 0, .int .i64 0, .int .u32 0, .int .i64 0] 46)).alloc (.cells #[.int .i64 0] 2) = W0 at *
  go_wp2_with (go_at_call 33; refine (mlook_any HR0.out.mach).mono ?_; rintro e w1 ⟨rfl, M8, V8⟩; have HR1 := hid (HR0.out.mm M8 V8); clear M8 V8)
  go_step3
  refine (by assumption : ∀ a w, Code.wp _ _ _ a w → _) _ _ (hpass _ _ (RunJ.mk _ _ _ _ _ _ _ _ _ _ _ _ _ _ _ _ _ _ _ _ _ _ _ _ _ _ _ _ _ _ _ _ _ _ _ _ _ _ _ _ _ _ _ _ _ _ _ _ _ _ _ _ _ _ _ _ _ _ _ _ _ _ _ _ _ _ _ _ _ _ _ _ _ _ _ _ _ _ _ _ _ _ _ _ _ _ _ _ _ _ _ _ _ _ _ _ _ _ _ _ _ _ _ _ _ _ _ _ _ _ _ _ _ _ _ _ _ _ _ _ _ _ _ _ _ _ _ _ _ _ 0 v x { y with gone := lookV y.cut x.ws.length } w1 HR1 (Nat.zero_le _) rfl rfl HZ))
 case pass =>
  intro a' wl hJ
  cases hJ with
  | mk u7 u8 u9 u10 u11 u12 u13 u14 u15 u16 u17 u18 u19 u20 u21 u22 u23 u24 u25 u26 u27 u28 u29 u30 u31 u32 u33 u34 u35 u36 u37 u38 u39 u40 u41 u42 u43 u44 u45 u46 u47 u48 u49 u50 u51 u52 u53 u54 u55 u56 u57 u58 u59 u60 u61 u62 u63 u64 u65 u66 u67 u68 u69 u70 u71 u72 u73 u74 u75 u76 u77 u78 u79 u80 u81 u82 u83 u84 u85 u86 u87 u88 u89 u90 u91 u92 u93 u94 u95 u96 u97 u98 u99 u100 u101 u102 u103 u104 u105 u106 u107 u108 u109 u110 u111 u112 u113 u114 u115 u116 u117 u118 u119 u120 u121 u122 u123 u124 u125 u126 u127 u128 u129 u130 u131 u132 u133 u134 u135 u136 did vl xl yl wl HR hdn hyc hys HRES =>
  obtain ⟨cbm, hcd, fbd⟩ := HR.out.cells
  have hcd0 := hid hcd
  obtain ⟨cm0, cm23, cm24, cm25⟩ := HR.out.mach.cells
  have hs0 : 0 ≤ yl.st := by omega
  have hs1 : yl.st + (did : Int) ≤ 9223372036854775807 := by omega
  cases hg : yl.gone
  ·rw [hg] at cm24
   have HG := hid hg
   have hres0 := HRES.out
   rw [hg] at hres0
   have HRES2 := hid hres0
   clear hg hres0 HRES
   by_cases hdd : did = n
   ·have hE : Z = ⟨1, 0, 0, did, yl.cs, xl, false⟩ := by rw [← HRES2.out, show n - did = 0 from by omega]; rfl
    have HE := hid hE
    have ht : ((did : Int) == (n : Int)) = true := by simp [hdd]
    clear hE hdd
    go_wp2_with (go_at_call 32; refine (HR.out.ends hs0 hs1 1 0 0).mono ?_; rintro e w1 ⟨rfl, R1⟩; obtain ⟨hst, hres, hM, hV⟩ := R1.fin 1 0 0 (did : Int); have HM9 := hid hM; have HV9 := hid hV; clear hM hV R1)
    simp only [Exit.jump]
    refine bodyPost_ret (v := .agg (endA 1 0 0 did)) ?_ rfl (RunE.mk' HZ.out HE.out hyc hys HG.out HM9.out HV9.out)
    simp [results, Tryz.results11, asAddr, hres]
   ·have ht : ((did : Int) == (n : Int)) = false := by simp; omega
    obtain ⟨k1, hk1⟩ : ∃ k1, n - did = k1 + 1 := ⟨n - did - 1, by omega⟩
    have hres0 := HRES2.out
    rw [hk1] at hres0
    have HRES3 := hid hres0
    have hk2 : n - (did + 1) = k1 := by omega
    have HK1 := hid hk1
    have HDL := hid (show did < n by omega)
    clear hres0 hdd HRES2 hk1
    obtain ⟨hpc, p0, p1⟩ := pc_is HR.out.mach.ok
    have cm22 := HR.out.mach.pcCell hpc
    have HPC := hid hpc
    clear hpc
    by_cases hin : pcOf yl.cs < 1048576 ∧ pcOf yl.cs % 4 = 0
    ·obtain ⟨W, hW⟩ : ∃ W, getV xl.M (pcOf yl.cs).toNat = W := ⟨_, rfl⟩
     have hWb := getV_bd HR.out.mach.bus.mb (pcOf yl.cs).toNat
     rw [hW] at hWb
     obtain ⟨W0, W1⟩ := hWb
     obtain ⟨⟨jf, ju, jv, ja, jb, jo, jc, jn⟩, hi⟩ : ∃ i, inOf W = i := ⟨_, rfl⟩
     have HI := hid hi
     have HIN := hid hin
     cases hq : decOk W
     ·have hE : Z = ⟨5, 0, pcOf yl.cs, did, yl.cs, xl, false⟩ := by
       rw [← HRES3.out]
       exact runM_stop (s := 0) (by unfold stepM; rw [if_pos hin, hW, hq]; rfl)
      have HE := hid hE
      have HQ := hid hq
      have HW := hid hW
      clear hE hin hq hW hi
      generalize pcOf yl.cs = pc at *
      go_wp2_with (first | (go_at_call 34; refine (mword HR.out.mach pc p0 HIN.out.1 HIN.out.2 HW.out).mono ?_; rintro e w8 ⟨rfl, rfl⟩) | (go_at_call 35; refine (mdec8 HI.out HQ.out W0 W1 _ HR.out.tab).mono ?_; rintro e w2 ⟨rfl, hb2⟩; have HRa := hid ((HR.out.step hb2).alloc (.cells #[.int .i64 jf, .bool ju, .bool jv, .int .i64 ja, .int .i64 jb, .int .i64 jo, .int .i64 jc, .int .i64 jn] 92)); clear hb2) | (go_at_call 32; refine (HRa.out.ends hs0 hs1 5 0 pc).mono ?_; rintro e w1 ⟨rfl, R1⟩; obtain ⟨hst, hres, hM, hV⟩ := R1.fin 5 0 pc (did : Int); have HM9 := hid hM; have HV9 := hid hV; clear hM hV R1))
      simp only [Exit.jump]
      refine bodyPost_ret (v := .agg (endA 5 0 pc did)) ?_ rfl (RunE.mk' HZ.out HE.out hyc hys HG.out HM9.out HV9.out)
      simp [results, Tryz.results11, asAddr, hres]
     ·have HQ := hid hq
      have HW := hid hW
      have hst0 : stepM yl.cs xl = doneM yl.cs ⟨jf, ju, jv, ja, jb, jo, jc, jn⟩ (xl.act (⟨jf, ju, jv, ja, jb, jo, jc, jn⟩ : In8).k ((⟨jf, ju, jv, ja, jb, jo, jc, jn⟩ : In8).ad yl.cs) ((⟨jf, ju, jv, ja, jb, jo, jc, jn⟩ : In8).val yl.cs)) := by
       unfold stepM
       rw [if_pos hin, hW, hq, if_pos rfl, hi]
      have HST := hid hst0
      clear hin hq hW hi hst0
      go_upto_region 18 with (first | (go_at_call 34; refine (mword HR.out.mach (pcOf yl.cs) p0 HIN.out.1 HIN.out.2 HW.out).mono ?_; rintro e w8 ⟨rfl, rfl⟩) | (go_at_call 35; refine (mdec8 HI.out HQ.out W0 W1 _ HR.out.tab).mono ?_; rintro e w2 ⟨rfl, hb2⟩; have HRa := hid ((HR.out.step hb2).alloc (.cells #[.int .i64 jf, .bool ju, .bool jv, .int .i64 ja, .int .i64 jb, .int .i64 jo, .int .i64 jc, .int .i64 jn] 92)); have KIa := hid (Blk.new w2 #[.int .i64 jf, .bool ju, .bool jv, .int .i64 ja, .int .i64 jb, .int .i64 jo, .int .i64 jc, .int .i64 jn] 92); have HB2 := hid hb2; clear hb2))
      clear KIa
      have SIa := hid (Side.new (HR.out.step HB2.out) #[.int .i64 jf, .bool ju, .bool jv, .int .i64 ja, .int .i64 jb, .int .i64 jo, .int .i64 jc, .int .i64 jn] 92)
      generalize w2.alloc (.cells #[.int .i64 jf, .bool ju, .bool jv, .int .i64 ja, .int .i64 jb, .int .i64 jo, .int .i64 jc, .int .i64 jn] 92) = wa at HRa SIa ⊢
      generalize w2.heap.size = gi at SIa ⊢
      clear HB2 cbm hcd fbd cm0 cm22 cm23 cm24 cm25
      obtain ⟨JK, hK⟩ : ∃ JK, (⟨jf, ju, jv, ja, jb, jo, jc, jn⟩ : In8).k = JK := ⟨_, rfl⟩
      obtain ⟨JA, hA⟩ : ∃ JA, (⟨jf, ju, jv, ja, jb, jo, jc, jn⟩ : In8).ad yl.cs = JA := ⟨_, rfl⟩
      obtain ⟨JQ, hQ⟩ : ∃ JQ, (⟨jf, ju, jv, ja, jb, jo, jc, jn⟩ : In8).val yl.cs = JQ := ⟨_, rfl⟩
      have HK := hid hK
      have HA := hid hA
      have HQ9 := hid hQ
      clear hK hA hQ
      go_cut [11] from 72 to 77 (fun s11 wx => ∃ ga, s11 = .pointer (some ⟨ga, 0, none⟩) ∧ Hid (RunW w wx base m w.heap.size (w.heap.size + 2) (w.heap.size + 1) v vl xl yl did) ∧ Hid (Side w wx m w.heap.size (w.heap.size + 2) (w.heap.size + 1) vl gi #[.int .i64 jf, .bool ju, .bool jv, .int .i64 ja, .int .i64 jb, .int .i64 jo, .int .i64 jc, .int .i64 jn] 92) ∧ Hid (Side w wx m w.heap.size (w.heap.size + 2) (w.heap.size + 1) vl ga #[.int .i64 JK, .int .u32 JA, .int .u32 JQ] 96) ∧ Hid (gi ≠ ga))
      case first =>
       have JR : Hid (RunW w wa.drew base m w.heap.size (w.heap.size + 2) (w.heap.size + 1) v vl xl yl did) := hid (HRa.out.drew)
       have JI : Hid (Side w wa.drew m w.heap.size (w.heap.size + 2) (w.heap.size + 1) vl gi #[.int .i64 jf, .bool ju, .bool jv, .int .i64 ja, .int .i64 jb, .int .i64 jo, .int .i64 jc, .int .i64 jn] 92) := hid (SIa.out.drew)
       refine wp_region_held_drew (S := (fun w' => Hid (RunW w w' base m w.heap.size (w.heap.size + 2) (w.heap.size + 1) v vl xl yl did) ∧ Hid (Side w w' m w.heap.size (w.heap.size + 2) (w.heap.size + 1) vl gi #[.int .i64 jf, .bool ju, .bool jv, .int .i64 ja, .int .i64 jb, .int .i64 jo, .int .i64 jc, .int .i64 jn] 92))) (by kernel_rfl) ⟨JR, JI⟩ (fun hHeld => ?_)
       clear hHeld
       generalize wa.drew = wd at JR JI ⊢
       have hHeld : ((fun w' => Hid (RunW w w' base m w.heap.size (w.heap.size + 2) (w.heap.size + 1) v vl xl yl did) ∧ Hid (Side w w' m w.heap.size (w.heap.size + 2) (w.heap.size + 1) vl gi #[.int .i64 jf, .bool ju, .bool jv, .int .i64 ja, .int .i64 jb, .int .i64 jo, .int .i64 jc, .int .i64 jn] 92)) wd) := ⟨JR, JI⟩
       refine tke 0 (v := ?v0_1) ?hy0_1 (by assumption) ?rest0_1
       case hy0_1 => rintro wq ⟨qR, qI⟩; have z0 := qR.out.cells.1; have z1 := qR.out.mach.loadCpu; obtain ⟨i0, i1, i2, i3, i4, i5, i6, i7⟩ := accCells qI.out.blk; clear qR qI; simp only [lA, lB, lC]; go_simp; try with_reducible rfl
       refine tke 1 (v := ?v1_2) ?hy1_2 (by assumption) ?rest1_2
       case hy1_2 => rintro wq ⟨qR, qI⟩; have z0 := qR.out.cells.1; have z1 := qR.out.mach.loadCpu; obtain ⟨i0, i1, i2, i3, i4, i5, i6, i7⟩ := accCells qI.out.blk; clear qR qI; simp only [lA, lB, lC]; go_simp; try with_reducible rfl
       refine tke 2 (v := ?v2_3) ?hy2_3 (by assumption) ?rest2_3
       case hy2_3 => rintro wq ⟨qR, qI⟩; have z0 := qR.out.cells.1; have z1 := qR.out.mach.loadCpu; obtain ⟨i0, i1, i2, i3, i4, i5, i6, i7⟩ := accCells qI.out.blk; clear qR qI; simp only [lA, lB, lC]; go_simp; try with_reducible rfl
       refine tke 3 (v := ?v3_4) ?hy3_4 (by assumption) ?rest3_4
       case hy3_4 => rintro wq ⟨qR, qI⟩; have z0 := qR.out.cells.1; have z1 := qR.out.mach.loadCpu; obtain ⟨i0, i1, i2, i3, i4, i5, i6, i7⟩ := accCells qI.out.blk; clear qR qI; simp only [lA, lB, lC]; go_simp; try with_reducible rfl
       refine tke 4 (v := ?v4_5) ?hy4_5 (by assumption) ?rest4_5
       case hy4_5 => rintro wq ⟨qR, qI⟩; have z0 := qR.out.cells.1; have z1 := qR.out.mach.loadCpu; obtain ⟨i0, i1, i2, i3, i4, i5, i6, i7⟩ := accCells qI.out.blk; clear qR qI; simp only [lA, lB, lC]; go_simp; try with_reducible rfl
       refine wpAnyH_ready (rs := [5, 6]) (by kernel_rfl) (by simp) ?_
       refine AllReadyH.cons (o := _) rfl (fun K hK => ?_) (AllReadyH.cons (o := _) rfl (fun K hK => ?_) AllReadyH.nil)
       ·skip
        try simp only [lA, lB, lC]
        go_simp
        go_at_call 36
        refine (macc8 JR.out.mach.ok HK.out HA.out HQ9.out _ JR.out.tab).mono ?_
        rintro e w1 ⟨rfl, hb1⟩
        have LR := hid (JR.out.step hb1)
        have LI := hid (JI.out.step hb1)
        clear hb1
        have hHeld := (⟨LR, LI⟩ : ((fun w' => Hid (RunW w w' base m w.heap.size (w.heap.size + 2) (w.heap.size + 1) v vl xl yl did) ∧ Hid (Side w w' m w.heap.size (w.heap.size + 2) (w.heap.size + 1) vl gi #[.int .i64 jf, .bool ju, .bool jv, .int .i64 ja, .int .i64 jb, .int .i64 jo, .int .i64 jc, .int .i64 jn] 92)) _))
        refine hK.out _ _ hHeld (fun _ => ?_)
        try simp only [lA, lB, lC]
        refine wpAnyH_ready (rs := [6]) (by kernel_rfl) (by simp) ?_
        refine (AllReadyH.cons (o := _) rfl (fun K hK => ?_) AllReadyH.nil)
        try simp only [lA, lB, lC]
        go_simp
        have MR := hid (LR.out.alloc (.cells #[.int .i64 0, .int .u32 0, .int .u32 0] 96))
        have MI := hid (LI.out.alloc (.cells #[.int .i64 0, .int .u32 0, .int .u32 0] 96))
        have MA := hid (Side.new LR.out #[.int .i64 0, .int .u32 0, .int .u32 0] 96)
        have hne : Hid (gi ≠ w1.heap.size) := hid (Nat.ne_of_lt LI.out.blk.lt)
        refine hK.out _ _ ⟨MR, MI⟩ (fun _ => ?_)
        try simp only [lA, lB, lC]
        generalize w1.alloc (.cells #[.int .i64 0, .int .u32 0, .int .u32 0] 96) = wy at MR MI MA ⊢
        generalize w1.heap.size = ga at MA hne ⊢
        have hst := store_acc (cs := #[.int .i64 JK, .int .u32 JA, .int .u32 JQ]) MA.out.blk rfl rfl (acc_one JK JA JQ)
        refine wpAnyH_ready (rs := [7]) (by kernel_rfl) (by simp) ?_
        refine (AllReadyH.cons (o := _) rfl (fun K hK => ?_) AllReadyH.nil)
        try simp only [lA, lB, lC]
        go_simp
        have PR := hid (MR.out.sideRow MA.out #[.int .i64 JK, .int .u32 JA, .int .u32 JQ])
        have PI := hid (MI.out.farRow hne.out #[.int .i64 JK, .int .u32 JA, .int .u32 JQ])
        have PA := hid (MA.out.setRow #[.int .i64 JK, .int .u32 JA, .int .u32 JQ])
        refine hK.out _ _ ⟨PR, PI⟩ (fun _ => ?_)
        try simp only [lA, lB, lC]
        refine wpAnyH_done (by kernel_rfl) ?_ _
        clear hst
        go_wp2_with fail
        go_meet
        exact ⟨ga, rfl, PR, PI, PA, hne⟩
       ·skip
        try simp only [lA, lB, lC]
        go_simp
        have MR := hid (JR.out.alloc (.cells #[.int .i64 0, .int .u32 0, .int .u32 0] 96))
        have MI := hid (JI.out.alloc (.cells #[.int .i64 0, .int .u32 0, .int .u32 0] 96))
        have MA := hid (Side.new JR.out #[.int .i64 0, .int .u32 0, .int .u32 0] 96)
        have hne : Hid (gi ≠ wd.heap.size) := hid (Nat.ne_of_lt JI.out.blk.lt)
        refine hK.out _ _ ⟨MR, MI⟩ (fun _ => ?_)
        try simp only [lA, lB, lC]
        generalize wd.alloc (.cells #[.int .i64 0, .int .u32 0, .int .u32 0] 96) = wy at MR MI MA ⊢
        generalize wd.heap.size = ga at MA hne ⊢
        refine wpAnyH_ready (rs := [5]) (by kernel_rfl) (by simp) ?_
        refine (AllReadyH.cons (o := _) rfl (fun K hK => ?_) AllReadyH.nil)
        try simp only [lA, lB, lC]
        go_simp
        go_at_call 36
        refine (macc8 MR.out.mach.ok HK.out HA.out HQ9.out _ MR.out.tab).mono ?_
        rintro e w1 ⟨rfl, hb1⟩
        have NR := hid (MR.out.step hb1)
        have NI := hid (MI.out.step hb1)
        have NA := hid (MA.out.step hb1)
        clear hb1
        have hHeld := (⟨NR, NI⟩ : ((fun w' => Hid (RunW w w' base m w.heap.size (w.heap.size + 2) (w.heap.size + 1) v vl xl yl did) ∧ Hid (Side w w' m w.heap.size (w.heap.size + 2) (w.heap.size + 1) vl gi #[.int .i64 jf, .bool ju, .bool jv, .int .i64 ja, .int .i64 jb, .int .i64 jo, .int .i64 jc, .int .i64 jn] 92)) _))
        refine hK.out _ _ hHeld (fun _ => ?_)
        try simp only [lA, lB, lC]
        have hst := store_acc (cs := #[.int .i64 JK, .int .u32 JA, .int .u32 JQ]) NA.out.blk rfl rfl (acc_one JK JA JQ)
        refine wpAnyH_ready (rs := [7]) (by kernel_rfl) (by simp) ?_
        refine (AllReadyH.cons (o := _) rfl (fun K hK => ?_) AllReadyH.nil)
        try simp only [lA, lB, lC]
        go_simp
        have PR := hid (NR.out.sideRow NA.out #[.int .i64 JK, .int .u32 JA, .int .u32 JQ])
        have PI := hid (NI.out.farRow hne.out #[.int .i64 JK, .int .u32 JA, .int .u32 JQ])
        have PA := hid (NA.out.setRow #[.int .i64 JK, .int .u32 JA, .int .u32 JQ])
        refine hK.out _ _ ⟨PR, PI⟩ (fun _ => ?_)
        try simp only [lA, lB, lC]
        refine wpAnyH_done (by kernel_rfl) ?_ _
        clear hst
        go_wp2_with fail
        go_meet
        exact ⟨ga, rfl, PR, PI, PA, hne⟩
      case rest =>
      obtain ⟨ga, rfl, HR3, SI3, SA3, HNE⟩ := hcut
      clear HR HRa SIa
      have hab := rgV_bd' HR3.out.mach.ok (⟨jf, ju, jv, ja, jb, jo, jc, jn⟩ : In8)
      have hvb := val_bd HR3.out.mach.ok (⟨jf, ju, jv, ja, jb, jo, jc, jn⟩ : In8)
      rw [HA.out] at hab
      rw [HQ9.out] at hvb
      obtain ⟨a0, a1⟩ := hab
      obtain ⟨z0, z1⟩ := hvb
      obtain ⟨JL, JH, jx, hact⟩ : ∃ JL JH jx, xl.act JK JA JQ = (JL, JH, jx) := ⟨_, _, _, rfl⟩
      have hlb := act_bd HR3.out.mach.bus JK JA JQ
      rw [hact] at hlb
      obtain ⟨l0, l1⟩ := hlb
      simp only at l0 l1
      have HACT := hid hact
      have hst1 := HST.out
      rw [HK.out, HA.out, HQ9.out, hact] at hst1
      have HST1 := hid hst1
      clear hact hst1 HST
      go_upto_region 19 with fail
      go_cut [12, 13] from 78 to 86 (fun s12 s13 wx => ∃ v2 : BV, s12 = .int .u32 JL ∧ s13 = .int .i64 JH ∧ Hid (RunW w wx base m w.heap.size (w.heap.size + 2) (w.heap.size + 1) v v2 jx yl did) ∧ Hid (Side w wx m w.heap.size (w.heap.size + 2) (w.heap.size + 1) v2 gi #[.int .i64 jf, .bool ju, .bool jv, .int .i64 ja, .int .i64 jb, .int .i64 jo, .int .i64 jc, .int .i64 jn] 92) ∧ Hid (Side w wx m w.heap.size (w.heap.size + 2) (w.heap.size + 1) v2 ga #[.int .i64 JK, .int .u32 JA, .int .u32 JQ] 96))
      case first =>
       have GR : Hid (∃ v2 x2, RunW w wc.drew base m w.heap.size (w.heap.size + 2) (w.heap.size + 1) v v2 x2 yl did ∧ v2.b = vl.b) := hid (⟨vl, xl, HR3.out.drew, rfl⟩)
       have GA : Hid (∃ v2, Side w wc.drew m w.heap.size (w.heap.size + 2) (w.heap.size + 1) v2 ga #[.int .i64 JK, .int .u32 JA, .int .u32 JQ] 96) := hid (⟨vl, SA3.out.drew⟩)
       have KR := hid (show RunW w wc.drew base m w.heap.size (w.heap.size + 2) (w.heap.size + 1) v vl xl yl did from HR3.out.drew)
       have KI := hid (show Side w wc.drew m w.heap.size (w.heap.size + 2) (w.heap.size + 1) vl gi #[.int .i64 jf, .bool ju, .bool jv, .int .i64 ja, .int .i64 jb, .int .i64 jo, .int .i64 jc, .int .i64 jn] 92 from SI3.out.drew)
       have KA := hid (show Side w wc.drew m w.heap.size (w.heap.size + 2) (w.heap.size + 1) vl ga #[.int .i64 JK, .int .u32 JA, .int .u32 JQ] 96 from SA3.out.drew)
       refine wp_region_held_drew (S := (fun w' => Hid (∃ v2 x2, RunW w w' base m w.heap.size (w.heap.size + 2) (w.heap.size + 1) v v2 x2 yl did ∧ v2.b = vl.b) ∧ Hid (∃ v2, Side w w' m w.heap.size (w.heap.size + 2) (w.heap.size + 1) v2 ga #[.int .i64 JK, .int .u32 JA, .int .u32 JQ] 96))) (by kernel_rfl) ⟨GR, GA⟩ (fun hHeld => ?_)
       clear hHeld
       generalize wc.drew = wd at GR GA KR KI KA ⊢
       have hHeld : ((fun w' => Hid (∃ v2 x2, RunW w w' base m w.heap.size (w.heap.size + 2) (w.heap.size + 1) v v2 x2 yl did ∧ v2.b = vl.b) ∧ Hid (∃ v2, Side w w' m w.heap.size (w.heap.size + 2) (w.heap.size + 1) v2 ga #[.int .i64 JK, .int .u32 JA, .int .u32 JQ] 96)) wd) := ⟨GR, GA⟩
       refine tke 0 (v := ?v0_6) ?hy0_6 (by assumption) ?rest0_6
       case hy0_6 => rintro wq ⟨qR, qA⟩; obtain ⟨v2, x2, rr, hb⟩ := qR.out; obtain ⟨v3, sa⟩ := qA.out; have z0 := rr.cells.1; have z1 := rr.mach.cells.1; rw [hb] at z1; have z2 := load_acc sa.blk rfl; clear rr sa hb; clear qR qA; simp only [lA, lB, lC]; go_simp; try with_reducible rfl
       refine tke 1 (v := ?v1_7) ?hy1_7 (by assumption) ?rest1_7
       case hy1_7 => rintro wq ⟨qR, qA⟩; obtain ⟨v2, x2, rr, hb⟩ := qR.out; obtain ⟨v3, sa⟩ := qA.out; have z0 := rr.cells.1; have z1 := rr.mach.cells.1; rw [hb] at z1; have z2 := load_acc sa.blk rfl; clear rr sa hb; clear qR qA; simp only [lA, lB, lC]; go_simp; try with_reducible rfl
       refine tke 2 (v := ?v2_8) ?hy2_8 (by assumption) ?rest2_8
       case hy2_8 => rintro wq ⟨qR, qA⟩; obtain ⟨v2, x2, rr, hb⟩ := qR.out; obtain ⟨v3, sa⟩ := qA.out; have z0 := rr.cells.1; have z1 := rr.mach.cells.1; rw [hb] at z1; have z2 := load_acc sa.blk rfl; clear rr sa hb; clear qR qA; simp only [lA, lB, lC]; go_simp; try with_reducible rfl
       refine tke 3 (v := ?v3_9) ?hy3_9 (by assumption) ?rest3_9
       case hy3_9 => rintro wq ⟨qR, qA⟩; obtain ⟨v2, x2, rr, hb⟩ := qR.out; obtain ⟨v3, sa⟩ := qA.out; have z0 := rr.cells.1; have z1 := rr.mach.cells.1; rw [hb] at z1; have z2 := load_acc sa.blk rfl; clear rr sa hb; clear qR qA; simp only [lA, lB, lC]; go_simp; try with_reducible rfl
       refine tke 4 (v := ?v4_10) ?hy4_10 (by assumption) ?rest4_10
       case hy4_10 => rintro wq ⟨qR, qA⟩; obtain ⟨v2, x2, rr, hb⟩ := qR.out; obtain ⟨v3, sa⟩ := qA.out; have z0 := rr.cells.1; have z1 := rr.mach.cells.1; rw [hb] at z1; have z2 := load_acc sa.blk rfl; clear rr sa hb; clear qR qA; simp only [lA, lB, lC]; go_simp; try with_reducible rfl
       refine wpAnyH_ready (rs := [5]) (by kernel_rfl) (by simp) ?_
       refine (AllReadyH.cons (o := _) rfl (fun K hK => ?_) AllReadyH.nil)
       try simp only [lA, lB, lC]
       go_simp
       go_at_call 37
       refine (KR.out.act HACT.out a0 a1 z0 z1).mono ?_
       rintro e w1 ⟨rfl, v2, r2, h2⟩
       have LR := hid r2
       have LI := hid (KI.out.mm h2)
       have LA := hid (KA.out.mm h2)
       have hvb := h2.k.1
       clear r2 h2
       have hHeld := (⟨hid ⟨v2, jx, LR.out, hvb⟩, hid ⟨v2, LA.out⟩⟩ : ((fun w' => Hid (∃ v2 x2, RunW w w' base m w.heap.size (w.heap.size + 2) (w.heap.size + 1) v v2 x2 yl did ∧ v2.b = vl.b) ∧ Hid (∃ v2, Side w w' m w.heap.size (w.heap.size + 2) (w.heap.size + 1) v2 ga #[.int .i64 JK, .int .u32 JA, .int .u32 JQ] 96)) _))
       refine hK.out _ _ hHeld (fun _ => ?_)
       try simp only [lA, lB, lC]
       refine tke 6 (v := ?v6_11) ?hy6_11 (by assumption) ?rest6_11
       case hy6_11 => rintro wq ⟨qR, qA⟩; clear qR qA; go_simp; try with_reducible rfl
       refine tke 7 (v := ?v7_12) ?hy7_12 (by assumption) ?rest7_12
       case hy7_12 => rintro wq ⟨qR, qA⟩; clear qR qA; go_simp; try with_reducible rfl
       refine tke 8 (v := ?v8_13) ?hy8_13 (by assumption) ?rest8_13
       case hy8_13 => rintro wq ⟨qR, qA⟩; clear qR qA; go_simp; try with_reducible rfl
       refine tke 9 (v := ?v9_14) ?hy9_14 (by assumption) ?rest9_14
       case hy9_14 => rintro wq ⟨qR, qA⟩; clear qR qA; go_simp; try with_reducible rfl
       refine tke 10 (v := ?v10_15) ?hy10_15 (by assumption) ?rest10_15
       case hy10_15 => rintro wq ⟨qR, qA⟩; clear qR qA; go_simp; try with_reducible rfl
       refine wpAnyH_done (by kernel_rfl) ?_ _
       clear hHeld
       go_wp2_with fail
       go_meet
       exact ⟨v2, rfl, rfl, LR, LI, LA⟩
      case rest =>
      obtain ⟨v2, rfl, rfl, HR4, SI4, SA4⟩ := hcut
      clear HR3 SI3 SA3
      by_cases hh1 : JH = 1
      ·have hE : Z = ⟨6, 0, pcOf yl.cs, did, yl.cs, jx, false⟩ := by rw [← HRES3.out]; exact runM_stop (s := 0) (by rw [HST1.out]; exact if_pos hh1)
       have HE := hid hE
       have ht1 : (JH == 1) = true := by simp [hh1]
       clear hE hh1
       obtain ⟨cbm, hcd, fbd⟩ := HR4.out.cells
       go_wp2_with (go_at_call 32; refine (HR4.out.ends hs0 hs1 6 0 (pcOf yl.cs)).mono ?_; rintro e w1 ⟨rfl, R1⟩; obtain ⟨hst, hres, hM, hV⟩ := R1.fin 6 0 (pcOf yl.cs) (did : Int); have HM9 := hid hM; have HV9 := hid hV; clear hM hV R1)
       simp only [Exit.jump]
       refine bodyPost_ret (v := .agg (endA 6 0 (pcOf yl.cs) did)) ?_ rfl (RunE.mk' HZ.out HE.out hyc hys HG.out HM9.out HV9.out)
       simp [results, Tryz.results11, asAddr, hres]
      ·by_cases hh2 : JH = 2
       ·have hE : Z = ⟨2, 0, 0, did, yl.cs, jx, false⟩ := by rw [← HRES3.out]; exact runM_stop (s := 0) (by rw [HST1.out]; exact (if_neg hh1).trans (if_pos hh2))
        have HE := hid hE
        have ht1 : (JH == 1) = false := by simp [hh1]
        have ht2 : (JH == 2) = true := by simp [hh2]
        clear hE hh1 hh2
        obtain ⟨cbm, hcd, fbd⟩ := HR4.out.cells
        go_wp2_with (go_at_call 32; refine (HR4.out.ends hs0 hs1 2 0 0).mono ?_; rintro e w1 ⟨rfl, R1⟩; obtain ⟨hst, hres, hM, hV⟩ := R1.fin 2 0 0 (did : Int); have HM9 := hid hM; have HV9 := hid hV; clear hM hV R1)
        simp only [Exit.jump]
        refine bodyPost_ret (v := .agg (endA 2 0 0 did)) ?_ rfl (RunE.mk' HZ.out HE.out hyc hys HG.out HM9.out HV9.out)
        simp [results, Tryz.results11, asAddr, hres]
       ·have ht1 : (JH == 1) = false := by simp [hh1]
        have ht2 : (JH == 2) = false := by simp [hh2]
        obtain ⟨JX, JN, JT, hx⟩ : ∃ JX JN JT, (⟨jf, ju, jv, ja, jb, jo, jc, jn⟩ : In8).ex yl.cs JL = (JX, JN, JT) := ⟨_, _, _, rfl⟩
        have hxo := ex_ok HR4.out.mach.ok (⟨jf, ju, jv, ja, jb, jo, jc, jn⟩ : In8) l0 l1 hx
        have HXO := hid hxo
        have hst2 : stepM yl.cs xl = if JT then trapM yl.cs jx JN else .go JX jx (decide (JK = 3) && decide (JA = 4294967252)) := by
         rw [HST1.out]
         exact doneM_go hh1 hh2 hx HK.out HA.out
        have HST2 := hid hst2
        have HX := hid hx
        clear hx hxo hst2 hh1 hh2
        go_upto_region 25 with fail
        go_cut [14, 15, 16] from 99 to 109 (fun s14 s15 s16 wx => ∃ gc, s14 = .pointer (some ⟨gc, 0, none⟩) ∧ s15 = .int .i64 JN ∧ s16 = .bool JT ∧ Hid (RunW w wx base m w.heap.size (w.heap.size + 2) (w.heap.size + 1) v v2 jx yl did) ∧ Hid (Side w wx m w.heap.size (w.heap.size + 2) (w.heap.size + 1) v2 ga #[.int .i64 JK, .int .u32 JA, .int .u32 JQ] 96) ∧ Hid (Side w wx m w.heap.size (w.heap.size + 2) (w.heap.size + 1) v2 gc JX 50))
        case first =>
         have GR : Hid (RunW w wc.drew base m w.heap.size (w.heap.size + 2) (w.heap.size + 1) v v2 jx yl did) := hid (HR4.out.drew)
         have GI : Hid (Side w wc.drew m w.heap.size (w.heap.size + 2) (w.heap.size + 1) v2 gi #[.int .i64 jf, .bool ju, .bool jv, .int .i64 ja, .int .i64 jb, .int .i64 jo, .int .i64 jc, .int .i64 jn] 92) := hid (SI4.out.drew)
         have GS : Hid (Side w wc.drew m w.heap.size (w.heap.size + 2) (w.heap.size + 1) v2 ga #[.int .i64 JK, .int .u32 JA, .int .u32 JQ] 96) := hid (SA4.out.drew)
         refine wp_region_held_drew (S := (fun w' => Hid (RunW w w' base m w.heap.size (w.heap.size + 2) (w.heap.size + 1) v v2 jx yl did) ∧ Hid (Side w w' m w.heap.size (w.heap.size + 2) (w.heap.size + 1) v2 gi #[.int .i64 jf, .bool ju, .bool jv, .int .i64 ja, .int .i64 jb, .int .i64 jo, .int .i64 jc, .int .i64 jn] 92) ∧ Hid (Side w w' m w.heap.size (w.heap.size + 2) (w.heap.size + 1) v2 ga #[.int .i64 JK, .int .u32 JA, .int .u32 JQ] 96))) (by kernel_rfl) ⟨GR, GI, GS⟩ (fun hHeld => ?_)
         clear hHeld
         generalize wc.drew = wd at GR GI GS ⊢
         have hHeld : ((fun w' => Hid (RunW w w' base m w.heap.size (w.heap.size + 2) (w.heap.size + 1) v v2 jx yl did) ∧ Hid (Side w w' m w.heap.size (w.heap.size + 2) (w.heap.size + 1) v2 gi #[.int .i64 jf, .bool ju, .bool jv, .int .i64 ja, .int .i64 jb, .int .i64 jo, .int .i64 jc, .int .i64 jn] 92) ∧ Hid (Side w w' m w.heap.size (w.heap.size + 2) (w.heap.size + 1) v2 ga #[.int .i64 JK, .int .u32 JA, .int .u32 JQ] 96)) wd) := ⟨GR, GI, GS⟩
         refine tke 0 (v := ?v0_16) ?hy0_16 (by assumption) ?rest0_16
         case hy0_16 => rintro wq ⟨qR, qI, qS⟩; have z0 := qR.out.cells.1; have z1 := qR.out.mach.loadCpu; obtain ⟨i0, i1, i2, i3, i4, i5, i6, i7⟩ := accCells qI.out.blk; clear qR qI qS; simp only [lA, lB, lC]; go_simp; try with_reducible rfl
         refine tke 1 (v := ?v1_17) ?hy1_17 (by assumption) ?rest1_17
         case hy1_17 => rintro wq ⟨qR, qI, qS⟩; have z0 := qR.out.cells.1; have z1 := qR.out.mach.loadCpu; obtain ⟨i0, i1, i2, i3, i4, i5, i6, i7⟩ := accCells qI.out.blk; clear qR qI qS; simp only [lA, lB, lC]; go_simp; try with_reducible rfl
         refine tke 2 (v := ?v2_18) ?hy2_18 (by assumption) ?rest2_18
         case hy2_18 => rintro wq ⟨qR, qI, qS⟩; have z0 := qR.out.cells.1; have z1 := qR.out.mach.loadCpu; obtain ⟨i0, i1, i2, i3, i4, i5, i6, i7⟩ := accCells qI.out.blk; clear qR qI qS; simp only [lA, lB, lC]; go_simp; try with_reducible rfl
         refine tke 3 (v := ?v3_19) ?hy3_19 (by assumption) ?rest3_19
         case hy3_19 => rintro wq ⟨qR, qI, qS⟩; have z0 := qR.out.cells.1; have z1 := qR.out.mach.loadCpu; obtain ⟨i0, i1, i2, i3, i4, i5, i6, i7⟩ := accCells qI.out.blk; clear qR qI qS; simp only [lA, lB, lC]; go_simp; try with_reducible rfl
         refine tke 4 (v := ?v4_20) ?hy4_20 (by assumption) ?rest4_20
         case hy4_20 => rintro wq ⟨qR, qI, qS⟩; have z0 := qR.out.cells.1; have z1 := qR.out.mach.loadCpu; obtain ⟨i0, i1, i2, i3, i4, i5, i6, i7⟩ := accCells qI.out.blk; clear qR qI qS; simp only [lA, lB, lC]; go_simp; try with_reducible rfl
         refine tke 5 (v := ?v5_21) ?hy5_21 (by assumption) ?rest5_21
         case hy5_21 => rintro wq ⟨qR, qI, qS⟩; have z0 := qR.out.cells.1; have z1 := qR.out.mach.loadCpu; obtain ⟨i0, i1, i2, i3, i4, i5, i6, i7⟩ := accCells qI.out.blk; clear qR qI qS; simp only [lA, lB, lC]; go_simp; try with_reducible rfl
         refine wpAnyH_ready (rs := [6, 11]) (by kernel_rfl) (by simp) ?_
         refine AllReadyH.cons (o := _) rfl (fun K hK => ?_) (AllReadyH.cons (o := _) rfl (fun K hK => ?_) AllReadyH.nil)
         ·skip
          try simp only [lA, lB, lC]
          go_simp
          go_at_call 38
          refine (mexec8 GR.out.mach.ok l0 l1 HX.out _ GR.out.tab).mono ?_
          rintro e w1 ⟨rfl, hb1⟩
          have LR := hid (GR.out.step hb1)
          have LI := hid (GI.out.step hb1)
          have LS := hid (GS.out.step hb1)
          clear hb1
          have hHeld := (⟨LR, LI, LS⟩ : ((fun w' => Hid (RunW w w' base m w.heap.size (w.heap.size + 2) (w.heap.size + 1) v v2 jx yl did) ∧ Hid (Side w w' m w.heap.size (w.heap.size + 2) (w.heap.size + 1) v2 gi #[.int .i64 jf, .bool ju, .bool jv, .int .i64 ja, .int .i64 jb, .int .i64 jo, .int .i64 jc, .int .i64 jn] 92) ∧ Hid (Side w w' m w.heap.size (w.heap.size + 2) (w.heap.size + 1) v2 ga #[.int .i64 JK, .int .u32 JA, .int .u32 JQ] 96)) _))
          refine hK.out _ _ hHeld (fun _ => ?_)
          try simp only [lA, lB, lC]
          refine tke 7 (v := ?v7_22) ?hy7_22 (by assumption) ?rest7_22
          case hy7_22 => rintro wq ⟨qR, qI, qS⟩; clear qR qI qS; go_simp; try with_reducible rfl
          refine tke 8 (v := ?v8_23) ?hy8_23 (by assumption) ?rest8_23
          case hy8_23 => rintro wq ⟨qR, qI, qS⟩; clear qR qI qS; go_simp; try with_reducible rfl
          refine tke 9 (v := ?v9_24) ?hy9_24 (by assumption) ?rest9_24
          case hy9_24 => rintro wq ⟨qR, qI, qS⟩; clear qR qI qS; go_simp; try with_reducible rfl
          refine tke 10 (v := ?v10_25) ?hy10_25 (by assumption) ?rest10_25
          case hy10_25 => rintro wq ⟨qR, qI, qS⟩; clear qR qI qS; go_simp; try with_reducible rfl
          refine wpAnyH_ready (rs := [11]) (by kernel_rfl) (by simp) ?_
          refine (AllReadyH.cons (o := _) rfl (fun K hK => ?_) AllReadyH.nil)
          try simp only [lA, lB, lC]
          go_simp
          have MR := hid (LR.out.alloc (.cells #[.int .u32 0, .int .u32 0, .int .u32 0, .int .u32 0, .int .u32 0, .int .u32 0, .int .u32 0, .int .u32 0, .int .u32 0, .int .u32 0, .int .u32 0, .int .u32 0, .int .u32 0, .int .u32 0, .int .u32 0, .int .u32 0, .int .u32 0, .bool false, .bool false, .bool false, .bool false, .int .u32 0] 50))
          have MI := hid (LI.out.alloc (.cells #[.int .u32 0, .int .u32 0, .int .u32 0, .int .u32 0, .int .u32 0, .int .u32 0, .int .u32 0, .int .u32 0, .int .u32 0, .int .u32 0, .int .u32 0, .int .u32 0, .int .u32 0, .int .u32 0, .int .u32 0, .int .u32 0, .int .u32 0, .bool false, .bool false, .bool false, .bool false, .int .u32 0] 50))
          have MS := hid (LS.out.alloc (.cells #[.int .u32 0, .int .u32 0, .int .u32 0, .int .u32 0, .int .u32 0, .int .u32 0, .int .u32 0, .int .u32 0, .int .u32 0, .int .u32 0, .int .u32 0, .int .u32 0, .int .u32 0, .int .u32 0, .int .u32 0, .int .u32 0, .int .u32 0, .bool false, .bool false, .bool false, .bool false, .int .u32 0] 50))
          have MC := hid (Side.new LR.out #[.int .u32 0, .int .u32 0, .int .u32 0, .int .u32 0, .int .u32 0, .int .u32 0, .int .u32 0, .int .u32 0, .int .u32 0, .int .u32 0, .int .u32 0, .int .u32 0, .int .u32 0, .int .u32 0, .int .u32 0, .int .u32 0, .int .u32 0, .bool false, .bool false, .bool false, .bool false, .int .u32 0] 50)
          have hne : Hid (gi ≠ w1.heap.size) := hid (Nat.ne_of_lt LI.out.blk.lt)
          have hne2 : Hid (ga ≠ w1.heap.size) := hid (Nat.ne_of_lt LS.out.blk.lt)
          refine hK.out _ _ ⟨MR, MI, MS⟩ (fun _ => ?_)
          try simp only [lA, lB, lC]
          generalize w1.alloc (.cells #[.int .u32 0, .int .u32 0, .int .u32 0, .int .u32 0, .int .u32 0, .int .u32 0, .int .u32 0, .int .u32 0, .int .u32 0, .int .u32 0, .int .u32 0, .int .u32 0, .int .u32 0, .int .u32 0, .int .u32 0, .int .u32 0, .int .u32 0, .bool false, .bool false, .bool false, .bool false, .int .u32 0] 50) = wy at MR MI MS MC ⊢
          generalize w1.heap.size = gc at MC hne hne2 ⊢
          have hst := store_cpu MC.out.blk rfl HXO.out.size HXO.out.one
          refine wpAnyH_ready (rs := [12]) (by kernel_rfl) (by simp) ?_
          refine (AllReadyH.cons (o := _) rfl (fun K hK => ?_) AllReadyH.nil)
          try simp only [lA, lB, lC]
          go_simp
          have PR := hid (MR.out.sideRow MC.out JX)
          have PI := hid (MI.out.farRow hne.out JX)
          have PS := hid (MS.out.farRow hne2.out JX)
          have PC := hid (MC.out.setRow JX)
          refine hK.out _ _ ⟨PR, PI, PS⟩ (fun _ => ?_)
          try simp only [lA, lB, lC]
          refine tke 13 (v := ?v13_26) ?hy13_26 (by assumption) ?rest13_26
          case hy13_26 => rintro wq ⟨qR, qI, qS⟩; clear qR qI qS; go_simp; try with_reducible rfl
          refine tke 14 (v := ?v14_27) ?hy14_27 (by assumption) ?rest14_27
          case hy14_27 => rintro wq ⟨qR, qI, qS⟩; clear qR qI qS; go_simp; try with_reducible rfl
          refine wpAnyH_done (by kernel_rfl) ?_ _
          clear hst
          go_wp2_with fail
          go_meet
          exact ⟨gc, rfl, rfl, rfl, PR, PS, PC⟩
         ·skip
          try simp only [lA, lB, lC]
          go_simp
          have MR := hid (GR.out.alloc (.cells #[.int .u32 0, .int .u32 0, .int .u32 0, .int .u32 0, .int .u32 0, .int .u32 0, .int .u32 0, .int .u32 0, .int .u32 0, .int .u32 0, .int .u32 0, .int .u32 0, .int .u32 0, .int .u32 0, .int .u32 0, .int .u32 0, .int .u32 0, .bool false, .bool false, .bool false, .bool false, .int .u32 0] 50))
          have MI := hid (GI.out.alloc (.cells #[.int .u32 0, .int .u32 0, .int .u32 0, .int .u32 0, .int .u32 0, .int .u32 0, .int .u32 0, .int .u32 0, .int .u32 0, .int .u32 0, .int .u32 0, .int .u32 0, .int .u32 0, .int .u32 0, .int .u32 0, .int .u32 0, .int .u32 0, .bool false, .bool false, .bool false, .bool false, .int .u32 0] 50))
          have MS := hid (GS.out.alloc (.cells #[.int .u32 0, .int .u32 0, .int .u32 0, .int .u32 0, .int .u32 0, .int .u32 0, .int .u32 0, .int .u32 0, .int .u32 0, .int .u32 0, .int .u32 0, .int .u32 0, .int .u32 0, .int .u32 0, .int .u32 0, .int .u32 0, .int .u32 0, .bool false, .bool false, .bool false, .bool false, .int .u32 0] 50))
          have MC := hid (Side.new GR.out #[.int .u32 0, .int .u32 0, .int .u32 0, .int .u32 0, .int .u32 0, .int .u32 0, .int .u32 0, .int .u32 0, .int .u32 0, .int .u32 0, .int .u32 0, .int .u32 0, .int .u32 0, .int .u32 0, .int .u32 0, .int .u32 0, .int .u32 0, .bool false, .bool false, .bool false, .bool false, .int .u32 0] 50)
          have hne : Hid (gi ≠ wd.heap.size) := hid (Nat.ne_of_lt GI.out.blk.lt)
          have hne2 : Hid (ga ≠ wd.heap.size) := hid (Nat.ne_of_lt GS.out.blk.lt)
          refine hK.out _ _ ⟨MR, MI, MS⟩ (fun _ => ?_)
          try simp only [lA, lB, lC]
          generalize wd.alloc (.cells #[.int .u32 0, .int .u32 0, .int .u32 0, .int .u32 0, .int .u32 0, .int .u32 0, .int .u32 0, .int .u32 0, .int .u32 0, .int .u32 0, .int .u32 0, .int .u32 0, .int .u32 0, .int .u32 0, .int .u32 0, .int .u32 0, .int .u32 0, .bool false, .bool false, .bool false, .bool false, .int .u32 0] 50) = wy at MR MI MS MC ⊢
          generalize wd.heap.size = gc at MC hne hne2 ⊢
          refine wpAnyH_ready (rs := [6]) (by kernel_rfl) (by simp) ?_
          refine (AllReadyH.cons (o := _) rfl (fun K hK => ?_) AllReadyH.nil)
          try simp only [lA, lB, lC]
          go_simp
          go_at_call 38
          refine (mexec8 MR.out.mach.ok l0 l1 HX.out _ MR.out.tab).mono ?_
          rintro e w1 ⟨rfl, hb1⟩
          have NR := hid (MR.out.step hb1)
          have NI := hid (MI.out.step hb1)
          have NS := hid (MS.out.step hb1)
          have NC := hid (MC.out.step hb1)
          clear hb1
          have hHeld := (⟨NR, NI, NS⟩ : ((fun w' => Hid (RunW w w' base m w.heap.size (w.heap.size + 2) (w.heap.size + 1) v v2 jx yl did) ∧ Hid (Side w w' m w.heap.size (w.heap.size + 2) (w.heap.size + 1) v2 gi #[.int .i64 jf, .bool ju, .bool jv, .int .i64 ja, .int .i64 jb, .int .i64 jo, .int .i64 jc, .int .i64 jn] 92) ∧ Hid (Side w w' m w.heap.size (w.heap.size + 2) (w.heap.size + 1) v2 ga #[.int .i64 JK, .int .u32 JA, .int .u32 JQ] 96)) _))
          refine hK.out _ _ hHeld (fun _ => ?_)
          try simp only [lA, lB, lC]
          refine tke 7 (v := ?v7_28) ?hy7_28 (by assumption) ?rest7_28
          case hy7_28 => rintro wq ⟨qR, qI, qS⟩; clear qR qI qS; go_simp; try with_reducible rfl
          refine tke 8 (v := ?v8_29) ?hy8_29 (by assumption) ?rest8_29
          case hy8_29 => rintro wq ⟨qR, qI, qS⟩; clear qR qI qS; go_simp; try with_reducible rfl
          refine tke 9 (v := ?v9_30) ?hy9_30 (by assumption) ?rest9_30
          case hy9_30 => rintro wq ⟨qR, qI, qS⟩; clear qR qI qS; go_simp; try with_reducible rfl
          refine tke 10 (v := ?v10_31) ?hy10_31 (by assumption) ?rest10_31
          case hy10_31 => rintro wq ⟨qR, qI, qS⟩; clear qR qI qS; go_simp; try with_reducible rfl
          have hst := store_cpu NC.out.blk rfl HXO.out.size HXO.out.one
          refine wpAnyH_ready (rs := [12]) (by kernel_rfl) (by simp) ?_
          refine (AllReadyH.cons (o := _) rfl (fun K hK => ?_) AllReadyH.nil)
          try simp only [lA, lB, lC]
          go_simp
          have PR := hid (NR.out.sideRow NC.out JX)
          have PI := hid (NI.out.farRow hne.out JX)
          have PS := hid (NS.out.farRow hne2.out JX)
          have PC := hid (NC.out.setRow JX)
          refine hK.out _ _ ⟨PR, PI, PS⟩ (fun _ => ?_)
          try simp only [lA, lB, lC]
          refine tke 13 (v := ?v13_32) ?hy13_32 (by assumption) ?rest13_32
          case hy13_32 => rintro wq ⟨qR, qI, qS⟩; clear qR qI qS; go_simp; try with_reducible rfl
          refine tke 14 (v := ?v14_33) ?hy14_33 (by assumption) ?rest14_33
          case hy14_33 => rintro wq ⟨qR, qI, qS⟩; clear qR qI qS; go_simp; try with_reducible rfl
          refine wpAnyH_done (by kernel_rfl) ?_ _
          clear hst
          go_wp2_with fail
          go_meet
          exact ⟨gc, rfl, rfl, rfl, PR, PS, PC⟩
        case rest =>
        obtain ⟨gc, rfl, rfl, rfl, HR5, SA5, SC5⟩ := hcut
        clear HR4 SI4 SA4
        obtain ⟨cbm, hcd, fbd⟩ := HR5.out.cells
        have hw1 : IntKind.i64.wrap ((did : Int) + 1) = (did : Int) + 1 := IntWalk.i64_in _ (by omega)
        go_upto_region 27 with fail
        have HR6 : Hid (RunW w (wc.setCell ⟨w.heap.size + 2, 0, none⟩ (.int .i64 ((did : Int) + 1))) base m w.heap.size (w.heap.size + 2) (w.heap.size + 1) v v2 jx yl (did + 1)) := hid (by have h := HR5.out.setDid (did + 1); rw [show ((did + 1 : Nat) : Int) = (did : Int) + 1 from by omega] at h; exact h)
        have SA6 := hid (SA5.out.setDid (.int .i64 ((did : Int) + 1)))
        have SC6 := hid (SC5.out.setDid (.int .i64 ((did : Int) + 1)))
        generalize wc.setCell ⟨w.heap.size + 2, 0, none⟩ (.int .i64 ((did : Int) + 1)) = W6 at HR6 SA6 SC6 ⊢
        clear HR5 SA5 SC5 cbm hcd fbd hw1
        obtain ⟨cbm, hcd, fbd⟩ := HR6.out.cells
        have hs2 : yl.st + ((did : Int) + 1) ≤ 9223372036854775807 := by omega
        have HDI : Hid (((did + 1 : Nat) : Int) = (did : Int) + 1) := hid (by omega)
        cases JT
        ·have hst3 : stepM yl.cs xl = .go JX jx (decide (JK = 3) && decide (JA = 4294967252)) := HST2.out
         have HST3 := hid hst3
         clear hst3 HST2
         have hld := load_cpu SC6.out.blk HXO.out.size
         have hst9 := HR6.out.mach.storeCpu HXO.out
         have HR7 := hid (HR6.out.mm (HR6.out.mach.setCpu HXO.out) (MMoves.setCells W6 m 1 v2 JX.toList))
         have SA7 := hid (SA6.out.mm (MMoves.setCells W6 m 1 v2 JX.toList))
         clear HR6 SA6 SC6
         go_upto_region 32 with fail
         clear hld hst9 cbm hcd fbd
         generalize W6.setCells m 1 JX.toList = W7 at HR7 SA7 ⊢
         obtain ⟨cbm, hcd, fbd⟩ := HR7.out.cells
         have b0 := SA7.out.blk.cell 0
         have b1 := SA7.out.blk.cell 1
         simp only [List.getElem?_toArray, List.getElem?_cons_zero, List.getElem?_cons_succ] at b0 b1
         by_cases hl : JK = 3 ∧ JA = 4294967252
         ·have ht3 : (JK == 3) = true := by simp [hl.1]
          have ht4 : (JA == 4294967252) = true := by simp [hl.2]
          have hlk : (decide (JK = 3) && decide (JA = 4294967252)) = true := by simp [hl]
          have HL := hid hlk
          clear hl hlk
          go_wp2_with (go_at_call 33; refine (mlook_any HR7.out.mach).mono ?_; rintro e w1 ⟨rfl, M8, V8⟩; have HR8 := hid (HR7.out.mm M8 V8); clear M8 V8)
          go_step3
          refine ⟨rfl, RunJ.mk _ _ _ _ _ _ _ _ _ _ _ _ _ _ _ _ _ _ _ _ _ _ _ _ _ _ _ _ _ _ _ _ _ _ _ _ _ _ _ _ _ _ _ _ _ _ _ _ _ _ _ _ _ _ _ _ _ _ _ _ _ _ _ _ _ _ _ _ _ _ _ _ _ _ _ _ _ _ _ _ _ _ _ _ _ _ _ _ _ _ _ _ _ _ _ _ _ _ _ _ _ _ _ _ _ _ _ _ _ _ _ _ _ _ _ _ _ _ _ _ _ _ _ _ _ _ _ _ _ _ (did + 1) v2 jx _ _ HR8 (by have := HDL.out; omega) hyc hys (hid ?hz), ?hmu⟩
          case hmu => rw [runMu_eq HR8.out.cells.2.1, runMu_eq hcd0.out]; have := HDL.out; omega
          case hz => rw [hk2, ← HRES3.out, runM_go HST3.out, HL.out, Bool.true_and]
         ·have ht3 : ((JK == 3) && (JA == 4294967252)) = false := by simpa using hl
          have hlk : (decide (JK = 3) && decide (JA = 4294967252)) = false := by simpa using hl
          have HL := hid hlk
          clear hlk
          by_cases hl3 : JK = 3
          ·have ht5 : (JK == 3) = true := by simp [hl3]
           have ht4 : (JA == 4294967252) = false := by simpa using fun h => hl ⟨hl3, h⟩
           clear hl hl3 ht3
           go_wp2_with fail
           go_step3
           refine ⟨rfl, RunJ.mk _ _ _ _ _ _ _ _ _ _ _ _ _ _ _ _ _ _ _ _ _ _ _ _ _ _ _ _ _ _ _ _ _ _ _ _ _ _ _ _ _ _ _ _ _ _ _ _ _ _ _ _ _ _ _ _ _ _ _ _ _ _ _ _ _ _ _ _ _ _ _ _ _ _ _ _ _ _ _ _ _ _ _ _ _ _ _ _ _ _ _ _ _ _ _ _ _ _ _ _ _ _ _ _ _ _ _ _ _ _ _ _ _ _ _ _ _ _ _ _ _ _ _ _ _ _ _ _ _ _ (did + 1) v2 jx _ _ HR7 (by have := HDL.out; omega) hyc hys (hid ?hz), ?hmu⟩
           case hmu => rw [runMu_eq HR7.out.cells.2.1, runMu_eq hcd0.out]; have := HDL.out; omega
           case hz => rw [hk2, ← HRES3.out, runM_go HST3.out, HL.out, Bool.false_and]; exact congrArg (fun g => runM yl.cut k1 JX jx g (did + 1)) HG.out
          ·have ht5 : (JK == 3) = false := by simp [hl3]
           clear hl hl3 ht3
           go_wp2_with fail
           go_step3
           refine ⟨rfl, RunJ.mk _ _ _ _ _ _ _ _ _ _ _ _ _ _ _ _ _ _ _ _ _ _ _ _ _ _ _ _ _ _ _ _ _ _ _ _ _ _ _ _ _ _ _ _ _ _ _ _ _ _ _ _ _ _ _ _ _ _ _ _ _ _ _ _ _ _ _ _ _ _ _ _ _ _ _ _ _ _ _ _ _ _ _ _ _ _ _ _ _ _ _ _ _ _ _ _ _ _ _ _ _ _ _ _ _ _ _ _ _ _ _ _ _ _ _ _ _ _ _ _ _ _ _ _ _ _ _ _ _ _ (did + 1) v2 jx _ _ HR7 (by have := HDL.out; omega) hyc hys (hid ?hz), ?hmu⟩
           case hmu => rw [runMu_eq HR7.out.cells.2.1, runMu_eq hcd0.out]; have := HDL.out; omega
           case hz => rw [hk2, ← HRES3.out, runM_go HST3.out, HL.out, Bool.false_and]; exact congrArg (fun g => runM yl.cut k1 JX jx g (did + 1)) HG.out
        ·have hst3 : stepM yl.cs xl = trapM yl.cs jx JN := HST2.out
         have HST3 := hid hst3
         clear hst3 HST2
         obtain ⟨VV, hvv⟩ : ∃ VV, getV jx.M 16 = VV := ⟨_, rfl⟩
         have hvb := getV_bd HR6.out.mach.bus.mb 16
         rw [hvv] at hvb
         obtain ⟨vb0, vb1⟩ := hvb
         have HVV := hid hvv
         clear hvv
         by_cases hj0 : JN = 0
         ·have hE : Z = ⟨3, 0, 0, did + 1, yl.cs, jx, false⟩ := by rw [← HRES3.out]; exact runM_stop (s := 1) (by rw [HST3.out]; exact if_pos hj0)
          have HE := hid hE
          clear hE
          subst hj0
          go_wp2_with (first | (go_at_call 39; refine (mtrap_halt HR6.out.mach).mono ?_; rintro e w1 ⟨rfl, M8, V8⟩; have hn9 := new_end w1 3 0 0 0 #[.int .i64 0, .int .i64 0, .int .u32 0, .int .i64 0] rfl; have HR8 := hid ((HR6.out.mm M8 V8).alloc (.cells (endA 3 0 0 0) 46)); have hl9 := load_end (Blk.new w1 (endA 3 0 0 0) 46); clear M8 V8) | (go_at_call 32; refine (HR8.out.ends' HDI.out hs0 hs2 3 0 0).mono ?_; rintro e w1 ⟨rfl, R1⟩; obtain ⟨hst, hres, hM, hV⟩ := R1.fin 3 0 0 ((did : Int) + 1); have HM9 := hid hM; have HV9 := hid hV; clear hM hV R1))
          simp only [Exit.jump]
          refine bodyPost_ret (v := .agg (endA 3 0 0 ((did : Int) + 1))) ?_ rfl (RunE.mk2 HDI.out HZ.out HE.out hyc hys HG.out HM9.out HV9.out)
          simp [results, Tryz.results11, asAddr, hres]
         ·by_cases hv0 : VV = 0
          ·have hE : Z = ⟨4, JN, pcOf yl.cs, did + 1, yl.cs, jx, false⟩ := by rw [← HRES3.out]; exact runM_stop (s := 1) (by rw [HST3.out]; exact (if_neg hj0).trans (if_pos (HVV.out.trans hv0)))
           have HE := hid hE
           have HJ0 := hid hj0
           have HV0 := hid hv0
           clear hE hj0 hv0
           go_wp2_with (first | (go_at_call 39; refine (mtrap_stop HR6.out.mach JN HJ0.out (HVV.out.trans HV0.out) HPC.out).mono ?_; rintro e w1 ⟨rfl, M8, V8⟩; have hn9 := new_end w1 4 JN (pcOf yl.cs) 0 #[.int .i64 0, .int .i64 0, .int .u32 0, .int .i64 0] rfl; have HR8 := hid ((HR6.out.mm M8 V8).alloc (.cells (endA 4 JN (pcOf yl.cs) 0) 46)); have hl9 := load_end (Blk.new w1 (endA 4 JN (pcOf yl.cs) 0) 46); clear M8 V8) | (go_at_call 32; refine (HR8.out.ends' HDI.out hs0 hs2 4 JN (pcOf yl.cs)).mono ?_; rintro e w1 ⟨rfl, R1⟩; obtain ⟨hst, hres, hM, hV⟩ := R1.fin 4 JN (pcOf yl.cs) ((did : Int) + 1); have HM9 := hid hM; have HV9 := hid hV; clear hM hV R1))
           simp only [Exit.jump]
           refine bodyPost_ret (v := .agg (endA 4 JN (pcOf yl.cs) ((did : Int) + 1))) ?_ rfl (RunE.mk2 HDI.out HZ.out HE.out hyc hys HG.out HM9.out HV9.out)
           simp [results, Tryz.results11, asAddr, hres]
          ·have hst4 : stepM yl.cs xl = .go (yl.cs.setIfInBounds 21 (.int .u32 VV)) { jx with M := laid4 (laid4 jx.M 20 (JN % 4294967296)) 24 (pcOf yl.cs) } false := by
            rw [HST3.out]
            unfold trapM
            rw [if_neg hj0, HVV.out, if_neg hv0]
           have HST4 := hid hst4
           have HJ0 := hid hj0
           have HV0 := hid hv0
           clear hst4 hj0 hv0
           go_wp2_with (go_at_call 39; refine (mtrap_go HR6.out.mach JN HJ0.out HVV.out HV0.out vb0 vb1 HPC.out p0 p1).mono ?_; rintro e w1 ⟨rfl, M8, V8⟩; have hn9 := new_end w1 0 0 0 0 #[.int .i64 0, .int .i64 0, .int .u32 0, .int .i64 0] rfl; have HR8 := hid ((HR6.out.mm M8 V8).alloc (.cells (endA 0 0 0 0) 46)); clear M8 V8)
           go_step3
           refine ⟨rfl, RunJ.mk _ _ _ _ _ _ _ _ _ _ _ _ _ _ _ _ _ _ _ _ _ _ _ _ _ _ _ _ _ _ _ _ _ _ _ _ _ _ _ _ _ _ _ _ _ _ _ _ _ _ _ _ _ _ _ _ _ _ _ _ _ _ _ _ _ _ _ _ _ _ _ _ _ _ _ _ _ _ _ _ _ _ _ _ _ _ _ _ _ _ _ _ _ _ _ _ _ _ _ _ _ _ _ _ _ _ _ _ _ _ _ _ _ _ _ _ _ _ _ _ _ _ _ _ _ _ _ _ _ _ (did + 1) v2 _ _ _ HR8 (by have := HDL.out; omega) hyc hys (hid ?hz), ?hmu⟩
           case hmu => rw [runMu_eq HR8.out.cells.2.1, runMu_eq hcd0.out]; have := HDL.out; omega
           case hz => rw [hk2, ← HRES3.out, runM_go HST4.out, Bool.false_and]; exact congrArg (fun g => runM yl.cut k1 _ _ g (did + 1)) HG.out
    ·have hE : Z = ⟨6, 0, pcOf yl.cs, did, yl.cs, xl, false⟩ := by
      rw [← HRES3.out]
      exact runM_stop (s := 0) (by unfold stepM; rw [if_neg hin])
     have HE := hid hE
     have HIN := hid hin
     clear hE hin
     generalize pcOf yl.cs = pc at *
     go_wp2_with (first | (go_at_call 34; refine (bword_no HR.out.mach.bus pc p0 p1 HIN.out).mono ?_; rintro e w8 ⟨rfl, rfl⟩) | (go_at_call 32; refine (HR.out.ends hs0 hs1 6 0 pc).mono ?_; rintro e w1 ⟨rfl, R1⟩; obtain ⟨hst, hres, hM, hV⟩ := R1.fin 6 0 pc (did : Int); have HM9 := hid hM; have HV9 := hid hV; clear hM hV R1))
     simp only [Exit.jump]
     refine bodyPost_ret (v := .agg (endA 6 0 pc did)) ?_ rfl (RunE.mk' HZ.out HE.out hyc hys HG.out HM9.out HV9.out)
     simp [results, Tryz.results11, asAddr, hres]
  ·rw [hg] at cm24
   have hE : Z = ⟨7, 0, 0, did, yl.cs, xl, true⟩ := by rw [← HRES.out, hg, runM_gone]
   have HE := hid hE
   have HG := hid hg
   clear hE hg
   go_wp2_with (go_at_call 32; refine (HR.out.ends hs0 hs1 7 0 0).mono ?_; rintro e w1 ⟨rfl, R1⟩; obtain ⟨hst, hres, hM, hV⟩ := R1.fin 7 0 0 (did : Int); have HM9 := hid hM; have HV9 := hid hV; clear hM hV R1)
   simp only [Exit.jump]
   refine bodyPost_ret (v := .agg (endA 7 0 0 did)) ?_ rfl (RunE.mk' HZ.out HE.out hyc hys HG.out HM9.out HV9.out)
   simp [results, Tryz.results11, asAddr, hres]
end Go.Proofs.YtgcknekhimpfkaaGreatDoor
