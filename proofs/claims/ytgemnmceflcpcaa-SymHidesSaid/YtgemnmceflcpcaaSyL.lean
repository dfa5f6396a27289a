/- May symbols be: the program's. -/
import Derived.Test.YtgemnmceflcpcaaSyK
namespace Go.Proofs.Ytgemnmceflcpcaa
open Go Go.RowKit Go.Lib Go.Shelf Go.Proofs.Ytgemnmceflcpcaa.Sy Go.Maps Go.WideMaps
set_option linter.unusedVariables false
set_option linter.unusedSimpArgs false
attribute [local go_sem] Oper.semAt_some
attribute [local go_sem ↓] exec_load_const exec_store_const exec_load_var exec_store_var exec_load_proc exec_store_proc exec_load_sym exec_store_sym
theorem Blk.kept {A B : World} {g : Nat} {cs : Array Value} {t : TypeId} {row : Option Nat} (h : Blk A g cs t) (hg : A.grownBy B row) (hr : ∀ r, row = some r → ∃ o : Obj, A.heap[r]? = some o ∧ o.isCells = false) : Blk B g cs t :=
  (hg.block g h.lt (fun e => by
    obtain ⟨o, ho, hc⟩ := hr g e.symm
    rw [h] at ho; cases ho; cases hc)).trans h
/-- Names so far: all are names, no two the same. -/
structure NmOk (l : List ByteArray) : Prop where
  is : ∀ n ∈ l, isNm n
  nodup : l.Nodup
theorem NmOk.nil : NmOk [] := ⟨(fun n h => by cases h), List.nodup_nil⟩
theorem Blk.grownO {W W' : World} {g m : Nat} {cs : Array Value} {t : TypeId} (h : Blk W g cs t) (hg : W.grownBy W' (some m)) (hn : g ≠ m) : Blk W' g cs t := (hg.block g h.lt (fun e => hn (Option.some.inj e))).trans h
theorem NmOk.snoc {l : List ByteArray} {n : ByteArray} (h : NmOk l) (hn : isNm n) (hd : n ∉ l) : NmOk (l ++ [n]) :=
  ⟨fun m hm => (List.mem_append.1 hm).elim (h.is m) (fun g => by rw [List.mem_singleton.1 g]; exact hn), List.nodup_append.2 ⟨h.nodup, by simp, fun a ha b hb => by rw [List.mem_singleton.1 hb]; exact fun e => hd (e ▸ ha)⟩⟩
theorem NmOk.of_pre {a b : List ByteArray} (h : NmOk b) (hp : a <+: b) : NmOk a := ⟨fun n hn => h.is n (hp.subset hn), h.nodup.sublist hp.sublist⟩
def vals (l : List Nm) : List ByteArray := l.map (·.1)
theorem vals_snoc (l : List Nm) (x : Nm) : vals (l ++ [x]) = vals l ++ [x.1] := by unfold vals; rw [List.map_append]; rfl
theorem nms_of (L : List ByteArray) (h : ∀ n ∈ L, n.size ≤ maxLen) : ∃ l : List Nm, l.map (·.1) = L := ⟨L.attach.map (fun x => ⟨x.1, h x.1 x.2⟩), by rw [List.map_map]; exact List.attach_map_subtype_val L⟩
/-- The names' loop, between two rounds. -/
structure RgI (w : World) (S : Array Value) (pre : List Nm) (W : World) : Prop where
  box : Blk W w.heap.size S 26
  res : Blk W (w.heap.size + 1) #[.bool false] 4
  seen : Blk W (w.heap.size + 1 + 1 + 1) #[.map (some (w.heap.size + 1 + 1))] 65
  map : ∃ D, W.ownsMap Try.prog 9 (plainElem Try.prog 3) (w.heap.size + 1 + 1) pre.length D ∧ Seen D (vals pre)
  ok : NmOk (vals pre)
  below : Below w.heap.size w W
  size : w.heap.size + 5 ≤ W.heap.size
structure RgX (w : World) (c : Code) (pre : List Nm) (W : World) : Prop where
  ret : c = .ret
  bad : ¬ NmOk (vals pre)
  res : W.cell? ⟨w.heap.size + 1, 0, none⟩ = some (.bool false)
  below : Below w.heap.size w W
theorem rg_own {w W0 : World} {S : Array Value} (h0 : w.heap.size + 5 ≤ W0.heap.size) : OwnFrom W0.heap.size (RgI w S) := fun s A B row hs hg hr =>
  ⟨hs.box.kept hg (fun r e => (hr r e).2), hs.res.kept hg (fun r e => (hr r e).2), hs.seen.kept hg (fun r e => (hr r e).2), by
    obtain ⟨D, h1, h2⟩ := hs.map
    exact ⟨D, h1.kept hg (fun e => by have := (hr _ e.symm).1; omega), h2⟩, hs.ok, hs.below.grown hg hs.below.size (fun k e => by have := (hr k e).1; omega), Nat.le_trans hs.size hg.size⟩
theorem rx_own {w W0 : World} (c : Code) (h0 : w.heap.size + 5 ≤ W0.heap.size) : OwnFrom W0.heap.size (RgX w c) := fun s A B row hs hg hr =>
  ⟨hs.ret, hs.bad, cell_kept hs.res hg (fun r e => (hr r e).2), hs.below.grown hg hs.below.size (fun k e => by have := (hr k e).1; omega)⟩
theorem kpn_b {h0 Bs B : Nat} (h : h0 ≤ B) (hs : Bs < B) (W : World) (l : Nat) (o o' : Obj) (hl : B ≤ l) (ho : W.heap[l]? = some o) (hc : o.isCells = false) (hw : o.isWalk = false) : KpN h0 Bs W (W.putObj l o') :=
  ⟨(Below.refl h0 W).grown (grownBy_putObj' W l o') (by have := (Array.getElem?_eq_some_iff.1 ho).1; omega) (fun k e => by cases e; omega), (grownBy_putObj' W l o').block Bs (by have := (Array.getElem?_eq_some_iff.1 ho).1; omega) (fun e => by cases e; omega)⟩
theorem KpN.grown {h0 Bs g : Nat} {W W' : World} (h : W.grownBy W' (some g)) (h1 : h0 ≤ g) (h2 : Bs ≠ g) (h3 : h0 ≤ W.heap.size) (h4 : Bs < W.heap.size) : KpN h0 Bs W W' :=
  ⟨(Below.refl h0 W).grown h h3 (fun k e => by cases e; exact h1), h.block Bs h4 (fun e => by cases e; exact h2 rfl)⟩
section
variable {w : World}
set_option maxRecDepth 100000 in
set_option maxHeartbeats 4000000 in
theorem right_in (s : Sm) {cv vv pv : Value} (hS : SmAt w s cv vv pv) {q : Bool} (hc : IsB q (smOk s)) :
    CallsIn Fence.wide 9 Try.prog 10 #[.agg (scells s cv vv pv)] w fun e w' => e = .returned (.bool q) ∧ Below w.heap.size w w' := by
  have hmm := @run_makeMap Try.prog
  have HC := Lib.hid hc
  obtain ⟨xs1, e1⟩ := nms_of (s.consts.map Cst.name) (fun n hn => by obtain ⟨c, hc, rfl⟩ := List.mem_map.1 hn; exact (hS.c.2 c hc).1)
  obtain ⟨xs2, e2⟩ := nms_of (s.vars.map Vr.name) (fun n hn => by obtain ⟨c, hc, rfl⟩ := List.mem_map.1 hn; exact (hS.v.2 c hc).1)
  obtain ⟨xs3, e3⟩ := nms_of (s.procs.map Pr.name) (fun n hn => by
    obtain ⟨p, hp, rfl⟩ := List.mem_map.1 hn
    obtain ⟨pvs, hpl, hrw, hpe⟩ := hS.p
    obtain ⟨i, hi⟩ := List.mem_iff_getElem?.1 hp
    have hil := (List.getElem?_eq_some_iff.1 hi).1
    exact (hpe i p _ hi (List.getElem?_eq_getElem (by rw [hpl]; exact hil))).1)
  have hN : namesOf s = vals (xs1 ++ xs2 ++ xs3) := by unfold namesOf vals; rw [List.map_append, List.map_append, e1, e2, e3]
  have l1 : xs1.length = s.consts.length := by simpa using congrArg List.length e1
  have l2 : xs2.length = s.vars.length := by simpa using congrArg List.length e2
  have l3 : xs3.length = s.procs.length := by simpa using congrArg List.length e3
  have HN0 := Lib.hid hN
  have E1 := Lib.hid e1
  have E2 := Lib.hid e2
  have E3 := Lib.hid e3
  have HS := Lib.hid hS
  obtain ⟨hnm, hC, hV, hP⟩ := hS
  obtain ⟨A1, cap1, rfl, c11, c12, z1⟩ := list_of hC.1 (List.length_map _)
  obtain ⟨A2, cap2, rfl, c21, c22, z2⟩ := list_of hV.1 (List.length_map _)
  obtain ⟨pvs, hpl, hrw, hpe⟩ := hP
  obtain ⟨A3, cap3, rfl, c31, c32, z3⟩ := list_of (n := s.procs.length) hrw (by rw [List.length_zipWith, hpl, Nat.min_self])
  clear hC hV z1 z2 z3 hrw hpe hpl hc hN e1 e2 e3
  unfold maxLen at c12 c22 c32
  have hld : ∀ W : World, Blk W w.heap.size (scells s (.slice A1 s.consts.length cap1) (.slice A2 s.vars.length cap2) (.slice A3 s.procs.length cap3)) 26 → (loadWhole 26 (.pointer (some ⟨w.heap.size, 0, none⟩))).run Try.prog W = .ok (.agg (scells s (.slice A1 s.consts.length cap1) (.slice A2 s.vars.length cap2) (.slice A3 s.procs.length cap3))) W := fun W h => load_blk Try.underlying26 rfl sz_sym h rfl
  have HLD := Lib.hid hld
  clear hld
  have K0 := Lib.hid ((Blk.new w (scells s (.slice A1 s.consts.length cap1) (.slice A2 s.vars.length cap2) (.slice A3 s.procs.length cap3)) 26).old (.cells #[.bool false] 4))
  have K1 := Lib.hid (Blk.new (w.alloc (.cells (scells s (.slice A1 s.consts.length cap1) (.slice A2 s.vars.length cap2) (.slice A3 s.procs.length cap3)) 26)) #[.bool false] 4)
  have B1 := Lib.hid ((((Below.refl w.heap.size w).alloc (Nat.le_refl _) (.cells (scells s (.slice A1 s.consts.length cap1) (.slice A2 s.vars.length cap2) (.slice A3 s.procs.length cap3)) 26))).alloc (by simp) (.cells #[.bool false] 4))
  have hK1c := K1.out.cell 0
  simp only [World.size_alloc] at hK1c
  have HK1c := Lib.hid hK1c
  clear hK1c
  refine callsIn_of_wp_marks Try.func10 rfl trivial ?_ rfl
  simp only [Try.ntmps10, List.size_toArray, List.length_cons, List.length_nil, Nat.reduceAdd, Nat.reduceSub, Array.replicate_succ, Array.replicate_zero, List.push_toArray, List.append_toArray, List.nil_append, List.cons_append]
  by_cases n1 : isNm s.name
  · have HN := Lib.hid (show IsB true (isNm s.name) from ⟨fun _ => n1, fun _ => rfl⟩)
    by_cases m0 : 200 < (s.consts.length : Int)
    · obtain rfl := HC.out.no (fun g => by have := g.2.1; omega)
      gi_wp2_with (refine ⟨trivial, ?_⟩; gi_at_call 21; refine (callsIn_wide.2 (isname_any s.name hnm HN.out)).mono ?_; rintro e w1 ⟨rfl, rfl⟩)
      have hK1c := HK1c.out
      refine ⟨.bool false, ?_, rfl, B1.out⟩
      simp [results, Try.f10, go_sem, hK1c]
    by_cases m1 : 200 < (s.vars.length : Int)
    · obtain rfl := HC.out.no (fun g => by have := g.2.2.1; omega)
      gi_wp2_with (refine ⟨trivial, ?_⟩; gi_at_call 21; refine (callsIn_wide.2 (isname_any s.name hnm HN.out)).mono ?_; rintro e w1 ⟨rfl, rfl⟩)
      have hK1c := HK1c.out
      refine ⟨.bool false, ?_, rfl, B1.out⟩
      simp [results, Try.f10, go_sem, hK1c]
    by_cases m2 : 100 < (s.procs.length : Int)
    · obtain rfl := HC.out.no (fun g => by have := g.2.2.2.1; omega)
      gi_wp2_with (refine ⟨trivial, ?_⟩; gi_at_call 21; refine (callsIn_wide.2 (isname_any s.name hnm HN.out)).mono ?_; rintro e w1 ⟨rfl, rfl⟩)
      have hK1c := HK1c.out
      refine ⟨.bool false, ?_, rfl, B1.out⟩
      simp [results, Try.f10, go_sem, hK1c]
    have hl := HLD.out _ ((((Blk.new w (scells s (.slice A1 s.consts.length cap1) (.slice A2 s.vars.length cap2) (.slice A3 s.procs.length cap3)) 26).old (.cells #[.bool false] 4)).old (.map #[] 0)).old (.cells #[.map (some (w.heap.size + 1 + 1))] 65))
    gi_wp2_with (first | (refine ⟨trivial, ?_⟩; gi_at_call 21; refine (callsIn_wide.2 (isname_any s.name hnm HN.out)).mono ?_; rintro e w1 ⟨rfl, rfl⟩) | (refine ⟨trivial, ?_⟩; gi_at_call 22; refine (callsIn_wide.2 (names_any s _ _ _)).mono ?_; rintro e w1 ⟨rfl, rfl⟩))
    clear hl
    have KW0 := Lib.hid (K0.out.old (.map #[] 0) |>.old (.cells #[.map (some (w.heap.size + 1 + 1))] 65) |>.old (.cells (scells s (.slice A1 s.consts.length cap1) (.slice A2 s.vars.length cap2) (.slice A3 s.procs.length cap3)) 26))
    have KW1 := Lib.hid (K1.out.old (.map #[] 0) |>.old (.cells #[.map (some (w.heap.size + 1 + 1))] 65) |>.old (.cells (scells s (.slice A1 s.consts.length cap1) (.slice A2 s.vars.length cap2) (.slice A3 s.procs.length cap3)) 26))
    have KW3 := Lib.hid ((Blk.new (((w.alloc (.cells (scells s (.slice A1 s.consts.length cap1) (.slice A2 s.vars.length cap2) (.slice A3 s.procs.length cap3)) 26)).alloc (.cells #[.bool false] 4)).alloc (.map #[] 0)) #[.map (some (w.heap.size + 1 + 1))] 65).old (.cells (scells s (.slice A1 s.consts.length cap1) (.slice A2 s.vars.length cap2) (.slice A3 s.procs.length cap3)) 26))
    have KW4 := Lib.hid (Blk.new ((((w.alloc (.cells (scells s (.slice A1 s.consts.length cap1) (.slice A2 s.vars.length cap2) (.slice A3 s.procs.length cap3)) 26)).alloc (.cells #[.bool false] 4)).alloc (.map #[] 0)).alloc (.cells #[.map (some (w.heap.size + 1 + 1))] 65)) (scells s (.slice A1 s.consts.length cap1) (.slice A2 s.vars.length cap2) (.slice A3 s.procs.length cap3)) 26)
    have hm0 := ((World.ownsMap_made ((w.alloc (.cells (scells s (.slice A1 s.consts.length cap1) (.slice A2 s.vars.length cap2) (.slice A3 s.procs.length cap3)) 26)).alloc (.cells #[.bool false] 4)) Try.prog 9 (plainElem (H := Unit) Try.prog 3)).alloc (.cells #[.map (some (w.heap.size + 1 + 1))] 65)).alloc (.cells (scells s (.slice A1 s.consts.length cap1) (.slice A2 s.vars.length cap2) (.slice A3 s.procs.length cap3)) 26)
    have HM0 := Lib.hid hm0
    have HB0 := Lib.hid (((B1.out.alloc (by simp; omega) (.map #[] 0)).alloc (by simp; omega) (.cells #[.map (some (w.heap.size + 1 + 1))] 65)).alloc (by simp; omega) (.cells (scells s (.slice A1 s.consts.length cap1) (.slice A2 s.vars.length cap2) (.slice A3 s.procs.length cap3)) 26))
    clear hm0 K0
    simp only [World.size_alloc] at KW1 KW3 KW4 HM0
    obtain ⟨W0, hW0⟩ : ∃ W0, ((((w.alloc (.cells (scells s (.slice A1 s.consts.length cap1) (.slice A2 s.vars.length cap2) (.slice A3 s.procs.length cap3)) 26)).alloc (.cells #[.bool false] 4)).alloc (.map #[] 0)).alloc (.cells #[.map (some (w.heap.size + 1 + 1))] 65)).alloc (.cells (scells s (.slice A1 s.consts.length cap1) (.slice A2 s.vars.length cap2) (.slice A3 s.procs.length cap3)) 26) = W0 := ⟨_, rfl⟩
    have hs0 : W0.heap.size = w.heap.size + 5 := by rw [← hW0]; simp
    rw [hW0] at KW0 KW1 KW3 KW4 HM0 HB0 ⊢
    clear hW0
    refine wpIn_rangeFunc_ownG (α := Nm) (w0 := W0) rfl (by omega) (gf := 67) (lb := #[.pointer (some ⟨w.heap.size + 1 + 1 + 1 + 1, 0, none⟩)]) rfl trivial (enters_of Try.func67 (by kernel_rfl) rfl)
      (encs := fun x : Nm => #[Value.string x.1]) (Kp := KpN w.heap.size (w.heap.size + 1 + 1 + 1 + 1)) (S := fun ys => ys = xs1 ++ xs2 ++ xs3) (Sp := fun pre => pre <+: xs1 ++ xs2 ++ xs3) (N := (xs1 ++ xs2 ++ xs3).length)
      (fun l J Jx W hW hJ hJx hY h0 => names1_in (9 - 1) (by omega) l _ w s _ _ _ HS.out xs1 xs2 xs3 E1.out E2.out E3.out J Jx W hJ hJx hY (HB0.out.trans (hW.mono (by omega))) (KW4.out.below hW (by omega)) h0)
      KpN.trans (kpn_b (by omega) (by omega)) (Below.refl _ _) (fun _ => rfl)
      (RgI w (scells s (.slice A1 s.consts.length cap1) (.slice A2 s.vars.length cap2) (.slice A3 s.procs.length cap3))) (fun c => RgX w c) (rg_own (by omega)) (fun c => rx_own c (by omega))
      ⟨KW0.out, KW1.out, KW3.out, ⟨_, HM0.out, seen_nil⟩, NmOk.nil, HB0.out, by omega⟩
      (fun x => { tmps := #[.agg (scells s (.slice A1 s.consts.length cap1) (.slice A2 s.vars.length cap2) (.slice A3 s.procs.length cap3)), .pointer (some ⟨w.heap.size, 0, none⟩), .pointer (some ⟨w.heap.size + 1, 0, none⟩), .pointer (some ⟨w.heap.size + 1 + 1 + 1, 0, none⟩), .string x.1, .pointer (some ⟨w.heap.size, 0, none⟩), .string s.name, .bool true, .bool false, .bool false, .pointer (some ⟨w.heap.size, 1, none⟩), .slice A1 s.consts.length cap1, .int .i64 s.consts.length, .bool (decide (200 < (s.consts.length : Int))), .bool (decide (200 < (s.consts.length : Int))), .bool (decide (200 < (s.consts.length : Int))), .pointer (some ⟨w.heap.size, 2, none⟩), .slice A2 s.vars.length cap2, .int .i64 s.vars.length, .bool (decide (200 < (s.vars.length : Int))), .bool (decide (200 < (s.consts.length : Int)) || decide (200 < (s.vars.length : Int))), .bool (decide (200 < (s.consts.length : Int)) || decide (200 < (s.vars.length : Int))), .pointer (some ⟨w.heap.size, 3, none⟩), .slice A3 s.procs.length cap3, .int .i64 s.procs.length, .bool (decide (100 < (s.procs.length : Int))), .bool (decide (200 < (s.consts.length : Int)) || decide (200 < (s.vars.length : Int)) || decide (100 < (s.procs.length : Int))), .map (some (w.heap.size + 1 + 1)), .agg (scells s (.slice A1 s.consts.length cap1) (.slice A2 s.vars.length cap2) (.slice A3 s.procs.length cap3)), .func (.func 67) #[] #[.pointer (some ⟨w.heap.size + 1 + 1 + 1 + 1, 0, none⟩)], .string x.1, undef, undef, undef, undef, undef, undef, undef, undef, undef, undef, undef, undef, undef, undef, undef, undef, undef, undef, undef, undef, undef, undef, undef, undef, undef, undef], defers := [] }) ?assign ?body ?done ?stop
    case assign =>
      intro l x W K hK
      gi_wp2
      exact hK
    case body =>
      rintro l pre x W ⟨hbx, hrs, hsn, ⟨D, hmp, hse⟩, hok, hbl, hWs⟩ hlt
      have HBX := Lib.hid hbx
      have HRS := Lib.hid hrs
      have HSN := Lib.hid hsn
      have HMP := Lib.hid hmp
      have HSE := Lib.hid hse
      have HOK := Lib.hid hok
      have HBL := Lib.hid hbl
      have hpl : pre.length < 500 := by simp only [List.length_append] at hlt; omega
      have hcs : W.cell? ⟨w.heap.size + 1 + 1 + 1, 0, none⟩ = some (.map (some (w.heap.size + 1 + 1))) := hsn.cell 0
      clear hbx hrs hsn hmp hse hok hbl hlt
      by_cases hd : had (vals pre) x.1 = true
      · have hlk := seen_look HMP.out HSE.out x.1 x.2 (c := 1) (by rw [hd]; rfl)
        gi_wp2_with (gi_at_mapUpdate; refine wpListIn_mapUpdate_own _ rfl _ _ _ 65 rfl 9 3 lawS Try.underlying65 _ (w.heap.size + 1 + 1) pre.length D rfl HMP.out (by unfold maxLen; omega) _ _ _ rfl rfl (keyOf_string_mk Try.underlying9 x.2) _ [] (plainElem_int Try.underlying3 (by decide)) ?_; intro w1 hown1 hgrow1; have HM1 := Lib.hid hown1; have HG1 := Lib.hid hgrow1; have hcs1 : w1.cell? ⟨w.heap.size + 1 + 1 + 1, 0, none⟩ = some (.map (some (w.heap.size + 1 + 1))) := (HSN.out.grownO hgrow1 (by omega)).cell 0; have hrs1 : w1.cell? ⟨w.heap.size + 1, 0, none⟩ = some (.bool false) := (HRS.out.grownO hgrow1 (by omega)).cell 0; have hfz1 : w1.frozen? ⟨w.heap.size + 1, 0, none⟩ = false := (HRS.out.grownO hgrow1 (by omega)).frozen 0; have hlk1 := seen_two hown1 HSE.out.1 x.2; clear hown1 hgrow1)
        refine ⟨trivial, ?_⟩
        gi_wp2
        have hbad : ¬ NmOk (vals (pre ++ [x])) := by rw [vals_snoc]; exact fun g => by have := (List.nodup_append.1 g.nodup).2.2 x.1 (had_iff.1 hd) x.1 (List.mem_singleton.2 rfl); exact this rfl
        have hr1 := HRS.out.grownO HG1.out (by omega)
        exact ⟨(KeepsFrom.of_grownBy HG1.out (fun j e => by cases e; omega)).trans ((KeepsOthers.setCell _ _ _).from _), rfl, hbad, (hr1.set 0 (.bool false)).cell 0, (HBL.out.grown HG1.out HBL.out.size (fun k e => by cases e; omega)).setCell (p := ⟨w.heap.size + 1, 0, none⟩) (by show w.heap.size ≤ w.heap.size + 1; omega) _⟩
      · have hlk := seen_look HMP.out HSE.out x.1 x.2 (c := 0) (by rw [if_neg hd])
        have hd1 : had (vals pre ++ [x.1]) x.1 = true := had_iff.2 (by simp)
        by_cases hnx : isNm x.1
        · have HNX := Lib.hid (show IsB true (isNm x.1) from ⟨fun _ => hnx, fun _ => rfl⟩)
          gi_wp2_with (first | (refine ⟨trivial, ?_⟩; gi_at_call 21; refine (CallsIn.inRound l (callsIn_wide.2 (isname_any x.1 x.2 HNX.out))).mono ?_; rintro e w1 ⟨rfl, rfl⟩) | (gi_at_mapUpdate; refine wpListIn_mapUpdate_own _ rfl _ _ _ 65 rfl 9 3 lawS Try.underlying65 _ (w.heap.size + 1 + 1) pre.length D rfl HMP.out (by unfold maxLen; omega) _ _ _ rfl rfl (keyOf_string_mk Try.underlying9 x.2) _ [] (plainElem_int Try.underlying3 (by decide)) ?_; intro w1 hown1 hgrow1; have HM1 := Lib.hid hown1; have HG1 := Lib.hid hgrow1; have hcs1 : w1.cell? ⟨w.heap.size + 1 + 1 + 1, 0, none⟩ = some (.map (some (w.heap.size + 1 + 1))) := (HSN.out.grownO hgrow1 (by omega)).cell 0; have hrs1 : w1.cell? ⟨w.heap.size + 1, 0, none⟩ = some (.bool false) := (HRS.out.grownO hgrow1 (by omega)).cell 0; have hfz1 : w1.frozen? ⟨w.heap.size + 1, 0, none⟩ = false := (HRS.out.grownO hgrow1 (by omega)).frozen 0; have hlk1 := seen_look hown1 (seen_put HSE.out x.1) x.1 x.2 (c := 1) (by rw [hd1]; rfl); clear hown1 hgrow1))
          exact ⟨KeepsFrom.of_grownBy HG1.out (fun j e => by cases e; omega), KpN.grown HG1.out (by omega) (by omega) HBL.out.size (by omega), HBX.out.grownO HG1.out (by omega), HRS.out.grownO HG1.out (by omega), HSN.out.grownO HG1.out (by omega), ⟨_, by rw [List.length_append]; exact HM1.out, by rw [vals_snoc]; exact seen_put HSE.out x.1⟩, by rw [vals_snoc]; exact HOK.out.snoc hnx (fun h => hd (had_iff.2 h)), HBL.out.grown HG1.out HBL.out.size (fun k e => by cases e; omega), Nat.le_trans hWs HG1.out.size⟩
        · have HNX := Lib.hid (show IsB false (isNm x.1) from ⟨(fun h => by cases h), fun h => absurd h hnx⟩)
          gi_wp2_with (first | (refine ⟨trivial, ?_⟩; gi_at_call 21; refine (CallsIn.inRound l (callsIn_wide.2 (isname_any x.1 x.2 HNX.out))).mono ?_; rintro e w1 ⟨rfl, rfl⟩) | (gi_at_mapUpdate; refine wpListIn_mapUpdate_own _ rfl _ _ _ 65 rfl 9 3 lawS Try.underlying65 _ (w.heap.size + 1 + 1) pre.length D rfl HMP.out (by unfold maxLen; omega) _ _ _ rfl rfl (keyOf_string_mk Try.underlying9 x.2) _ [] (plainElem_int Try.underlying3 (by decide)) ?_; intro w1 hown1 hgrow1; have HM1 := Lib.hid hown1; have HG1 := Lib.hid hgrow1; have hcs1 : w1.cell? ⟨w.heap.size + 1 + 1 + 1, 0, none⟩ = some (.map (some (w.heap.size + 1 + 1))) := (HSN.out.grownO hgrow1 (by omega)).cell 0; have hrs1 : w1.cell? ⟨w.heap.size + 1, 0, none⟩ = some (.bool false) := (HRS.out.grownO hgrow1 (by omega)).cell 0; have hfz1 : w1.frozen? ⟨w.heap.size + 1, 0, none⟩ = false := (HRS.out.grownO hgrow1 (by omega)).frozen 0; have hlk1 := seen_look hown1 (seen_put HSE.out x.1) x.1 x.2 (c := 1) (by rw [hd1]; rfl); clear hown1 hgrow1))
          have hbad : ¬ NmOk (vals (pre ++ [x])) := by rw [vals_snoc]; exact fun g => hnx (g.is x.1 (by simp))
          have hr1 := HRS.out.grownO HG1.out (by omega)
          exact ⟨(KeepsFrom.of_grownBy HG1.out (fun j e => by cases e; omega)).trans ((KeepsOthers.setCell _ _ _).from _), rfl, hbad, (hr1.set 0 (.bool false)).cell 0, (HBL.out.grown HG1.out HBL.out.size (fun k e => by cases e; omega)).setCell (p := ⟨w.heap.size + 1, 0, none⟩) (by show w.heap.size ≤ w.heap.size + 1; omega) _⟩
    case done =>
      rintro D ys W hD rfl ⟨hbx, hrs, hsn, hmp, hok, hbl, hWs⟩ hK
      have HBX := Lib.hid hbx
      have HRS := Lib.hid hrs
      have HBL := Lib.hid hbl
      have HK := Lib.hid hK
      have HOK := Lib.hid (show smOk s ↔ ((∀ c ∈ s.consts, cstOk c) ∧ (∀ v ∈ s.vars, vrOk v) ∧ (∀ p ∈ s.procs, prOk p)) from ⟨fun g => g.2.2.2.2.2.2, fun g => ⟨n1, by omega, by omega, by omega, by rw [HN0.out]; exact hok.is, by rw [HN0.out]; exact hok.nodup, g⟩⟩)
      have y1 : W.cell? ⟨w.heap.size, 1, none⟩ = some (.slice A1 s.consts.length cap1) := hbx.cell 1
      clear hbx hrs hsn hmp hok hbl hK
      have HX0 := HBX
      have HR0 := HRS
      have HB0 := HBL
      have HD0 := HK
      by_cases p1 : ∀ c ∈ s.consts, cstOk c
      · have Q1 := Lib.hid (show IsB true (∀ c ∈ s.consts, cstOk c) from ⟨fun _ => p1, fun _ => rfl⟩)
        by_cases p2 : ∀ v ∈ s.vars, vrOk v
        · have Q2 := Lib.hid (show IsB true (∀ v ∈ s.vars, vrOk v) from ⟨fun _ => p2, fun _ => rfl⟩)
          have Q3 := Lib.hid (show IsB q (∀ p ∈ s.procs, prOk p) from ⟨fun h => (HOK.out.1 (HC.out.iff.1 h)).2.2, fun h => HC.out.iff.2 (HOK.out.2 ⟨p1, p2, h⟩)⟩)
          clear p1 p2
          gi_wp2_with (first | (refine ⟨trivial, ?_⟩; gi_at_call 27; refine (callsIn_wide.2 (all_proc (HS.out.p.below HB2.out) Q3.out)).mono ?_; rintro e w3 ⟨rfl, hb3⟩; have HX3 := Lib.hid (HX2.out.step hb3); have HR3 := Lib.hid (HR2.out.step hb3); have HB3 := Lib.hid (HB2.out.trans (hb3.mono HB2.out.size)); have HD3 := Lib.hid ((hb3.block D (Array.getElem?_eq_some_iff.1 HD2.out).1).trans HD2.out); clear hb3; have hr3 : w3.cell? ⟨w.heap.size + 1, 0, none⟩ = some (.bool false) := HR3.out.cell 0; have hf3 : w3.frozen? ⟨w.heap.size + 1, 0, none⟩ = false := HR3.out.frozen 0) | (refine ⟨trivial, ?_⟩; gi_at_call 25; refine (callsIn_wide.2 (all_var (HS.out.v.below HB1.out) Q2.out)).mono ?_; rintro e w2 ⟨rfl, hb2⟩; have HX2 := Lib.hid (HX1.out.step hb2); have HR2 := Lib.hid (HR1.out.step hb2); have HB2 := Lib.hid (HB1.out.trans (hb2.mono HB1.out.size)); have HD2 := Lib.hid ((hb2.block D (Array.getElem?_eq_some_iff.1 HD1.out).1).trans HD1.out); clear hb2; have hr2 : w2.cell? ⟨w.heap.size + 1, 0, none⟩ = some (.bool false) := HR2.out.cell 0; have hf2 : w2.frozen? ⟨w.heap.size + 1, 0, none⟩ = false := HR2.out.frozen 0; have y3 : w2.cell? ⟨w.heap.size, 3, none⟩ = some (.slice A3 s.procs.length cap3) := HX2.out.cell 3) | (refine ⟨trivial, ?_⟩; gi_at_call 23; refine (callsIn_wide.2 (all_const (HS.out.c.below HB0.out) Q1.out)).mono ?_; rintro e w1 ⟨rfl, hb1⟩; have HX1 := Lib.hid (HX0.out.step hb1); have HR1 := Lib.hid (HR0.out.step hb1); have HB1 := Lib.hid (HB0.out.trans (hb1.mono HB0.out.size)); have HD1 := Lib.hid ((hb1.block D (Array.getElem?_eq_some_iff.1 HD0.out).1).trans HD0.out); clear hb1; have hr1 : w1.cell? ⟨w.heap.size + 1, 0, none⟩ = some (.bool false) := HR1.out.cell 0; have hf1 : w1.frozen? ⟨w.heap.size + 1, 0, none⟩ = false := HR1.out.frozen 0; have y2 : w1.cell? ⟨w.heap.size, 2, none⟩ = some (.slice A2 s.vars.length cap2) := HX1.out.cell 2))
          have hK1 := (KeepsOthers.setCell w3 ⟨w.heap.size + 1, 0, none⟩ (.bool q)).same D _ HD3.out rfl
          refine ⟨by simp, .inl ⟨_, _, rfl, run_takeDeferred hK1, ?_⟩⟩
          have hc4 : (w3.setCell ⟨w.heap.size + 1, 0, none⟩ (.bool q)).cell? ⟨w.heap.size + 1, 0, none⟩ = some (.bool q) := (HR3.out.set 0 (.bool q)).cell 0
          have hc5 := cell_kept hc4 (grownBy_putObj' _ D (.deferred none)) (fun r e => by cases e; exact ⟨_, hK1, rfl⟩)
          refine ⟨.bool q, ?_, rfl, (HB3.out.setCell (p := ⟨w.heap.size + 1, 0, none⟩) (by show w.heap.size ≤ w.heap.size + 1; omega) _).trans (belowK_b (w := w) (Nat.le_refl _) _ D _ _ (by omega) hK1 rfl rfl)⟩
          simp [results, Try.f10, go_sem, hc5]
        · have Q2 := Lib.hid (show IsB false (∀ v ∈ s.vars, vrOk v) from ⟨(fun h => by cases h), fun h => absurd h p2⟩)
          obtain rfl := HC.out.no (fun g => p2 (HOK.out.1 g).2.1)
          clear p1 p2
          gi_wp2_with (first | (refine ⟨trivial, ?_⟩; gi_at_call 25; refine (callsIn_wide.2 (all_var (HS.out.v.below HB1.out) Q2.out)).mono ?_; rintro e w2 ⟨rfl, hb2⟩; have HX2 := Lib.hid (HX1.out.step hb2); have HR2 := Lib.hid (HR1.out.step hb2); have HB2 := Lib.hid (HB1.out.trans (hb2.mono HB1.out.size)); have HD2 := Lib.hid ((hb2.block D (Array.getElem?_eq_some_iff.1 HD1.out).1).trans HD1.out); clear hb2; have hr2 : w2.cell? ⟨w.heap.size + 1, 0, none⟩ = some (.bool false) := HR2.out.cell 0; have hf2 : w2.frozen? ⟨w.heap.size + 1, 0, none⟩ = false := HR2.out.frozen 0; have y3 : w2.cell? ⟨w.heap.size, 3, none⟩ = some (.slice A3 s.procs.length cap3) := HX2.out.cell 3) | (refine ⟨trivial, ?_⟩; gi_at_call 23; refine (callsIn_wide.2 (all_const (HS.out.c.below HB0.out) Q1.out)).mono ?_; rintro e w1 ⟨rfl, hb1⟩; have HX1 := Lib.hid (HX0.out.step hb1); have HR1 := Lib.hid (HR0.out.step hb1); have HB1 := Lib.hid (HB0.out.trans (hb1.mono HB0.out.size)); have HD1 := Lib.hid ((hb1.block D (Array.getElem?_eq_some_iff.1 HD0.out).1).trans HD0.out); clear hb1; have hr1 : w1.cell? ⟨w.heap.size + 1, 0, none⟩ = some (.bool false) := HR1.out.cell 0; have hf1 : w1.frozen? ⟨w.heap.size + 1, 0, none⟩ = false := HR1.out.frozen 0; have y2 : w1.cell? ⟨w.heap.size, 2, none⟩ = some (.slice A2 s.vars.length cap2) := HX1.out.cell 2))
          refine ⟨trivial, ?_⟩
          gi_wp2
          have hK1 := (KeepsOthers.setCell w2 ⟨w.heap.size + 1, 0, none⟩ (.bool false)).same D _ HD2.out rfl
          refine ⟨by simp, .inl ⟨_, _, rfl, run_takeDeferred hK1, ?_⟩⟩
          have hc4 : (w2.setCell ⟨w.heap.size + 1, 0, none⟩ (.bool false)).cell? ⟨w.heap.size + 1, 0, none⟩ = some (.bool false) := (HR2.out.set 0 (.bool false)).cell 0
          have hc5 := cell_kept hc4 (grownBy_putObj' _ D (.deferred none)) (fun r e => by cases e; exact ⟨_, hK1, rfl⟩)
          refine ⟨.bool false, ?_, rfl, (HB2.out.setCell (p := ⟨w.heap.size + 1, 0, none⟩) (by show w.heap.size ≤ w.heap.size + 1; omega) _).trans (belowK_b (w := w) (Nat.le_refl _) _ D _ _ (by omega) hK1 rfl rfl)⟩
          simp [results, Try.f10, go_sem, hc5]
      · have Q1 := Lib.hid (show IsB false (∀ c ∈ s.consts, cstOk c) from ⟨(fun h => by cases h), fun h => absurd h p1⟩)
        obtain rfl := HC.out.no (fun g => p1 (HOK.out.1 g).1)
        clear p1
        gi_wp2_with ((refine ⟨trivial, ?_⟩; gi_at_call 23; refine (callsIn_wide.2 (all_const (HS.out.c.below HB0.out) Q1.out)).mono ?_; rintro e w1 ⟨rfl, hb1⟩; have HX1 := Lib.hid (HX0.out.step hb1); have HR1 := Lib.hid (HR0.out.step hb1); have HB1 := Lib.hid (HB0.out.trans (hb1.mono HB0.out.size)); have HD1 := Lib.hid ((hb1.block D (Array.getElem?_eq_some_iff.1 HD0.out).1).trans HD0.out); clear hb1; have hr1 : w1.cell? ⟨w.heap.size + 1, 0, none⟩ = some (.bool false) := HR1.out.cell 0; have hf1 : w1.frozen? ⟨w.heap.size + 1, 0, none⟩ = false := HR1.out.frozen 0; have y2 : w1.cell? ⟨w.heap.size, 2, none⟩ = some (.slice A2 s.vars.length cap2) := HX1.out.cell 2))
        refine ⟨trivial, ?_⟩
        gi_wp2
        refine ⟨trivial, ?_⟩
        gi_wp2
        have hK1 := (KeepsOthers.setCell w1 ⟨w.heap.size + 1, 0, none⟩ (.bool false)).same D _ HD1.out rfl
        refine ⟨by simp, .inl ⟨_, _, rfl, run_takeDeferred hK1, ?_⟩⟩
        have hc4 : (w1.setCell ⟨w.heap.size + 1, 0, none⟩ (.bool false)).cell? ⟨w.heap.size + 1, 0, none⟩ = some (.bool false) := (HR1.out.set 0 (.bool false)).cell 0
        have hc5 := cell_kept hc4 (grownBy_putObj' _ D (.deferred none)) (fun r e => by cases e; exact ⟨_, hK1, rfl⟩)
        refine ⟨.bool false, ?_, rfl, (HB1.out.setCell (p := ⟨w.heap.size + 1, 0, none⟩) (by show w.heap.size ≤ w.heap.size + 1; omega) _).trans (belowK_b (w := w) (Nat.le_refl _) _ D _ _ (by omega) hK1 rfl rfl)⟩
        simp [results, Try.f10, go_sem, hc5]
    case stop =>
      rintro D c pre W hD hpre ⟨rfl, hbad, hres, hbl⟩ hK
      obtain rfl := HC.out.no (fun g => hbad (NmOk.of_pre (b := vals (xs1 ++ xs2 ++ xs3)) (by rw [← HN0.out]; exact ⟨g.2.2.2.2.1, g.2.2.2.2.2.1⟩) (hpre.map _)))
      gi_wp2
      refine ⟨by simp, .inl ⟨_, _, rfl, run_takeDeferred hK, ?_⟩⟩
      have hc5 := cell_kept hres (grownBy_putObj' _ D (.deferred none)) (fun r e => by cases e; exact ⟨_, hK, rfl⟩)
      refine ⟨.bool false, ?_, rfl, hbl.trans (belowK_b (w := w) (Nat.le_refl _) W D _ _ (by omega) hK rfl rfl)⟩
      simp [results, Try.f10, go_sem, hc5]
  · have HN := Lib.hid (show IsB false (isNm s.name) from ⟨(fun h => by cases h), fun h => absurd h n1⟩)
    obtain rfl := HC.out.no (fun g => n1 g.1)
    gi_wp2_with (refine ⟨trivial, ?_⟩; gi_at_call 21; refine (callsIn_wide.2 (isname_any s.name hnm HN.out)).mono ?_; rintro e w1 ⟨rfl, rfl⟩)
    have hK1c := HK1c.out
    refine ⟨.bool false, ?_, rfl, B1.out⟩
    simp [results, Try.f10, go_sem, hK1c]
theorem right_any (s : Sm) {cv vv pv : Value} (hS : SmAt w s cv vv pv) {q : Bool} (hc : IsB q (smOk s)) :
    Calls Try.prog 10 #[.agg (scells s cv vv pv)] w fun e w' => e = .returned (.bool q) ∧ Below w.heap.size w w' := callsIn_wide.1 (right_in s hS hc)
end
end Go.Proofs.Ytgemnmceflcpcaa
