/- May symbols be: the document's. -/
import Derived.Test.YtgemnmceflcpcaaQI
namespace Go.Proofs.Ytgemnmceflcpcaa
open Go Go.RowKit Go.Lib Go.BigFrame Go.Proofs.Ytgemnmceflcpcaa.Sy
set_option linter.unusedVariables false
set_option linter.unusedSimpArgs false
attribute [local go_sem ↓] exec_load_const exec_store_const exec_load_var exec_store_var exec_load_proc exec_store_proc exec_load_sym exec_store_sym
theorem info_str : (Try.prog.info? 9).map (fun i => (i.zero, i.size, i.bytes)) = some (some (.string ⟨#[]⟩), 1, 16) := by kernel_rfl
abbrev OwnN (w : World) (B : Nat) (v : Value) (l : List ByteArray) : Prop := OwnL w B 9 1 v (srows l)
theorem allTo {α : Type} {l : List α} {P : α → Prop} {k : Nat} {x : α} (hx : l[k]? = some x) {q b : Bool} (h : IsB q (∀ j y, j < k → l[j]? = some y → P y)) (hb : IsB b (P x)) : IsB (q && b) (∀ j y, j < k + 1 → l[j]? = some y → P y) :=
  ⟨by
    rw [Bool.and_eq_true, h.iff, hb.iff]
    constructor
    · rintro ⟨h1, h2⟩ j y hj hy
      by_cases e : j = k
      · subst e; rw [hx] at hy; cases hy; exact h2
      · exact h1 j y (by omega) hy
    · intro h1
      exact ⟨fun j y hj hy => h1 j y (by omega) hy, h1 k x (by omega) hx⟩⟩
theorem allTo_no {α : Type} {l : List α} {P : α → Prop} {k : Nat} (h : IsB false (∀ j y, j < k → l[j]? = some y → P y)) : IsB false (∀ j y, j < k + 1 → l[j]? = some y → P y) :=
  ⟨⟨(fun e => by cases e), fun g => h.iff.2 (fun j y hj hy => g j y (by omega) hy)⟩⟩
theorem allTo_all {α : Type} {l : List α} {P : α → Prop} {q : Bool} (h : IsB q (∀ j y, j < l.length → l[j]? = some y → P y)) : IsB q (∀ x ∈ l, P x) :=
  ⟨by
    rw [h.iff]
    constructor
    · intro g x hx
      obtain ⟨j, hj⟩ := List.mem_iff_getElem?.1 hx
      exact g j x (List.getElem?_eq_some_iff.1 hj).1 hj
    · intro g j y _ hy; exact g y (List.mem_of_getElem? hy)⟩
theorem nm_take {α : Type} {l : List α} {f : α → ByteArray} {k : Nat} {x : α} (hx : l[k]? = some x) : (l.map f).take (k + 1) = (l.map f).take k ++ [f x] := by
  rw [List.take_add_one, List.getElem?_map, hx]; rfl
theorem zeroTo {α : Type} {l : List α} {P : α → Prop} {P0 : Prop} {q : Bool} (h : IsB q P0) : IsB q (P0 ∧ ∀ j y, j < 0 → l[j]? = some y → P y) :=
  ⟨by rw [h.iff]; exact ⟨fun g => ⟨g, fun j y hj => absurd hj (by omega)⟩, fun g => g.1⟩⟩
theorem allTo2 {α : Type} {l : List α} {P : α → Prop} {P0 : Prop} {k : Nat} {x : α} (hx : l[k]? = some x) {q b : Bool} (h : IsB q (P0 ∧ ∀ j y, j < k → l[j]? = some y → P y)) (hb : IsB b (P x)) : IsB (q && b) (P0 ∧ ∀ j y, j < k + 1 → l[j]? = some y → P y) :=
  ⟨by
    rw [Bool.and_eq_true, h.iff, hb.iff]
    constructor
    · rintro ⟨⟨h0, h1⟩, h2⟩
      refine ⟨h0, fun j y hj hy => ?_⟩
      by_cases e : j = k
      · subst e; rw [hx] at hy; cases hy; exact h2
      · exact h1 j y (by omega) hy
    · rintro ⟨h0, h1⟩
      exact ⟨⟨h0, fun j y hj hy => h1 j y (by omega) hy⟩, h1 k x (by omega) hx⟩⟩
theorem allTo2_no {α : Type} {l : List α} {P : α → Prop} {P0 : Prop} {k : Nat} (h : IsB false (P0 ∧ ∀ j y, j < k → l[j]? = some y → P y)) : IsB false (P0 ∧ ∀ j y, j < k + 1 → l[j]? = some y → P y) :=
  ⟨⟨(fun e => by cases e), fun g => h.iff.2 ⟨g.1, fun j y hj hy => g.2 j y (by omega) hy⟩⟩⟩
theorem allTo2_all {α : Type} {l : List α} {P : α → Prop} {P0 : Prop} {q : Bool} (h : IsB q (P0 ∧ ∀ j y, j < l.length → l[j]? = some y → P y)) : IsB q (P0 ∧ ∀ x ∈ l, P x) :=
  ⟨by
    rw [h.iff]
    constructor
    · rintro ⟨g0, g⟩
      refine ⟨g0, fun x hx => ?_⟩
      obtain ⟨j, hj⟩ := List.mem_iff_getElem?.1 hx
      exact g j x (List.getElem?_eq_some_iff.1 hj).1 hj
    · rintro ⟨g0, g⟩
      exact ⟨g0, fun j y _ hy => g y (List.mem_of_getElem? hy)⟩⟩
theorem nm_take2 {α : Type} {l : List α} {f : α → ByteArray} {pre : List ByteArray} {k : Nat} {x : α} (hx : l[k]? = some x) : pre ++ (l.map f).take (k + 1) = (pre ++ (l.map f).take k) ++ [f x] := by
  rw [nm_take hx, List.append_assoc]
section
variable {w : World}
set_option maxHeartbeats 4000000 in
set_option maxRecDepth 100000 in
theorem rright_any (s : Sm) {cv vv pv : Value} (hS : SmAt w s cv vv pv) {q : Bool} (hc : IsB q (smOk s)) :
    Calls Try.prog 16 #[.agg (scells s cv vv pv)] w fun e w' => e = .returned (.bool q) ∧ Below w.heap.size w w' := by
  obtain ⟨i0, hi, hz0, hz1, hz2⟩ := info_parts info_str
  have HI := Lib.hid hi
  have HZ0 := Lib.hid hz0
  have HZ1 := Lib.hid hz1
  have HZ2 := Lib.hid hz2
  have HC := Lib.hid hc
  have HS := Lib.hid hS
  obtain ⟨hnm, hC, hV, hP⟩ := hS
  obtain ⟨A1, cap1, rfl, c11, c12, z1⟩ := list_of hC.1 (List.length_map _)
  obtain ⟨A2, cap2, rfl, c21, c22, z2⟩ := list_of hV.1 (List.length_map _)
  obtain ⟨pvs, hpl, hrw, hpe⟩ := hP
  obtain ⟨A3, cap3, rfl, c31, c32, z3⟩ := list_of (n := s.procs.length) hrw (by rw [List.length_zipWith, hpl, Nat.min_self])
  unfold maxLen at c12 c22 c32
  have Z1 := Lib.hid z1
  have Z2 := Lib.hid z2
  have Z3 := Lib.hid z3
  have HCF := Lib.hid hC.2
  have HVF := Lib.hid hV.2
  have HPL := Lib.hid hpl
  have HPE := Lib.hid hpe
  clear hC hV z1 z2 z3 hrw hpe hpl hc hi hz0 hz1 hz2
  obtain ⟨S, hSS⟩ : ∃ S, S = scells s (.slice A1 s.consts.length cap1) (.slice A2 s.vars.length cap2) (.slice A3 s.procs.length cap3) := ⟨_, rfl⟩
  have KSa := Lib.hid (Blk.new w S 26)
  have HBa := Lib.hid ((Below.refl w.heap.size w).alloc (Nat.le_refl _) (.cells S 26))
  have HSS := Lib.hid hSS
  rw [← hSS]
  clear hSS
  obtain ⟨qn, hqn⟩ := boolOf (isNm s.name)
  have HQN := Lib.hid (fun W => risname_any (w := W) s.name hnm hqn)
  have k0 : (w.alloc (.cells S 26)).cell? ⟨w.heap.size, 0, none⟩ = some (.string s.name) := by have := KSa.out.cell 0; rw [this, HSS.out]; rfl
  have k1 : (w.alloc (.cells S 26)).cell? ⟨w.heap.size, 1, none⟩ = some (.slice A1 s.consts.length cap1) := by have := KSa.out.cell 1; rw [this, HSS.out]; rfl
  have k2 : (w.alloc (.cells S 26)).cell? ⟨w.heap.size, 2, none⟩ = some (.slice A2 s.vars.length cap2) := by have := KSa.out.cell 2; rw [this, HSS.out]; rfl
  have k3 : (w.alloc (.cells S 26)).cell? ⟨w.heap.size, 3, none⟩ = some (.slice A3 s.procs.length cap3) := by have := KSa.out.cell 3; rw [this, HSS.out]; rfl
  cases qn with
  | false =>
    obtain rfl := HC.out.no (fun h => by have := hqn.iff.2 h.1; cases this)
    clear hqn
    go_enter Try.func16, Try.ntmps16
    go_upto_region 1 with fail
    generalize w.alloc (.cells S 26) = W0 at k0 k1 k2 k3 HBa KSa ⊢
    go_wp2_with (go_at_call 42; refine (HQN.out _).mono ?_; rintro e w1 ⟨rfl, rfl⟩)
    go_ret
    exact ⟨rfl, HBa.out⟩
  | true =>
    have HNM := Lib.hid (hqn.iff.1 rfl)
    clear hqn
    by_cases b1 : s.consts.length ≤ 200
    · have b1n : (s.consts.length : Int) ≤ 200 := by omega
      by_cases b2 : s.vars.length ≤ 200
      · have b2n : (s.vars.length : Int) ≤ 200 := by omega
        by_cases b3 : s.procs.length ≤ 100
        · have b3n : (s.procs.length : Int) ≤ 100 := by omega
          go_enter Try.func16, Try.ntmps16
          go_upto_region 1 with fail
          generalize w.alloc (.cells S 26) = W0 at k0 k1 k2 k3 HBa KSa ⊢
          go_wp2_with (go_at_call 42; refine (HQN.out _).mono ?_; rintro e w1 ⟨rfl, rfl⟩)
          clear k0 k1 k2 k3
          go_loopw [3, 4, 5] (fun ok u i wr => ∃ (k : Nat) (b : Bool), k ≤ s.consts.length ∧ ok = .bool b ∧ i = .int .i64 k ∧ Hid (IsB b (∀ j y, j < k → s.consts[j]? = some y → cstOk y)) ∧ Hid (OwnN wr (w.heap.size + 1) u ((s.consts.map Cst.name).take k)) ∧ Hid (Blk wr w.heap.size S 26) ∧ Hid (Below w.heap.size w wr)) (fun _ _ i _ => s.consts.length - (intOf i).toNat)
          case atStart => exact ⟨0, true, Nat.zero_le _, rfl, rfl, Lib.hid ⟨⟨fun _ j y hj => absurd hj (by omega), fun _ => rfl⟩⟩, Lib.hid (World.ownsRow_nil _ _ _ _), KSa, HBa⟩
          case round =>
            obtain ⟨k, b, hk, rfl, rfl, HQ, OW, KS, HB⟩ := hrel
            clear KSa HBa
            have k1 : wr.cell? ⟨w.heap.size, 1, none⟩ = some (.slice A1 s.consts.length cap1) := by have := KS.out.cell 1; rw [this, HSS.out]; rfl
            by_cases hlt : k < s.consts.length
            · obtain ⟨x, hx⟩ : ∃ x, s.consts[k]? = some x := ⟨s.consts[k], List.getElem?_eq_getElem hlt⟩
              rcases Z1.out with hE | ⟨bb, off, rfl, hb, hr⟩
              · omega
              have hrx := hr k (ccells x).toList (by rw [List.getElem?_map, hx]; rfl)
              have hl := load_mid Try.underlying48 rfl sz_const (range_below hrx HB.out hb) rfl
              have HRX := Lib.hid hrx
              have HBB := Lib.hid hb
              obtain ⟨b', hb'⟩ := boolOf (cstOk x)
              have HQC := Lib.hid (rcst_any (w := wr) x (HCF.out x (List.mem_of_getElem? hx)) hb')
              have HQ2 := Lib.hid (allTo hx HQ.out hb')
              have HNT := Lib.hid (nm_take (f := Cst.name) hx)
              obtain ⟨L, hL⟩ : ∃ L, L = (s.consts.map Cst.name).take k := ⟨_, rfl⟩
              rw [← hL] at OW HNT
              obtain ⟨R, hR⟩ : ∃ R, R = srows L := ⟨_, rfl⟩
              have HRL := Lib.hid (show R.length = k by rw [hR, hL]; simp; omega)
              replace OW : Hid (OwnL wr (w.heap.size + 1) 9 1 u4 R) := by rw [hR]; exact OW
              have HRR := Lib.hid hR
              clear hL hR
              have hltn : (k : Int) < (s.consts.length : Int) := by omega
              have hk0 : (0 : Int) ≤ (k : Int) := by omega
              clear hrx hr hx hb'
              cases b with
              | true =>
                go_upto_region 9 with (go_at_call 43; refine HQC.out.mono ?_; rintro e w1 ⟨rfl, hb1⟩; have HB1 := Lib.hid (HB.out.trans (hb1.mono HB.out.size)); have KS1 := Lib.hid (KS.out.step hb1); have OW1 := Lib.hid (OwnL.touch OW.out (Touch.of_below hb1 []) (fun x hx => by cases hx)); have k11 : w1.cell? ⟨w.heap.size, 1, none⟩ = some (.slice (some ⟨bb, off, none⟩) s.consts.length cap1) := (by have := KS1.out.cell 1; rw [this, HSS.out]; rfl); have c11 : w1.cell? ⟨bb, off + k * 5, none⟩ = some (.string x.name) := (range_below HRX.out HB1.out HBB.out) 0 _ rfl; clear hb1)
                clear hl k1
                go_wp2_with (at_builtin; refine wpList_append_own _ rfl _ _ 41 rfl (w.heap.size + 1) 9 i0 (.string ⟨#[]⟩) 1 16 Try.underlying41 HI.out HZ0.out HZ1.out HZ2.out rfl (by decide) _ _ _ rfl (World.ownsRow.alloc OW1.out _) ⟨w1.heap.size, 0, none⟩ 1 1 [.string x.name] rfl rfl ?p1 ?p2 ?p3 ?p4 ?p5 ?_)
                case p1 => exact new_cells w1 [.string x.name] 9 (by simp)
                case p2 => simp [Value.oneCell']
                case p3 => have := HRL.out; unfold maxLen; omega
                case p4 => have := HRL.out; omega
                case p5 => have := KS1.out.lt; simp; omega
                intro v' w8 hown8 hgrow8 _
                have T8 := Touch.of_grown hgrow8
                have KS8 := Lib.hid (T8.blk (KS1.out.old (.cells #[.string x.name] 9)) (fun hm => by simp only [Option.mem_toList, Option.mem_def] at hm; have := (own_lt OW1.out _ hm).2; omega))
                have HB8 := Lib.hid ((HB1.out.alloc HB1.out.size (.cells #[.string x.name] 9)).grown hgrow8 (by have := HB1.out.size; simp; omega) (fun y hy => by have := (own_lt OW1.out y hy).2; omega))
                have OW8 := Lib.hid (show OwnN w8 (w.heap.size + 1) v' ((s.consts.map Cst.name).take (k + 1)) by rw [HNT.out]; unfold OwnN srows; rw [List.map_append]; have := ownL_push hown8; rw [HRR.out] at this; exact this)
                clear hown8 hgrow8 T8
                go_wp2_with fail
                go_roundw
                case rel => exact ⟨k + 1, b', by omega, by simp, by go_num, by simpa using HQ2, OW8, KS8, HB8⟩
                case measure => simp [intOf]; omega
              | false =>
                have HQ3 := Lib.hid (allTo_no HQ.out)
                have c1 : wr.cell? ⟨bb, off + k * 5, none⟩ = some (.string x.name) := (range_below HRX.out HB.out HBB.out) 0 _ rfl
                go_wp2_with (at_builtin; refine wpList_append_own _ rfl _ _ 41 rfl (w.heap.size + 1) 9 i0 (.string ⟨#[]⟩) 1 16 Try.underlying41 HI.out HZ0.out HZ1.out HZ2.out rfl (by decide) _ _ _ rfl (World.ownsRow.alloc OW.out _) ⟨wr.heap.size, 0, none⟩ 1 1 [.string x.name] rfl rfl ?q1 ?q2 ?q3 ?q4 ?q5 ?_)
                skip
                case q2 => simp [Value.oneCell']
                case q3 => have := HRL.out; unfold maxLen; omega
                case q4 => have := HRL.out; omega
                case q5 => have := KS.out.lt; simp; omega
                intro v' w8 hown8 hgrow8 _
                have T8 := Touch.of_grown hgrow8
                have KS8 := Lib.hid (T8.blk (KS.out.old (.cells #[.string x.name] 9)) (fun hm => by simp only [Option.mem_toList, Option.mem_def] at hm; have := (own_lt OW.out _ hm).2; omega))
                have HB8 := Lib.hid ((HB.out.alloc HB.out.size (.cells #[.string x.name] 9)).grown hgrow8 (by have := HB.out.size; simp; omega) (fun y hy => by have := (own_lt OW.out y hy).2; omega))
                have OW8 := Lib.hid (show OwnN w8 (w.heap.size + 1) v' ((s.consts.map Cst.name).take (k + 1)) by rw [HNT.out]; unfold OwnN srows; rw [List.map_append]; have := ownL_push hown8; rw [HRR.out] at this; exact this)
                clear hown8 hgrow8 T8
                go_wp2_with fail
                go_roundw
                case rel => exact ⟨k + 1, false, by omega, rfl, by go_num, HQ3, OW8, KS8, HB8⟩
                case measure => simp [intOf]; omega
            · obtain rfl : k = s.consts.length := by omega
              have HQ1 := Lib.hid (allTo_all HQ.out)
              obtain ⟨P0, hP0⟩ : ∃ P0 : Prop, P0 = ∀ c ∈ s.consts, cstOk c := ⟨_, rfl⟩
              rw [← hP0] at HQ1
              have HP0 := Lib.hid hP0
              obtain ⟨PRE, hPRE⟩ : ∃ l, l = s.consts.map Cst.name := ⟨_, rfl⟩
              have OWs : Hid (OwnN wr (w.heap.size + 1) u4 PRE) := by rw [hPRE]; have := OW.out; rw [show s.consts.length = (s.consts.map Cst.name).length by simp, List.take_length] at this; exact this
              have HPL0 := Lib.hid (show PRE.length ≤ 200 by rw [hPRE]; simpa using b1)
              have HPRE := Lib.hid hPRE
              have KSs := KS
              have HBs := HB
              clear hP0 hPRE OW KS HB HQ
              go_wp2_with fail
              clear k1
              go_loopw [3, 4, 6] (fun ok u i wr => ∃ (k : Nat) (b : Bool), k ≤ s.vars.length ∧ ok = .bool b ∧ i = .int .i64 k ∧ Hid (IsB b (P0 ∧ ∀ j y, j < k → s.vars[j]? = some y → vrOk y)) ∧ Hid (OwnN wr (w.heap.size + 1) u (PRE ++ (s.vars.map Vr.name).take k)) ∧ Hid (Blk wr w.heap.size S 26) ∧ Hid (Below w.heap.size w wr)) (fun _ _ i _ => s.vars.length - (intOf i).toNat)
              case atStart => exact ⟨0, _, Nat.zero_le _, rfl, rfl, Lib.hid (zeroTo HQ1.out), by rw [List.take_zero, List.append_nil]; exact OWs, KSs, HBs⟩
              case round =>
                obtain ⟨k, b, hk, rfl, rfl, HQ, OW, KS, HB⟩ := hrel
                clear KSs HBs OWs HQ1
                have k1 : wr.cell? ⟨w.heap.size, 2, none⟩ = some (.slice A2 s.vars.length cap2) := by have := KS.out.cell 2; rw [this, HSS.out]; rfl
                by_cases hlt : k < s.vars.length
                · obtain ⟨x, hx⟩ : ∃ x, s.vars[k]? = some x := ⟨s.vars[k], List.getElem?_eq_getElem hlt⟩
                  rcases Z2.out with hE | ⟨bb, off, rfl, hb, hr⟩
                  · omega
                  have hrx := hr k (vcells x).toList (by rw [List.getElem?_map, hx]; rfl)
                  have hl := load_mid Try.underlying73 rfl sz_var (range_below hrx HB.out hb) rfl
                  have hst := store_blk_new wr zVar (vcells x) 73 sz_var rfl rfl (vcells_one x)
                  obtain ⟨b', hb'⟩ := boolOf (vrOk x)
                  have HB' := Lib.hid hb'
                  have HQ2 := Lib.hid (allTo2 hx HQ.out hb')
                  have HNT := Lib.hid (nm_take2 (pre := PRE) (f := Vr.name) hx)
                  obtain ⟨L, hL⟩ : ∃ L, L = PRE ++ (s.vars.map Vr.name).take k := ⟨_, rfl⟩
                  rw [← hL] at OW HNT
                  obtain ⟨R, hR⟩ : ∃ R, R = srows L := ⟨_, rfl⟩
                  have HRL := Lib.hid (show R.length ≤ 200 + k by have := HPL0.out; rw [hR, hL]; simp; omega)
                  replace OW : Hid (OwnL wr (w.heap.size + 1) 9 1 u4 R) := by rw [hR]; exact OW
                  have HRR := Lib.hid hR
                  have hltn : (k : Int) < (s.vars.length : Int) := by omega
                  have hk0 : (0 : Int) ≤ (k : Int) := by omega
                  clear hL hR hrx hr hx hb'
                  go_upto_region 14 with fail
                  have KX1 := Lib.hid (Blk.new wr (vcells x) 73)
                  have KS1 := Lib.hid (KS.out.old (.cells (vcells x) 73))
                  have HB1 := Lib.hid (HB.out.alloc HB.out.size (.cells (vcells x) 73))
                  have OW1 := Lib.hid (OwnL.touch OW.out (Touch.alloc wr (.cells (vcells x) 73)) (fun x h => by cases h))
                  have HNX := Lib.hid (show ∀ g, u4.ownBlock = some g → g ≠ wr.heap.size from fun g hg => by have := (own_lt OW.out g hg).1; omega)
                  have hgx := KS.out.lt
                  generalize wr.alloc (.cells (vcells x) 73) = w1 at KX1 KS1 HB1 OW1 ⊢
                  generalize wr.heap.size = gx at KX1 HNX hgx ⊢
                  clear hl hst k1 KS HB OW
                  have x0 : w1.cell? ⟨gx, 0, none⟩ = some (.string x.name) := KX1.out.cell 0
                  go_wp2_with (at_builtin; refine wpList_append_own _ rfl _ _ 41 rfl (w.heap.size + 1) 9 i0 (.string ⟨#[]⟩) 1 16 Try.underlying41 HI.out HZ0.out HZ1.out HZ2.out rfl (by decide) _ _ _ rfl (World.ownsRow.alloc OW1.out _) ⟨w1.heap.size, 0, none⟩ 1 1 [.string x.name] rfl rfl ?r1 ?r2 ?r3 ?r4 ?r5 ?_)
                  case r1 => exact new_cells w1 [.string x.name] 9 (by simp)
                  case r2 => simp [Value.oneCell']
                  case r3 => have := HRL.out; unfold maxLen; omega
                  case r4 => have := HRL.out; omega
                  case r5 => have := KS1.out.lt; simp; omega
                  intro v' w8 hown8 hgrow8 _
                  have T8 := Touch.of_grown hgrow8
                  have T8r := T8
                  have KS8 := Lib.hid (T8.blk (KS1.out.old (.cells #[.string x.name] 9)) (fun hm => by simp only [Option.mem_toList, Option.mem_def] at hm; have := (own_lt OW1.out _ hm).2; omega))
                  have HB8 := Lib.hid ((HB1.out.alloc HB1.out.size (.cells #[.string x.name] 9)).grown hgrow8 (by have := HB1.out.size; simp; omega) (fun y hy => by have := (own_lt OW1.out y hy).2; omega))
                  have OW8 := Lib.hid (show OwnN w8 (w.heap.size + 1) v' (PRE ++ (s.vars.map Vr.name).take (k + 1)) by rw [HNT.out]; unfold OwnN srows; rw [List.map_append]; have := ownL_push hown8; rw [HRR.out] at this; exact this)
                  clear hown8 hgrow8 T8
                  have KX8 := Lib.hid (T8r.blk (KX1.out.old (.cells #[.string x.name] 9)) (fun hm => by simp only [Option.mem_toList, Option.mem_def] at hm; exact HNX.out _ hm rfl))
                  clear x0 T8r KX1 KS1 HB1 OW1
                  have x1 : w8.cell? ⟨gx, 1, none⟩ = some (.int .i64 x.form) := KX8.out.cell 1
                  obtain ⟨q1, hq1⟩ := boolOf (plainF x.form)
                  have HQP := Lib.hid (rplain_any (w := w8) x.form hq1)
                  have HQ1P := Lib.hid hq1
                  clear hq1
                  go_upto_region 16 with (go_at_call 44; refine HQP.out.mono ?_; rintro e w9 ⟨rfl, rfl⟩)
                  · skip
                    have x2 : w8.cell? ⟨gx, 2, none⟩ = some (.int .i64 x.len) := KX8.out.cell 2
                    have x3 : w8.cell? ⟨gx, 3, none⟩ = some (.bool x.opn) := KX8.out.cell 3
                    have x4 : w8.cell? ⟨gx, 4, none⟩ = some (.bool x.ref) := KX8.out.cell 4
                    have no : ¬ vrOk x → b' = false := fun h => HB'.out.no h
                    cases b with
                    | false =>
                      clear no
                      go_wp2_with fail
                      go_big_quiet ((go_at_call 45; exact Calls.quiet_of_same ((rsize_any x.form).mono (fun _ _ ⟨a, b⟩ => ⟨a, b.symm⟩))))
                      go_wp2_with fail
                      go_roundw
                      case rel => exact ⟨k + 1, _, by omega, rfl, by go_num, HQ2, Lib.hid (OwnL.touch OW8.out (Touch.drewN w8 nq) (fun x h => by cases h)), Lib.hid (KS8.out.step (belDrewN (Below.refl _ _) nq)), Lib.hid (HB8.out.trans (belDrewN (Below.refl _ _) nq))⟩
                      case measure => simp [intOf]; omega
                    | true =>
                      cases q1 with
                      | false =>
                        obtain rfl := no (fun h => by have := HQ1P.out.iff.2 h.1; cases this)
                        clear no
                        go_wp2_with fail
                        go_big_quiet ((go_at_call 45; exact Calls.quiet_of_same ((rsize_any x.form).mono (fun _ _ ⟨a, b⟩ => ⟨a, b.symm⟩))))
                        go_wp2_with fail
                        go_roundw
                        case rel => exact ⟨k + 1, _, by omega, rfl, by go_num, HQ2, Lib.hid (OwnL.touch OW8.out (Touch.drewN w8 nq) (fun x h => by cases h)), Lib.hid (KS8.out.step (belDrewN (Below.refl _ _) nq)), Lib.hid (HB8.out.trans (belDrewN (Below.refl _ _) nq))⟩
                        case measure => simp [intOf]; omega
                      | true =>
                        have hpl := HQ1P.out.iff.1 rfl
                        by_cases l0 : 0 ≤ x.len
                        · have d0 : decide (0 ≤ x.len) = true := decide_eq_true l0
                          by_cases l1 : x.len ≤ 16384
                          · have d1 : decide (x.len ≤ 16384) = true := decide_eq_true l1
                            have hsz : szF x.form = 4 ∨ szF x.form = 1 := by unfold szF; split <;> simp
                            have hmul : IntKind.i64.wrap (x.len * szF x.form) = x.len * szF x.form := IntWalk.i64_in _ (by rcases hsz with h | h <;> rw [h] <;> omega)
                            by_cases l2 : x.len * szF x.form ≤ 16384
                            · have d2 : decide (x.len * szF x.form ≤ 16384) = true := decide_eq_true l2
                              cases ho : x.opn with
                              | true =>
                                obtain rfl := no (fun h => by have := h.2.2.2.1; rw [ho] at this; cases this)
                                rw [ho] at x3
                                clear no hpl ho hsz
                                go_wp2_with fail
                                go_big_quiet ((go_at_call 45; exact Calls.quiet_of_same ((rsize_any x.form).mono (fun _ _ ⟨a, b⟩ => ⟨a, b.symm⟩))))
                                go_wp2_with fail
                                go_roundw
                                case rel => exact ⟨k + 1, _, by omega, rfl, by go_num, HQ2, Lib.hid (OwnL.touch OW8.out (Touch.drewN w8 nq) (fun x h => by cases h)), Lib.hid (KS8.out.step (belDrewN (Below.refl _ _) nq)), Lib.hid (HB8.out.trans (belDrewN (Below.refl _ _) nq))⟩
                                case measure => simp [intOf]; omega
                              | false =>
                                rw [ho] at x3
                                cases hf : x.ref with
                                | true =>
                                  obtain rfl := no (fun h => by have := h.2.2.2.2; rw [hf] at this; cases this)
                                  rw [hf] at x4
                                  clear no hpl ho hf hsz
                                  go_wp2_with fail
                                  go_big_quiet ((go_at_call 45; exact Calls.quiet_of_same ((rsize_any x.form).mono (fun _ _ ⟨a, b⟩ => ⟨a, b.symm⟩))))
                                  go_wp2_with fail
                                  go_roundw
                                  case rel => exact ⟨k + 1, _, by omega, rfl, by go_num, HQ2, Lib.hid (OwnL.touch OW8.out (Touch.drewN w8 nq) (fun x h => by cases h)), Lib.hid (KS8.out.step (belDrewN (Below.refl _ _) nq)), Lib.hid (HB8.out.trans (belDrewN (Below.refl _ _) nq))⟩
                                  case measure => simp [intOf]; omega
                                | false =>
                                  obtain rfl := HB'.out.yes ⟨hpl, l0, l2, ho, hf⟩
                                  rw [hf] at x4
                                  clear no hpl ho hf hsz
                                  go_wp2_with fail
                                  go_big_quiet ((go_at_call 45; exact Calls.quiet_of_same ((rsize_any x.form).mono (fun _ _ ⟨a, b⟩ => ⟨a, b.symm⟩))))
                                  go_wp2_with fail
                                  go_roundw
                                  case rel => exact ⟨k + 1, _, by omega, rfl, by go_num, HQ2, Lib.hid (OwnL.touch OW8.out (Touch.drewN w8 nq) (fun x h => by cases h)), Lib.hid (KS8.out.step (belDrewN (Below.refl _ _) nq)), Lib.hid (HB8.out.trans (belDrewN (Below.refl _ _) nq))⟩
                                  case measure => simp [intOf]; omega
                            · have d2 : decide (x.len * szF x.form ≤ 16384) = false := decide_eq_false l2
                              obtain rfl := no (fun h => l2 h.2.2.1)
                              clear no hpl hsz l2
                              go_wp2_with fail
                              go_big_quiet ((go_at_call 45; exact Calls.quiet_of_same ((rsize_any x.form).mono (fun _ _ ⟨a, b⟩ => ⟨a, b.symm⟩))))
                              go_wp2_with fail
                              go_roundw
                              case rel => exact ⟨k + 1, _, by omega, rfl, by go_num, HQ2, Lib.hid (OwnL.touch OW8.out (Touch.drewN w8 nq) (fun x h => by cases h)), Lib.hid (KS8.out.step (belDrewN (Below.refl _ _) nq)), Lib.hid (HB8.out.trans (belDrewN (Below.refl _ _) nq))⟩
                              case measure => simp [intOf]; omega
                          · have d1 : decide (x.len ≤ 16384) = false := decide_eq_false l1
                            obtain rfl := no (fun h => by have h3 := h.2.2.1; have hsz : szF x.form = 4 ∨ szF x.form = 1 := by unfold szF; split <;> simp
                                                          rcases hsz with e | e <;> rw [e] at h3 <;> omega)
                            clear no hpl l1
                            go_wp2_with fail
                            go_big_quiet ((go_at_call 45; exact Calls.quiet_of_same ((rsize_any x.form).mono (fun _ _ ⟨a, b⟩ => ⟨a, b.symm⟩))))
                            go_wp2_with fail
                            go_roundw
                            case rel => exact ⟨k + 1, _, by omega, rfl, by go_num, HQ2, Lib.hid (OwnL.touch OW8.out (Touch.drewN w8 nq) (fun x h => by cases h)), Lib.hid (KS8.out.step (belDrewN (Below.refl _ _) nq)), Lib.hid (HB8.out.trans (belDrewN (Below.refl _ _) nq))⟩
                            case measure => simp [intOf]; omega
                        · have d0 : decide (0 ≤ x.len) = false := decide_eq_false l0
                          obtain rfl := no (fun h => l0 h.2.1)
                          clear no hpl l0
                          go_wp2_with fail
                          go_big_quiet ((go_at_call 45; exact Calls.quiet_of_same ((rsize_any x.form).mono (fun _ _ ⟨a, b⟩ => ⟨a, b.symm⟩))))
                          go_wp2_with fail
                          go_roundw
                          case rel => exact ⟨k + 1, _, by omega, rfl, by go_num, HQ2, Lib.hid (OwnL.touch OW8.out (Touch.drewN w8 nq) (fun x h => by cases h)), Lib.hid (KS8.out.step (belDrewN (Below.refl _ _) nq)), Lib.hid (HB8.out.trans (belDrewN (Below.refl _ _) nq))⟩
                          case measure => simp [intOf]; omega
                · obtain rfl : k = s.vars.length := by omega
                  have HQ1 := Lib.hid (allTo2_all HQ.out)
                  obtain ⟨P1, hP1⟩ : ∃ P1 : Prop, P1 = (P0 ∧ ∀ v ∈ s.vars, vrOk v) := ⟨_, rfl⟩
                  rw [← hP1] at HQ1
                  have HP1 := Lib.hid hP1
                  obtain ⟨PRE2, hPRE2⟩ : ∃ l, l = PRE ++ s.vars.map Vr.name := ⟨_, rfl⟩
                  have OWs : Hid (OwnN wr (w.heap.size + 1) u4 PRE2) := by rw [hPRE2]; have := OW.out; rw [show s.vars.length = (s.vars.map Vr.name).length by simp, List.take_length] at this; exact this
                  have HPL2 := Lib.hid (show PRE2.length ≤ 400 by have := HPL0.out; rw [hPRE2]; simp; omega)
                  have HPRE2 := Lib.hid hPRE2
                  have KSs := KS
                  have HBs := HB
                  clear hP1 hPRE2 OW KS HB HQ
                  go_wp2_with fail
                  clear k1
                  go_loopw [3, 4, 9] (fun ok u i wr => ∃ (k : Nat) (b : Bool), k ≤ s.procs.length ∧ ok = .bool b ∧ i = .int .i64 k ∧ Hid (IsB b (P1 ∧ ∀ j y, j < k → s.procs[j]? = some y → prOk y)) ∧ Hid (OwnN wr (w.heap.size + 1) u (PRE2 ++ (s.procs.map Pr.name).take k)) ∧ Hid (Blk wr w.heap.size S 26) ∧ Hid (Below w.heap.size w wr)) (fun _ _ i _ => s.procs.length - (intOf i).toNat)
                  case atStart => exact ⟨0, _, Nat.zero_le _, rfl, rfl, Lib.hid (zeroTo HQ1.out), by rw [List.take_zero, List.append_nil]; exact OWs, KSs, HBs⟩
                  case round =>
                    obtain ⟨k, b, hk, rfl, rfl, HQ, OW, KS, HB⟩ := hrel
                    clear KSs HBs OWs HQ1
                    have k1 : wr.cell? ⟨w.heap.size, 3, none⟩ = some (.slice A3 s.procs.length cap3) := by have := KS.out.cell 3; rw [this, HSS.out]; rfl
                    by_cases hlt : k < s.procs.length
                    · obtain ⟨x, hx⟩ : ∃ x, s.procs[k]? = some x := ⟨s.procs[k], List.getElem?_eq_getElem hlt⟩
                      obtain ⟨pv, hpv⟩ : ∃ pv, pvs[k]? = some pv := ⟨pvs[k]'(by rw [HPL.out]; exact hlt), List.getElem?_eq_getElem _⟩
                      rcases Z3.out with hE | ⟨bb, off, rfl, hb, hr⟩
                      · omega
                      have hrx := hr k (pcells x pv).toList (by rw [List.getElem?_zipWith, hx, hpv])
                      have hl := load_mid Try.underlying63 rfl sz_proc (range_below hrx HB.out hb) rfl
                      have HRX := Lib.hid hrx
                      have HBB := Lib.hid hb
                      obtain ⟨b', hb'⟩ := boolOf (prOk x)
                      have hpe := HPE.out k x pv hx hpv
                      have HQC := Lib.hid (rprc_any (w := wr) x hpe.1 (hpe.2.2.below HB.out) hb')
                      have HQ2 := Lib.hid (allTo2 hx HQ.out hb')
                      have HNT := Lib.hid (nm_take2 (pre := PRE2) (f := Pr.name) hx)
                      obtain ⟨L, hL⟩ : ∃ L, L = PRE2 ++ (s.procs.map Pr.name).take k := ⟨_, rfl⟩
                      rw [← hL] at OW HNT
                      obtain ⟨R, hR⟩ : ∃ R, R = srows L := ⟨_, rfl⟩
                      have HRL := Lib.hid (show R.length ≤ 400 + k by have := HPL2.out; rw [hR, hL]; simp; omega)
                      replace OW : Hid (OwnL wr (w.heap.size + 1) 9 1 u4 R) := by rw [hR]; exact OW
                      have HRR := Lib.hid hR
                      clear hL hR
                      have hltn : (k : Int) < (s.procs.length : Int) := by omega
                      have hk0 : (0 : Int) ≤ (k : Int) := by omega
                      clear hrx hr hx hb' hpe hpv
                      cases b with
                      | true =>
                        go_upto_region 21 with (go_at_call 46; refine HQC.out.mono ?_; rintro e w1 ⟨rfl, hb1⟩; have HB1 := Lib.hid (HB.out.trans (hb1.mono HB.out.size)); have KS1 := Lib.hid (KS.out.step hb1); have OW1 := Lib.hid (OwnL.touch OW.out (Touch.of_below hb1 []) (fun x hx => by cases hx)); have k11 : w1.cell? ⟨w.heap.size, 3, none⟩ = some (.slice (some ⟨bb, off, none⟩) s.procs.length cap3) := (by have := KS1.out.cell 3; rw [this, HSS.out]; rfl); have c11 : w1.cell? ⟨bb, off + k * 3, none⟩ = some (.string x.name) := (range_below HRX.out HB1.out HBB.out) 0 _ rfl; clear hb1)
                        clear hl k1
                        go_wp2_with (at_builtin; refine wpList_append_own _ rfl _ _ 41 rfl (w.heap.size + 1) 9 i0 (.string ⟨#[]⟩) 1 16 Try.underlying41 HI.out HZ0.out HZ1.out HZ2.out rfl (by decide) _ _ _ rfl (World.ownsRow.alloc OW1.out _) ⟨w1.heap.size, 0, none⟩ 1 1 [.string x.name] rfl rfl ?x1 ?x2 ?x3 ?x4 ?x5 ?_)
                        case x1 => exact new_cells w1 [.string x.name] 9 (by simp)
                        case x2 => simp [Value.oneCell']
                        case x3 => have := HRL.out; unfold maxLen; omega
                        case x4 => have := HRL.out; omega
                        case x5 => have := KS1.out.lt; simp; omega
                        intro v' w8 hown8 hgrow8 _
                        have T8 := Touch.of_grown hgrow8
                        have KS8 := Lib.hid (T8.blk (KS1.out.old (.cells #[.string x.name] 9)) (fun hm => by simp only [Option.mem_toList, Option.mem_def] at hm; have := (own_lt OW1.out _ hm).2; omega))
                        have HB8 := Lib.hid ((HB1.out.alloc HB1.out.size (.cells #[.string x.name] 9)).grown hgrow8 (by have := HB1.out.size; simp; omega) (fun y hy => by have := (own_lt OW1.out y hy).2; omega))
                        have OW8 := Lib.hid (show OwnN w8 (w.heap.size + 1) v' (PRE2 ++ (s.procs.map Pr.name).take (k + 1)) by rw [HNT.out]; unfold OwnN srows; rw [List.map_append]; have := ownL_push hown8; rw [HRR.out] at this; exact this)
                        clear hown8 hgrow8 T8
                        go_wp2_with fail
                        go_roundw
                        case rel => exact ⟨k + 1, _, by omega, rfl, by go_num, by simpa using HQ2, OW8, KS8, HB8⟩
                        case measure => simp [intOf]; omega
                      | false =>
                        have c1 : wr.cell? ⟨bb, off + k * 3, none⟩ = some (.string x.name) := (range_below HRX.out HB.out HBB.out) 0 _ rfl
                        go_wp2_with (at_builtin; refine wpList_append_own _ rfl _ _ 41 rfl (w.heap.size + 1) 9 i0 (.string ⟨#[]⟩) 1 16 Try.underlying41 HI.out HZ0.out HZ1.out HZ2.out rfl (by decide) _ _ _ rfl (World.ownsRow.alloc OW.out _) ⟨wr.heap.size, 0, none⟩ 1 1 [.string x.name] rfl rfl ?y1 ?y2 ?y3 ?y4 ?y5 ?_)
                        skip
                        case y2 => simp [Value.oneCell']
                        case y3 => have := HRL.out; unfold maxLen; omega
                        case y4 => have := HRL.out; omega
                        case y5 => have := KS.out.lt; simp; omega
                        intro v' w8 hown8 hgrow8 _
                        have T8 := Touch.of_grown hgrow8
                        have KS8 := Lib.hid (T8.blk (KS.out.old (.cells #[.string x.name] 9)) (fun hm => by simp only [Option.mem_toList, Option.mem_def] at hm; have := (own_lt OW.out _ hm).2; omega))
                        have HB8 := Lib.hid ((HB.out.alloc HB.out.size (.cells #[.string x.name] 9)).grown hgrow8 (by have := HB.out.size; simp; omega) (fun y hy => by have := (own_lt OW.out y hy).2; omega))
                        have OW8 := Lib.hid (show OwnN w8 (w.heap.size + 1) v' (PRE2 ++ (s.procs.map Pr.name).take (k + 1)) by rw [HNT.out]; unfold OwnN srows; rw [List.map_append]; have := ownL_push hown8; rw [HRR.out] at this; exact this)
                        clear hown8 hgrow8 T8
                        go_wp2_with fail
                        go_roundw
                        case rel => exact ⟨k + 1, _, by omega, rfl, by go_num, HQ2, OW8, KS8, HB8⟩
                        case measure => simp [intOf]; omega
                    · obtain rfl : k = s.procs.length := by omega
                      have HQ1 := Lib.hid (allTo2_all HQ.out)
                      have hnames : PRE2 ++ s.procs.map Pr.name = namesOf s := by unfold namesOf; rw [HPRE2.out, HPRE.out]
                      have OWs : Hid (OwnN wr (w.heap.size + 1) u4 (namesOf s)) := by rw [← hnames]; have := OW.out; rw [show s.procs.length = (s.procs.map Pr.name).length by simp, List.take_length] at this; exact this
                      have hb9 := b1
                      have HL3 := Lib.hid (show s.consts.length ≤ 200 ∧ s.vars.length ≤ 200 ∧ s.procs.length ≤ 100 from ⟨b1, b2, b3⟩)
                      have hsz : ∀ n ∈ namesOf s, n.size ≤ maxLen := fun n hn => by
                        unfold namesOf at hn
                        simp only [List.mem_append, List.mem_map] at hn
                        rcases hn with (⟨c, hc, rfl⟩ | ⟨c, hc, rfl⟩) | ⟨c, hc, rfl⟩
                        · exact (HCF.out c hc).1
                        · exact (HVF.out c hc).1
                        · obtain ⟨j, hj⟩ := List.mem_iff_getElem?.1 hc
                          have hjl := (List.getElem?_eq_some_iff.1 hj).1
                          exact (HPE.out j c (pvs[j]'(by rw [HPL.out]; exact hjl)) hj (List.getElem?_eq_getElem _)).1
                      obtain ⟨q9, hq9⟩ := boolOf (NmOk (namesOf s))
                      have HNA := Lib.hid (rnames_any (w := wr) (namesOf s) (own_rows (fun r hr => by obtain ⟨n, _, rfl⟩ := List.mem_map.1 hr; rfl) OWs.out) hsz hq9)
                      cases b with
                      | false =>
                        obtain rfl := HC.out.no (fun h => by
                          have := HQ1.out.iff.2 ⟨by rw [HP1.out]; exact ⟨by rw [HP0.out]; exact h.2.2.2.2.2.2.1, h.2.2.2.2.2.2.2.1⟩, h.2.2.2.2.2.2.2.2⟩
                          cases this)
                        clear hnames hsz hq9 OW HQ
                        go_wp2_with fail
                        go_ret
                        exact ⟨rfl, HB.out⟩
                      | true =>
                        have hall := HQ1.out.iff.1 rfl
                        rw [HP1.out, HP0.out] at hall
                        have hq : q = q9 := by
                          rw [Bool.eq_iff_iff, HC.out.iff, hq9.iff]
                          exact ⟨fun h => ⟨h.2.2.2.2.1, h.2.2.2.2.2.1⟩, fun h => ⟨HNM.out, HL3.out.1, HL3.out.2.1, HL3.out.2.2, h.is, h.nodup, hall.1.1, hall.1.2, hall.2⟩⟩
                        subst hq
                        clear hnames hsz hq9 OW HQ hall
                        go_wp2_with (go_at_call 47; refine HNA.out.mono ?_; rintro e w9 ⟨rfl, m9, rfl⟩)
                        go_ret
                        exact ⟨rfl, HB.out.trans (belDrewN (Below.refl _ _) m9)⟩
        · obtain rfl := HC.out.no (fun h => b3 h.2.2.2.1)
          have b3n : (100 : Int) < (s.procs.length : Int) := by omega
          go_enter Try.func16, Try.ntmps16
          go_upto_region 1 with fail
          generalize w.alloc (.cells S 26) = W0 at k0 k1 k2 k3 HBa KSa ⊢
          go_wp2_with (go_at_call 42; refine (HQN.out _).mono ?_; rintro e w1 ⟨rfl, rfl⟩)
          go_ret
          exact ⟨rfl, HBa.out⟩
      · obtain rfl := HC.out.no (fun h => b2 h.2.2.1)
        have b2n : (200 : Int) < (s.vars.length : Int) := by omega
        go_enter Try.func16, Try.ntmps16
        go_upto_region 1 with fail
        generalize w.alloc (.cells S 26) = W0 at k0 k1 k2 k3 HBa KSa ⊢
        go_wp2_with (go_at_call 42; refine (HQN.out _).mono ?_; rintro e w1 ⟨rfl, rfl⟩)
        go_ret
        exact ⟨rfl, HBa.out⟩
    · obtain rfl := HC.out.no (fun h => b1 h.2.1)
      have b1n : (200 : Int) < (s.consts.length : Int) := by omega
      go_enter Try.func16, Try.ntmps16
      go_upto_region 1 with fail
      generalize w.alloc (.cells S 26) = W0 at k0 k1 k2 k3 HBa KSa ⊢
      go_wp2_with (go_at_call 42; refine (HQN.out _).mono ?_; rintro e w1 ⟨rfl, rfl⟩)
      go_ret
      exact ⟨rfl, HBa.out⟩
end
end Go.Proofs.Ytgemnmceflcpcaa
