/- Symbols held against the same symbols elsewhere. -/
import Derived.Test.YtgemnmceflcpcaaQE
import Derived.Deep.QuietTactic
import Derived.BigQuiet
import Derived.DeepKeys
import Derived.Deep.CutBlock
namespace Go.Proofs.Ytgemnmceflcpcaa
open Go Go.RowKit Go.Lib Go.Proofs.Ytgemnmceflcpcaa.Sy
set_option linter.unusedVariables false
set_option linter.unusedSimpArgs false
attribute [local go_sem ↓] exec_load_const exec_store_const exec_load_var exec_store_var exec_load_proc exec_store_proc exec_load_sym exec_store_sym
theorem belDrewN {B : Nat} {a w : World} (h : Below B a w) (n : Nat) : Below B a (w.drewN n) := ⟨h.os, h.tape, h.output, h.size, h.block⟩
theorem neq_const (c : Cst) (w : World) : (binOp .neq 48 (.agg (ccells c)) (.agg (ccells c))).run Try.prog w = .ok (.bool false) w := by
  have h : (Op.equalIn 10000 48 (.agg (ccells c)) (.agg (ccells c))).run Try.prog w = .ok true w := by simp [go_sem, ccells, Try.underlying48]
  rw [run_neq_struct, h]; rfl
theorem neq_var (c : Vr) (w : World) : (binOp .neq 73 (.agg (vcells c)) (.agg (vcells c))).run Try.prog w = .ok (.bool false) w := by
  have h : (Op.equalIn 10000 73 (.agg (vcells c)) (.agg (vcells c))).run Try.prog w = .ok true w := by simp [go_sem, vcells, Try.underlying73]
  rw [run_neq_struct, h]; rfl
section
variable {w : World}
set_option maxHeartbeats 8000000 in
set_option maxRecDepth 100000 in
theorem same_any (s : Sm) {ca va pa cb vb pb : Value} (hA : SmAt w s ca va pa) (hB : SmAt w s cb vb pb) :
    Calls Try.prog 15 #[.agg (scells s ca va pa), .agg (scells s cb vb pb)] w fun e w' => e = .returned (.bool true) ∧ Below w.heap.size w w' := by
  obtain ⟨_, hC1, hV1, hP1⟩ := hA
  obtain ⟨_, hC2, hV2, hP2⟩ := hB
  have c1 := hC1.1.one
  have c2 := hV1.1.one
  have c3 : pa.oneCell' = true := by obtain ⟨pvs, _, h, _⟩ := hP1; exact h.one
  have d1 := hC2.1.one
  have d2 := hV2.1.one
  have d3 : pb.oneCell' = true := by obtain ⟨pvs, _, h, _⟩ := hP2; exact h.one
  have HB0 := Lib.hid (((Below.refl w.heap.size w).alloc (Nat.le_refl _) (.cells (scells s ca va pa) 26)).alloc (by simp) (.cells (scells s cb vb pb) 26))
  have KA := Lib.hid ((Blk.new w (scells s ca va pa) 26).old (.cells (scells s cb vb pb) 26))
  have KB := Lib.hid (Blk.new (w.alloc (.cells (scells s ca va pa) 26)) (scells s cb vb pb) 26)
  obtain ⟨A1, cap1, rfl, c11, c12, R1⟩ := list_of hC1.1 (List.length_map _)
  obtain ⟨A2, cap2, rfl, c21, c22, R2⟩ := list_of hV1.1 (List.length_map _)
  obtain ⟨pvs, hpl, hrw, hpe⟩ := hP1
  obtain ⟨A3, cap3, rfl, c31, c32, R3⟩ := list_of (n := s.procs.length) hrw (by rw [List.length_zipWith, hpl, Nat.min_self])
  obtain ⟨B1, dap1, rfl, d11, d12, S1⟩ := list_of hC2.1 (List.length_map _)
  obtain ⟨B2, dap2, rfl, d21, d22, S2⟩ := list_of hV2.1 (List.length_map _)
  obtain ⟨qvs, hql, hrq, hqe⟩ := hP2
  obtain ⟨B3, dap3, rfl, d31, d32, S3⟩ := list_of (n := s.procs.length) hrq (by rw [List.length_zipWith, hql, Nat.min_self])
  unfold maxLen at c12 c22 c32 d12 d22 d32
  have R1 := Lib.hid R1
  have R2 := Lib.hid R2
  have R3 := Lib.hid R3
  have S1 := Lib.hid S1
  have S2 := Lib.hid S2
  have S3 := Lib.hid S3
  have HPL := Lib.hid hpl
  have HPE := Lib.hid hpe
  have HQL := Lib.hid hql
  have HQE := Lib.hid hqe
  clear hpl hpe hql hqe hrw hrq hC1 hV1 hC2 hV2
  go_enter Try.func15, Try.ntmps15
  go_upto_region 1 with fail
  generalize hW : (w.alloc (.cells (scells s (.slice A1 s.consts.length cap1) (.slice A2 s.vars.length cap2) (.slice A3 s.procs.length cap3)) 26)).alloc (.cells (scells s (.slice B1 s.consts.length dap1) (.slice B2 s.vars.length dap2) (.slice B3 s.procs.length dap3)) 26) = W at HB0 KA KB ⊢
  clear hW
  simp only [World.size_alloc] at KB
  have x0 := KA.out.cell 0
  have x1 := KA.out.cell 1
  have x2 := KA.out.cell 2
  have x3 := KA.out.cell 3
  have y0 := KB.out.cell 0
  have y1 := KB.out.cell 1
  have y2 := KB.out.cell 2
  have y3 := KB.out.cell 3
  go_wp2_with fail
  clear x0 x1 x2 x3 y0 y1 y2 y3
  go_loopw [5] (fun u wr => ∃ k : Nat, k ≤ s.consts.length ∧ u = .int .i64 k ∧ Hid (Below W.heap.size W wr)) (fun u _ => s.consts.length - (intOf u).toNat)
  case atStart => exact ⟨0, Nat.zero_le _, rfl, Lib.hid (Below.refl _ _)⟩
  case round =>
    obtain ⟨k, hk, rfl, HB1⟩ := hrel
    have x1 := (KA.out.step HB1.out).cell 1
    have y1 := (KB.out.step HB1.out).cell 1
    by_cases hlt : k < s.consts.length
    · obtain ⟨x, hx⟩ : ∃ x, s.consts[k]? = some x := ⟨s.consts[k], List.getElem?_eq_getElem hlt⟩
      rcases R1.out with hz | ⟨b, off, rfl, hb, hr⟩
      · omega
      rcases S1.out with hz | ⟨b2, off2, rfl, hb2, hr2⟩
      · omega
      have HBw := Lib.hid (HB0.out.trans (HB1.out.mono HB0.out.size))
      have l1 := fun nn => load_mid (w := wr.drewN nn) Try.underlying48 rfl sz_const (range_below (hr k (ccells x).toList (by rw [List.getElem?_map, hx]; rfl)) (belDrewN HBw.out nn) hb) rfl
      have l2 := fun nn => load_mid (w := wr.drewN nn) Try.underlying48 rfl sz_const (range_below (hr2 k (ccells x).toList (by rw [List.getElem?_map, hx]; rfl)) (belDrewN HBw.out nn) hb2) rfl
      have hq := neq_const x
      have hk1 : (0 : Int) ≤ (k : Int) := by omega
      have hk2 : (k : Int) < (s.consts.length : Int) := by omega
      clear hx hr hr2
      go_wp2_with fail
      go_quiet (fail)
      go_wp2_with fail
      go_roundw
      case rel => exact ⟨k + 1, by omega, by go_num, Lib.hid (belDrewN HB1.out _)⟩
      case measure => simp [intOf]; omega
    · obtain rfl : k = s.consts.length := by omega
      go_wp2_with fail
      clear x1 y1
      go_loopw [6] (fun u wr => ∃ k : Nat, k ≤ s.vars.length ∧ u = .int .i64 k ∧ Hid (Below W.heap.size W wr)) (fun u _ => s.vars.length - (intOf u).toNat)
      case atStart => exact ⟨0, Nat.zero_le _, rfl, HB1⟩
      case round =>
        obtain ⟨k, hk, rfl, HB2⟩ := hrel
        have x2 := (KA.out.step HB2.out).cell 2
        have y2 := (KB.out.step HB2.out).cell 2
        by_cases hlt : k < s.vars.length
        · obtain ⟨x, hx⟩ : ∃ x, s.vars[k]? = some x := ⟨s.vars[k], List.getElem?_eq_getElem hlt⟩
          rcases R2.out with hz | ⟨b, off, rfl, hb, hr⟩
          · omega
          rcases S2.out with hz | ⟨b2, off2, rfl, hb2, hr2⟩
          · omega
          have HBw := Lib.hid (HB0.out.trans (HB2.out.mono HB0.out.size))
          have l1 := fun nn => load_mid (w := wr.drewN nn) Try.underlying73 rfl sz_var (range_below (hr k (vcells x).toList (by rw [List.getElem?_map, hx]; rfl)) (belDrewN HBw.out nn) hb) rfl
          have l2 := fun nn => load_mid (w := wr.drewN nn) Try.underlying73 rfl sz_var (range_below (hr2 k (vcells x).toList (by rw [List.getElem?_map, hx]; rfl)) (belDrewN HBw.out nn) hb2) rfl
          have hq := neq_var x
          have hk1 : (0 : Int) ≤ (k : Int) := by omega
          have hk2 : (k : Int) < (s.vars.length : Int) := by omega
          clear hx hr hr2
          go_wp2_with fail
          go_quiet (fail)
          go_wp2_with fail
          go_roundw
          case rel => exact ⟨k + 1, by omega, by go_num, Lib.hid (belDrewN HB2.out _)⟩
          case measure => simp [intOf]; omega
        · obtain rfl : k = s.vars.length := by omega
          go_wp2_with fail
          clear x2 y2
          go_loopw [7] (fun u wr => ∃ k : Nat, k ≤ s.procs.length ∧ u = .int .i64 k ∧ Hid (Below W.heap.size W wr)) (fun u _ => s.procs.length - (intOf u).toNat)
          case atStart => exact ⟨0, Nat.zero_le _, rfl, HB2⟩
          case round =>
            obtain ⟨k, hk, rfl, HB3⟩ := hrel
            have x3 := (KA.out.step HB3.out).cell 3
            have y3 := (KB.out.step HB3.out).cell 3
            by_cases hlt : k < s.procs.length
            · obtain ⟨x, hx⟩ : ∃ x, s.procs[k]? = some x := ⟨s.procs[k], List.getElem?_eq_getElem hlt⟩
              obtain ⟨pv, hpv⟩ : ∃ pv, pvs[k]? = some pv := ⟨pvs[k]'(by have := HPL.out; omega), List.getElem?_eq_getElem _⟩
              obtain ⟨qv, hqv⟩ : ∃ qv, qvs[k]? = some qv := ⟨qvs[k]'(by have := HQL.out; omega), List.getElem?_eq_getElem _⟩
              rcases R3.out with hz | ⟨b, off, rfl, hb, hr⟩
              · omega
              rcases S3.out with hz | ⟨b2, off2, rfl, hb2, hr2⟩
              · omega
              have HBw := Lib.hid (HB0.out.trans (HB3.out.mono HB0.out.size))
              have hp1 : pv.oneCell' = true := (HPE.out k x pv hx hpv).2.2.1.one
              have hq1 : qv.oneCell' = true := (HQE.out k x qv hx hqv).2.2.1.one
              have HP := Lib.hid ((HPE.out k x pv hx hpv).2.2.below HBw.out)
              have HQ := Lib.hid ((HQE.out k x qv hx hqv).2.2.below HBw.out)
              have hla := load_mid Try.underlying63 rfl sz_proc (range_below (hr k (pcells x pv).toList (by rw [List.getElem?_zipWith, hx, hpv])) HBw.out hb) rfl
              have hsta := store_blk_new wr #[.string ⟨#[]⟩, .slice none 0 0, .int .i64 0] (pcells x pv) 63 sz_proc rfl rfl (pcells_one x hp1)
              have hlb := load_mid (w := wr.alloc (.cells (pcells x pv) 63)) Try.underlying63 rfl sz_proc (range_below (hr2 k (pcells x qv).toList (by rw [List.getElem?_zipWith, hx, hqv])) (HBw.out.alloc HBw.out.size _) hb2) rfl
              have hstb := store_blk_new (wr.alloc (.cells (pcells x pv) 63)) #[.string ⟨#[]⟩, .slice none 0 0, .int .i64 0] (pcells x qv) 63 sz_proc rfl rfl (pcells_one x hq1)
              simp only [World.size_alloc] at hstb
              have y3a := ((KB.out.step HB3.out).old (.cells (pcells x pv) 63)).cell 3
              have LA := Lib.hid ((Blk.new wr (pcells x pv) 63).old (.cells (pcells x qv) 63))
              have LB := Lib.hid (Blk.new (wr.alloc (.cells (pcells x pv) 63)) (pcells x qv) 63)
              have HBA := Lib.hid (((Below.refl wr.heap.size wr).alloc (Nat.le_refl _) (.cells (pcells x pv) 63)).alloc (by simp) (.cells (pcells x qv) 63))
              have hk1 : (0 : Int) ≤ (k : Int) := by omega
              have hk2 : (k : Int) < (s.procs.length : Int) := by omega
              clear hx hpv hqv hr hr2
              go_upto_region 18 with fail
              generalize hW2 : (wr.alloc (.cells (pcells x pv) 63)).alloc (.cells (pcells x qv) 63) = W2 at LA LB HBA ⊢
              clear hW2 hla hlb hsta hstb y3a x3 y3
              simp only [World.size_alloc] at LB
              have HP2 := Lib.hid (HP.out.below HBA.out)
              have HQ2 := Lib.hid (HQ.out.below HBA.out)
              obtain ⟨P1, pap1, rfl, e11, e12, T1⟩ := list_of HP2.out.1 (List.length_map _)
              obtain ⟨Q1, qap1, rfl, f11, f12, U1⟩ := list_of HQ2.out.1 (List.length_map _)
              unfold maxLen at e12 f12
              have T1 := Lib.hid T1
              have U1 := Lib.hid U1
              have HB4 := Lib.hid (HB3.out.trans (HBA.out.mono HB3.out.size))
              have p0 := LA.out.cell 0
              have p1 := LA.out.cell 1
              have p2 := LA.out.cell 2
              have q0 := LB.out.cell 0
              have q1 := LB.out.cell 1
              have q2 := LB.out.cell 2
              go_wp2_with fail
              clear p0 p1 p2 q0 q1 q2
              obtain ⟨wo, rfl⟩ : ∃ wo : World, wo = wr := ⟨_, rfl⟩
              go_loopw [10] (fun u wx => ∃ j : Nat, j ≤ x.params.length ∧ u = .int .i64 j ∧ Hid (Below W2.heap.size W2 wx)) (fun u _ => x.params.length - (intOf u).toNat)
              case atStart => exact ⟨0, Nat.zero_le _, rfl, Lib.hid (Below.refl _ _)⟩
              case round =>
                obtain ⟨j, hj, rfl, HB5⟩ := hrel
                have x5 := (LA.out.step HB5.out).cell 1
                have y5 := (LB.out.step HB5.out).cell 1
                by_cases hlj : j < x.params.length
                · obtain ⟨z, hz⟩ : ∃ z, x.params[j]? = some z := ⟨x.params[j], List.getElem?_eq_getElem hlj⟩
                  rcases T1.out with h0 | ⟨b3, off3, rfl, hb3, hr3⟩
                  · omega
                  rcases U1.out with h0 | ⟨b4, off4, rfl, hb4, hr4⟩
                  · omega
                  have l1 := fun nn => load_mid (w := wr.drewN nn) Try.underlying73 rfl sz_var (range_below (hr3 j (vcells z).toList (by rw [List.getElem?_map, hz]; rfl)) (belDrewN HB5.out nn) hb3) rfl
                  have l2 := fun nn => load_mid (w := wr.drewN nn) Try.underlying73 rfl sz_var (range_below (hr4 j (vcells z).toList (by rw [List.getElem?_map, hz]; rfl)) (belDrewN HB5.out nn) hb4) rfl
                  have hq := neq_var z
                  have hj1 : (0 : Int) ≤ (j : Int) := by omega
                  have hj2 : (j : Int) < (x.params.length : Int) := by omega
                  clear hz hr3 hr4
                  go_wp2_with fail
                  go_quiet (fail)
                  go_wp2_with fail
                  go_roundw
                  case rel => exact ⟨j + 1, by omega, by go_num, Lib.hid (belDrewN HB5.out _)⟩
                  case measure => simp [intOf]; omega
                · obtain rfl : j = x.params.length := by omega
                  go_wp2_with fail
                  go_roundw
                  case rel => exact ⟨k + 1, by omega, by go_num, Lib.hid (HB4.out.trans (HB5.out.mono HB4.out.size))⟩
                  case measure => simp [intOf]; omega
            · obtain rfl : k = s.procs.length := by omega
              go_wp2_with fail
              go_ret
              exact ⟨rfl, HB0.out.trans (HB3.out.mono HB0.out.size)⟩



end
end Go.Proofs.Ytgemnmceflcpcaa
