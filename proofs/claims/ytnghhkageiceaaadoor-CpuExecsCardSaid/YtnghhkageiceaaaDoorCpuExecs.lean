/- The walk of CpuExecs. -/
import Derived.Test.YtnghhkageiceaaaDoorExAs
import Derived.Deep.RegionHeld3
namespace Go.Proofs.YtnghhkageiceaaaDoor
open Go Go.RowKit Go.Lib Go.Proofs.YtnghhkageiceaaaDoor.Pl
set_option linter.unusedVariables false
set_option linter.unusedSimpArgs false
attribute [local go_sem ↓] exec_load_cpu exec_store_cpu run_eql_ins run_neq_ins
set_option maxRecDepth 100000 in
set_option maxHeartbeats 1000000 in
theorem execs_some (cs : Array Value) (hc : CpuOk cs) (g off len cap : Nat) (l : Int) (h0 : 0 ≤ l) (h1 : l < 4294967296) (w : World) (hl : len ≤ 9223372036854775807) (hm : 8 * len ≤ 9223372036854775807) (hbl : g < w.heap.size) (hcell : ∀ i, i < len → ∃ f u v a b op c n, InsAt w g (off + i * 8) f u v a b op c n) (hT : Tab w) :
    Calls Tryd.prog 7 #[.agg cs, .slice (some ⟨g, off, none⟩) len cap, .int .u32 l] w fun e w' => e = .returned (.bool true) ∧ Below w.heap.size w w' := by
  have HT : Hid (∀ W, Below w.heap.size w W → Tab W) := fun W hB => hT.below hB hT.lt
  have HCE := Lib.hid hcell
  have HBL := Lib.hid hbl
  have HC := Lib.hid hc
  clear hcell hT hbl hc
  go_enter Tryd.func7, Tryd.ntmps7
  go_wp2_with fail
  go_loopw [7] (fun i wr => ∃ k : Nat, k ≤ len ∧ i = .int .i64 k ∧ Hid (Below w.heap.size w wr) ∧ Hid (Blk wr w.heap.size cs 25)) (fun i _ => len - (intOf i).toNat)
  case atStart => exact ⟨0, by omega, rfl, (Below.refl _ _).alloc (Nat.le_refl _) _, Blk.new w cs 25⟩
  case round =>
    obtain ⟨k, hk, rfl, HB, H0⟩ := hrel
    by_cases hlt : k < len
    · obtain ⟨f, u, v, a, b, op, c, n, hI⟩ := HCE.out k hlt
      have HI := Lib.hid hI
      clear hI
      obtain ⟨X, m, t, hx⟩ := exV_is cs f u v a b op c n l
      have hxo : CpuOk X := by have := exV_ok HC.out f u v a b op c n l h0 h1; rw [hx] at this; exact this
      have HXO := Lib.hid hxo
      have HX := Lib.hid hx
      clear hx hxo
      go_upto_region 4 with fail
      go_cut [8, 9, 10] from 14 to 30 (fun s8 s9 s10 wx => ∃ g8, s8 = .pointer (some ⟨g8, 0, none⟩) ∧ s9 = .int .i64 m ∧ s10 = .bool t ∧ Hid (Blk wx g8 X 25) ∧ Hid (Below w.heap.size w wx) ∧ Hid (Blk wx w.heap.size cs 25))
      case first =>
        have JB : Hid (Below w.heap.size w wr.drew) := belDr HB.out
        have JH0 : Hid (Blk wr.drew w.heap.size cs 25) := H0.out
        refine wp_region_held_drew (S := (fun w' => Hid (Below w.heap.size w w') ∧ Hid (Blk w' w.heap.size cs 25))) (by kernel_rfl) ⟨JB, JH0⟩ (fun hHeld => ?_)
        clear hHeld
        generalize wr.drew = wd at JB JH0 ⊢
        have hHeld : ((fun w' => Hid (Below w.heap.size w w') ∧ Hid (Blk w' w.heap.size cs 25)) wd) := ⟨JB, JH0⟩
        refine wpAnyH_take (i := 0) (oi := _) (v := ?v0_1) rfl (by kernel_rfl) (by kernel_rfl) (by kernel_rfl) (fun _ _ _ h => h) (Or.inl ⟨by rfl, ?hy0_1⟩) (by assumption) ?rest0_1
        case hy0_1 => (intro wq hSw; (try dsimp only at hSw); obtain ⟨qB, q0⟩ := hSw; have hld := load_cpu q0.out HC.out.size; obtain ⟨i0, i1, i2, i3, i4, i5, i6, i7⟩ := HI.out.below qB.out HBL.out; clear qB q0; simp only [List.getElem_toArray, List.getElem_cons_zero, List.getElem_cons_succ]; go_simp; try with_reducible rfl)
        simp only [Act.put, List.getElem_toArray, List.getElem_cons_zero, List.getElem_cons_succ, List.setIfInBounds_toArray, List.set_cons_zero, List.set_cons_succ]
        refine wpAnyH_take (i := 1) (oi := _) (v := ?v1_2) rfl (by kernel_rfl) (by kernel_rfl) (by kernel_rfl) (fun _ _ _ h => h) (Or.inl ⟨by rfl, ?hy1_2⟩) (by assumption) ?rest1_2
        case hy1_2 => (intro wq hSw; (try dsimp only at hSw); obtain ⟨qB, q0⟩ := hSw; clear qB q0; simp only [List.getElem_toArray, List.getElem_cons_zero, List.getElem_cons_succ]; go_simp; try with_reducible rfl)
        simp only [Act.put, List.getElem_toArray, List.getElem_cons_zero, List.getElem_cons_succ, List.setIfInBounds_toArray, List.set_cons_zero, List.set_cons_succ]
        refine wpAnyH_take (i := 2) (oi := _) (v := ?v2_3) rfl (by kernel_rfl) (by kernel_rfl) (by kernel_rfl) (fun _ _ _ h => h) (Or.inl ⟨by rfl, ?hy2_3⟩) (by assumption) ?rest2_3
        case hy2_3 => (intro wq hSw; (try dsimp only at hSw); obtain ⟨qB, q0⟩ := hSw; clear qB q0; simp only [List.getElem_toArray, List.getElem_cons_zero, List.getElem_cons_succ]; go_simp; try with_reducible rfl)
        simp only [Act.put, List.getElem_toArray, List.getElem_cons_zero, List.getElem_cons_succ, List.setIfInBounds_toArray, List.set_cons_zero, List.set_cons_succ]
        refine wpAnyH_take (i := 3) (oi := _) (v := ?v3_4) rfl (by kernel_rfl) (by kernel_rfl) (by kernel_rfl) (fun _ _ _ h => h) (Or.inl ⟨by rfl, ?hy3_4⟩) (by assumption) ?rest3_4
        case hy3_4 => (intro wq hSw; (try dsimp only at hSw); obtain ⟨qB, q0⟩ := hSw; clear qB q0; simp only [List.getElem_toArray, List.getElem_cons_zero, List.getElem_cons_succ]; go_simp; try with_reducible rfl)
        simp only [Act.put, List.getElem_toArray, List.getElem_cons_zero, List.getElem_cons_succ, List.setIfInBounds_toArray, List.set_cons_zero, List.set_cons_succ]
        refine wpAnyH_take (i := 4) (oi := _) (v := ?v4_5) rfl (by kernel_rfl) (by kernel_rfl) (by kernel_rfl) (fun _ _ _ h => h) (Or.inl ⟨by rfl, ?hy4_5⟩) (by assumption) ?rest4_5
        case hy4_5 => (intro wq hSw; (try dsimp only at hSw); obtain ⟨qB, q0⟩ := hSw; have hld := load_cpu q0.out HC.out.size; obtain ⟨i0, i1, i2, i3, i4, i5, i6, i7⟩ := HI.out.below qB.out HBL.out; clear qB q0; simp only [List.getElem_toArray, List.getElem_cons_zero, List.getElem_cons_succ]; go_simp; try with_reducible rfl)
        simp only [Act.put, List.getElem_toArray, List.getElem_cons_zero, List.getElem_cons_succ, List.setIfInBounds_toArray, List.set_cons_zero, List.set_cons_succ]
        refine wpAnyH_take (i := 5) (oi := _) (v := ?v5_6) rfl (by kernel_rfl) (by kernel_rfl) (by kernel_rfl) (fun _ _ _ h => h) (Or.inl ⟨by rfl, ?hy5_6⟩) (by assumption) ?rest5_6
        case hy5_6 => (intro wq hSw; (try dsimp only at hSw); obtain ⟨qB, q0⟩ := hSw; clear qB q0; simp only [List.getElem_toArray, List.getElem_cons_zero, List.getElem_cons_succ]; go_simp; try with_reducible rfl)
        simp only [Act.put, List.getElem_toArray, List.getElem_cons_zero, List.getElem_cons_succ, List.setIfInBounds_toArray, List.set_cons_zero, List.set_cons_succ]
        refine wpAnyH_ready (rs := [6, 11]) (by kernel_rfl) (by simp) ?_
        refine AllReadyH.cons (o := _) rfl (fun K hK => ?_) (AllReadyH.cons (o := _) rfl (fun K hK => ?_) AllReadyH.nil)
        · skip
          try simp only [List.getElem_toArray, List.getElem_cons_zero, List.getElem_cons_succ]
          go_simp
          go_at_call 18
          refine (exec_as HX.out HC.out h0 h1 _ (HT.out _ JB.out)).mono ?_
          rintro e w1 ⟨rfl, hb1⟩
          have LB := Lib.hid (JB.out.trans (hb1.mono JB.out.size))
          have LH0 := Lib.hid (JH0.out.step hb1)
          clear hb1
          refine hK.out _ _ ⟨LB, LH0⟩ (fun _ => ?_)
          try simp only [Act.put, List.getElem_toArray, List.getElem_cons_zero, List.getElem_cons_succ, List.setIfInBounds_toArray, List.set_cons_zero, List.set_cons_succ]
          refine wpAnyH_take (i := 7) (oi := _) (v := ?v7_7) rfl (by kernel_rfl) (by kernel_rfl) (by kernel_rfl) (fun _ _ _ h => h) (Or.inl ⟨by rfl, ?hy7_7⟩) (by assumption) ?rest7_7
          case hy7_7 => (intro wq hSw; (try dsimp only at hSw); obtain ⟨qB, q0⟩ := hSw; clear qB q0; simp only [List.getElem_toArray, List.getElem_cons_zero, List.getElem_cons_succ]; go_simp; try with_reducible rfl)
          simp only [Act.put, List.getElem_toArray, List.getElem_cons_zero, List.getElem_cons_succ, List.setIfInBounds_toArray, List.set_cons_zero, List.set_cons_succ]
          refine wpAnyH_take (i := 8) (oi := _) (v := ?v8_8) rfl (by kernel_rfl) (by kernel_rfl) (by kernel_rfl) (fun _ _ _ h => h) (Or.inl ⟨by rfl, ?hy8_8⟩) (by assumption) ?rest8_8
          case hy8_8 => (intro wq hSw; (try dsimp only at hSw); obtain ⟨qB, q0⟩ := hSw; clear qB q0; simp only [List.getElem_toArray, List.getElem_cons_zero, List.getElem_cons_succ]; go_simp; try with_reducible rfl)
          simp only [Act.put, List.getElem_toArray, List.getElem_cons_zero, List.getElem_cons_succ, List.setIfInBounds_toArray, List.set_cons_zero, List.set_cons_succ]
          refine wpAnyH_take (i := 9) (oi := _) (v := ?v9_9) rfl (by kernel_rfl) (by kernel_rfl) (by kernel_rfl) (fun _ _ _ h => h) (Or.inl ⟨by rfl, ?hy9_9⟩) (by assumption) ?rest9_9
          case hy9_9 => (intro wq hSw; (try dsimp only at hSw); obtain ⟨qB, q0⟩ := hSw; clear qB q0; simp only [List.getElem_toArray, List.getElem_cons_zero, List.getElem_cons_succ]; go_simp; try with_reducible rfl)
          simp only [Act.put, List.getElem_toArray, List.getElem_cons_zero, List.getElem_cons_succ, List.setIfInBounds_toArray, List.set_cons_zero, List.set_cons_succ]
          refine wpAnyH_take (i := 10) (oi := _) (v := ?v10_10) rfl (by kernel_rfl) (by kernel_rfl) (by kernel_rfl) (fun _ _ _ h => h) (Or.inl ⟨by rfl, ?hy10_10⟩) (by assumption) ?rest10_10
          case hy10_10 => (intro wq hSw; (try dsimp only at hSw); obtain ⟨qB, q0⟩ := hSw; clear qB q0; simp only [List.getElem_toArray, List.getElem_cons_zero, List.getElem_cons_succ]; go_simp; try with_reducible rfl)
          simp only [Act.put, List.getElem_toArray, List.getElem_cons_zero, List.getElem_cons_succ, List.setIfInBounds_toArray, List.set_cons_zero, List.set_cons_succ]
          refine wpAnyH_ready (rs := [11]) (by kernel_rfl) (by simp) ?_
          refine AllReadyH.cons (o := _) rfl (fun K hK => ?_) AllReadyH.nil
          try simp only [List.getElem_toArray, List.getElem_cons_zero, List.getElem_cons_succ]
          go_simp
          have MB := Lib.hid (LB.out.alloc LB.out.size (.cells #[.int .u32 0, .int .u32 0, .int .u32 0, .int .u32 0, .int .u32 0, .int .u32 0, .int .u32 0, .int .u32 0, .int .u32 0, .int .u32 0, .int .u32 0, .int .u32 0, .int .u32 0, .int .u32 0, .int .u32 0, .int .u32 0, .int .u32 0, .bool false, .bool false, .bool false, .bool false, .int .u32 0] 25))
          have MH0 := Lib.hid (LH0.out.old (.cells #[.int .u32 0, .int .u32 0, .int .u32 0, .int .u32 0, .int .u32 0, .int .u32 0, .int .u32 0, .int .u32 0, .int .u32 0, .int .u32 0, .int .u32 0, .int .u32 0, .int .u32 0, .int .u32 0, .int .u32 0, .int .u32 0, .int .u32 0, .bool false, .bool false, .bool false, .bool false, .int .u32 0] 25))
          have MN := Lib.hid (Blk.new w1 #[.int .u32 0, .int .u32 0, .int .u32 0, .int .u32 0, .int .u32 0, .int .u32 0, .int .u32 0, .int .u32 0, .int .u32 0, .int .u32 0, .int .u32 0, .int .u32 0, .int .u32 0, .int .u32 0, .int .u32 0, .int .u32 0, .int .u32 0, .bool false, .bool false, .bool false, .bool false, .int .u32 0] 25)
          refine hK.out _ _ ⟨MB, MH0⟩ (fun _ => ?_)
          try simp only [Act.put, List.getElem_toArray, List.getElem_cons_zero, List.getElem_cons_succ, List.setIfInBounds_toArray, List.set_cons_zero, List.set_cons_succ]
          have GE : w.heap.size ≤ w1.heap.size := LB.out.size
          have NE0 : w.heap.size < w1.heap.size := LH0.out.lt
          obtain ⟨gn, hg⟩ : ∃ g, w1.heap.size = g := ⟨_, rfl⟩
          rw [hg] at MN GE NE0 ⊢
          have HLT := Lib.hid GE
          clear hg GE
          generalize w1.alloc (.cells #[.int .u32 0, .int .u32 0, .int .u32 0, .int .u32 0, .int .u32 0, .int .u32 0, .int .u32 0, .int .u32 0, .int .u32 0, .int .u32 0, .int .u32 0, .int .u32 0, .int .u32 0, .int .u32 0, .int .u32 0, .int .u32 0, .int .u32 0, .bool false, .bool false, .bool false, .bool false, .int .u32 0] 25) = wy at MB MN MH0 ⊢
          refine wpAnyH_ready (rs := [12]) (by kernel_rfl) (by simp) ?_
          refine AllReadyH.cons (o := _) rfl (fun K hK => ?_) AllReadyH.nil
          try simp only [List.getElem_toArray, List.getElem_cons_zero, List.getElem_cons_succ]
          have hst := store_cpu MN.out rfl HXO.out.size HXO.out.one
          go_simp
          have PB := Lib.hid (belRow MB.out (g := gn) HLT.out X)
          have PH0 := Lib.hid (MH0.out.farRow (k := gn) (by have := NE0; omega) X)
          have PN := Lib.hid (MN.out.setRow X)
          refine hK.out _ _ ⟨PB, PH0⟩ (fun _ => ?_)
          try simp only [Act.put, List.getElem_toArray, List.getElem_cons_zero, List.getElem_cons_succ, List.setIfInBounds_toArray, List.set_cons_zero, List.set_cons_succ]
          refine wpAnyH_take (i := 13) (oi := _) (v := ?v13_11) rfl (by kernel_rfl) (by kernel_rfl) (by kernel_rfl) (fun _ _ _ h => h) (Or.inl ⟨by rfl, ?hy13_11⟩) (by assumption) ?rest13_11
          case hy13_11 => (intro wq hSw; (try dsimp only at hSw); obtain ⟨qB, q0⟩ := hSw; clear qB q0; simp only [List.getElem_toArray, List.getElem_cons_zero, List.getElem_cons_succ]; go_simp; try with_reducible rfl)
          simp only [Act.put, List.getElem_toArray, List.getElem_cons_zero, List.getElem_cons_succ, List.setIfInBounds_toArray, List.set_cons_zero, List.set_cons_succ]
          refine wpAnyH_take (i := 14) (oi := _) (v := ?v14_12) rfl (by kernel_rfl) (by kernel_rfl) (by kernel_rfl) (fun _ _ _ h => h) (Or.inl ⟨by rfl, ?hy14_12⟩) (by assumption) ?rest14_12
          case hy14_12 => (intro wq hSw; (try dsimp only at hSw); obtain ⟨qB, q0⟩ := hSw; clear qB q0; simp only [List.getElem_toArray, List.getElem_cons_zero, List.getElem_cons_succ]; go_simp; try with_reducible rfl)
          simp only [Act.put, List.getElem_toArray, List.getElem_cons_zero, List.getElem_cons_succ, List.setIfInBounds_toArray, List.set_cons_zero, List.set_cons_succ]
          refine wpAnyH_done (by kernel_rfl) ?_ _
          clear hst
          go_wp2_with fail
          go_meet
          exact ⟨_, rfl, rfl, rfl, PN, PB, PH0⟩
        · skip
          try simp only [List.getElem_toArray, List.getElem_cons_zero, List.getElem_cons_succ]
          go_simp
          have MB := Lib.hid (JB.out.alloc JB.out.size (.cells #[.int .u32 0, .int .u32 0, .int .u32 0, .int .u32 0, .int .u32 0, .int .u32 0, .int .u32 0, .int .u32 0, .int .u32 0, .int .u32 0, .int .u32 0, .int .u32 0, .int .u32 0, .int .u32 0, .int .u32 0, .int .u32 0, .int .u32 0, .bool false, .bool false, .bool false, .bool false, .int .u32 0] 25))
          have MH0 := Lib.hid (JH0.out.old (.cells #[.int .u32 0, .int .u32 0, .int .u32 0, .int .u32 0, .int .u32 0, .int .u32 0, .int .u32 0, .int .u32 0, .int .u32 0, .int .u32 0, .int .u32 0, .int .u32 0, .int .u32 0, .int .u32 0, .int .u32 0, .int .u32 0, .int .u32 0, .bool false, .bool false, .bool false, .bool false, .int .u32 0] 25))
          have MN := Lib.hid (Blk.new wd #[.int .u32 0, .int .u32 0, .int .u32 0, .int .u32 0, .int .u32 0, .int .u32 0, .int .u32 0, .int .u32 0, .int .u32 0, .int .u32 0, .int .u32 0, .int .u32 0, .int .u32 0, .int .u32 0, .int .u32 0, .int .u32 0, .int .u32 0, .bool false, .bool false, .bool false, .bool false, .int .u32 0] 25)
          refine hK.out _ _ ⟨MB, MH0⟩ (fun _ => ?_)
          try simp only [Act.put, List.getElem_toArray, List.getElem_cons_zero, List.getElem_cons_succ, List.setIfInBounds_toArray, List.set_cons_zero, List.set_cons_succ]
          have GE : w.heap.size ≤ wd.heap.size := JB.out.size
          have NE0 : w.heap.size < wd.heap.size := JH0.out.lt
          obtain ⟨gn, hg⟩ : ∃ g, wd.heap.size = g := ⟨_, rfl⟩
          rw [hg] at MN GE NE0 ⊢
          have HLT := Lib.hid GE
          clear hg GE
          generalize (wd).alloc (.cells #[.int .u32 0, .int .u32 0, .int .u32 0, .int .u32 0, .int .u32 0, .int .u32 0, .int .u32 0, .int .u32 0, .int .u32 0, .int .u32 0, .int .u32 0, .int .u32 0, .int .u32 0, .int .u32 0, .int .u32 0, .int .u32 0, .int .u32 0, .bool false, .bool false, .bool false, .bool false, .int .u32 0] 25) = wy at MB MN MH0 ⊢
          refine wpAnyH_ready (rs := [6]) (by kernel_rfl) (by simp) ?_
          refine AllReadyH.cons (o := _) rfl (fun K hK => ?_) AllReadyH.nil
          try simp only [List.getElem_toArray, List.getElem_cons_zero, List.getElem_cons_succ]
          go_simp
          go_at_call 18
          refine (exec_as HX.out HC.out h0 h1 _ (HT.out _ MB.out)).mono ?_
          rintro e w1 ⟨rfl, hb1⟩
          have LB := Lib.hid (MB.out.trans (hb1.mono MB.out.size))
          have LH0 := Lib.hid (MH0.out.step hb1)
          have LN := Lib.hid (MN.out.step hb1)
          clear hb1
          refine hK.out _ _ ⟨LB, LH0⟩ (fun _ => ?_)
          try simp only [Act.put, List.getElem_toArray, List.getElem_cons_zero, List.getElem_cons_succ, List.setIfInBounds_toArray, List.set_cons_zero, List.set_cons_succ]
          refine wpAnyH_take (i := 7) (oi := _) (v := ?v7_13) rfl (by kernel_rfl) (by kernel_rfl) (by kernel_rfl) (fun _ _ _ h => h) (Or.inl ⟨by rfl, ?hy7_13⟩) (by assumption) ?rest7_13
          case hy7_13 => (intro wq hSw; (try dsimp only at hSw); obtain ⟨qB, q0⟩ := hSw; clear qB q0; simp only [List.getElem_toArray, List.getElem_cons_zero, List.getElem_cons_succ]; go_simp; try with_reducible rfl)
          simp only [Act.put, List.getElem_toArray, List.getElem_cons_zero, List.getElem_cons_succ, List.setIfInBounds_toArray, List.set_cons_zero, List.set_cons_succ]
          refine wpAnyH_take (i := 8) (oi := _) (v := ?v8_14) rfl (by kernel_rfl) (by kernel_rfl) (by kernel_rfl) (fun _ _ _ h => h) (Or.inl ⟨by rfl, ?hy8_14⟩) (by assumption) ?rest8_14
          case hy8_14 => (intro wq hSw; (try dsimp only at hSw); obtain ⟨qB, q0⟩ := hSw; clear qB q0; simp only [List.getElem_toArray, List.getElem_cons_zero, List.getElem_cons_succ]; go_simp; try with_reducible rfl)
          simp only [Act.put, List.getElem_toArray, List.getElem_cons_zero, List.getElem_cons_succ, List.setIfInBounds_toArray, List.set_cons_zero, List.set_cons_succ]
          refine wpAnyH_take (i := 9) (oi := _) (v := ?v9_15) rfl (by kernel_rfl) (by kernel_rfl) (by kernel_rfl) (fun _ _ _ h => h) (Or.inl ⟨by rfl, ?hy9_15⟩) (by assumption) ?rest9_15
          case hy9_15 => (intro wq hSw; (try dsimp only at hSw); obtain ⟨qB, q0⟩ := hSw; clear qB q0; simp only [List.getElem_toArray, List.getElem_cons_zero, List.getElem_cons_succ]; go_simp; try with_reducible rfl)
          simp only [Act.put, List.getElem_toArray, List.getElem_cons_zero, List.getElem_cons_succ, List.setIfInBounds_toArray, List.set_cons_zero, List.set_cons_succ]
          refine wpAnyH_take (i := 10) (oi := _) (v := ?v10_16) rfl (by kernel_rfl) (by kernel_rfl) (by kernel_rfl) (fun _ _ _ h => h) (Or.inl ⟨by rfl, ?hy10_16⟩) (by assumption) ?rest10_16
          case hy10_16 => (intro wq hSw; (try dsimp only at hSw); obtain ⟨qB, q0⟩ := hSw; clear qB q0; simp only [List.getElem_toArray, List.getElem_cons_zero, List.getElem_cons_succ]; go_simp; try with_reducible rfl)
          simp only [Act.put, List.getElem_toArray, List.getElem_cons_zero, List.getElem_cons_succ, List.setIfInBounds_toArray, List.set_cons_zero, List.set_cons_succ]
          refine wpAnyH_ready (rs := [12]) (by kernel_rfl) (by simp) ?_
          refine AllReadyH.cons (o := _) rfl (fun K hK => ?_) AllReadyH.nil
          try simp only [List.getElem_toArray, List.getElem_cons_zero, List.getElem_cons_succ]
          have hst := store_cpu LN.out rfl HXO.out.size HXO.out.one
          go_simp
          have PB := Lib.hid (belRow LB.out (g := gn) HLT.out X)
          have PH0 := Lib.hid (LH0.out.farRow (k := gn) (by have := NE0; omega) X)
          have PN := Lib.hid (LN.out.setRow X)
          refine hK.out _ _ ⟨PB, PH0⟩ (fun _ => ?_)
          try simp only [Act.put, List.getElem_toArray, List.getElem_cons_zero, List.getElem_cons_succ, List.setIfInBounds_toArray, List.set_cons_zero, List.set_cons_succ]
          refine wpAnyH_take (i := 13) (oi := _) (v := ?v13_17) rfl (by kernel_rfl) (by kernel_rfl) (by kernel_rfl) (fun _ _ _ h => h) (Or.inl ⟨by rfl, ?hy13_17⟩) (by assumption) ?rest13_17
          case hy13_17 => (intro wq hSw; (try dsimp only at hSw); obtain ⟨qB, q0⟩ := hSw; clear qB q0; simp only [List.getElem_toArray, List.getElem_cons_zero, List.getElem_cons_succ]; go_simp; try with_reducible rfl)
          simp only [Act.put, List.getElem_toArray, List.getElem_cons_zero, List.getElem_cons_succ, List.setIfInBounds_toArray, List.set_cons_zero, List.set_cons_succ]
          refine wpAnyH_take (i := 14) (oi := _) (v := ?v14_18) rfl (by kernel_rfl) (by kernel_rfl) (by kernel_rfl) (fun _ _ _ h => h) (Or.inl ⟨by rfl, ?hy14_18⟩) (by assumption) ?rest14_18
          case hy14_18 => (intro wq hSw; (try dsimp only at hSw); obtain ⟨qB, q0⟩ := hSw; clear qB q0; simp only [List.getElem_toArray, List.getElem_cons_zero, List.getElem_cons_succ]; go_simp; try with_reducible rfl)
          simp only [Act.put, List.getElem_toArray, List.getElem_cons_zero, List.getElem_cons_succ, List.setIfInBounds_toArray, List.set_cons_zero, List.set_cons_succ]
          refine wpAnyH_done (by kernel_rfl) ?_ _
          clear hst
          go_wp2_with fail
          go_meet
          exact ⟨_, rfl, rfl, rfl, PN, PB, PH0⟩
      case rest =>
        obtain ⟨g8, rfl, rfl, rfl, H8, HB, H0⟩ := hcut
        go_upto_region 5 with fail
        go_cut [11, 12, 13] from 14 to 41 (fun s8 s9 s10 wx => ∃ g8_, s8 = .pointer (some ⟨g8_, 0, none⟩) ∧ s9 = .int .i64 m ∧ s10 = .bool t ∧ Hid (Blk wx g8_ X 25) ∧ Hid (Below w.heap.size w wx) ∧ Hid (Blk wx w.heap.size cs 25) ∧ Hid (Blk wx g8 X 25))
        case first =>
          have JB : Hid (Below w.heap.size w wc.drew) := belDr HB.out
          have JH0 : Hid (Blk wc.drew w.heap.size cs 25) := H0.out
          have JH8 : Hid (Blk wc.drew g8 X 25) := H8.out
          refine wp_region_held_drew (S := (fun w' => Hid (Below w.heap.size w w') ∧ Hid (Blk w' w.heap.size cs 25) ∧ Hid (Blk w' g8 X 25))) (by kernel_rfl) ⟨JB, JH0, JH8⟩ (fun hHeld => ?_)
          clear hHeld
          generalize wc.drew = wd at JB JH0 JH8 ⊢
          have hHeld : ((fun w' => Hid (Below w.heap.size w w') ∧ Hid (Blk w' w.heap.size cs 25) ∧ Hid (Blk w' g8 X 25)) wd) := ⟨JB, JH0, JH8⟩
          refine wpAnyH_take (i := 0) (oi := _) (v := ?v0_19) rfl (by kernel_rfl) (by kernel_rfl) (by kernel_rfl) (fun _ _ _ h => h) (Or.inl ⟨by rfl, ?hy0_19⟩) (by assumption) ?rest0_19
          case hy0_19 => (intro wq hSw; (try dsimp only at hSw); obtain ⟨qB, q0, q1⟩ := hSw; have hld := load_cpu q0.out HC.out.size; obtain ⟨i0, i1, i2, i3, i4, i5, i6, i7⟩ := HI.out.below qB.out HBL.out; clear qB q0 q1; simp only [List.getElem_toArray, List.getElem_cons_zero, List.getElem_cons_succ]; go_simp; try with_reducible rfl)
          simp only [Act.put, List.getElem_toArray, List.getElem_cons_zero, List.getElem_cons_succ, List.setIfInBounds_toArray, List.set_cons_zero, List.set_cons_succ]
          refine wpAnyH_take (i := 1) (oi := _) (v := ?v1_20) rfl (by kernel_rfl) (by kernel_rfl) (by kernel_rfl) (fun _ _ _ h => h) (Or.inl ⟨by rfl, ?hy1_20⟩) (by assumption) ?rest1_20
          case hy1_20 => (intro wq hSw; (try dsimp only at hSw); obtain ⟨qB, q0, q1⟩ := hSw; clear qB q0 q1; simp only [List.getElem_toArray, List.getElem_cons_zero, List.getElem_cons_succ]; go_simp; try with_reducible rfl)
          simp only [Act.put, List.getElem_toArray, List.getElem_cons_zero, List.getElem_cons_succ, List.setIfInBounds_toArray, List.set_cons_zero, List.set_cons_succ]
          refine wpAnyH_take (i := 2) (oi := _) (v := ?v2_21) rfl (by kernel_rfl) (by kernel_rfl) (by kernel_rfl) (fun _ _ _ h => h) (Or.inl ⟨by rfl, ?hy2_21⟩) (by assumption) ?rest2_21
          case hy2_21 => (intro wq hSw; (try dsimp only at hSw); obtain ⟨qB, q0, q1⟩ := hSw; clear qB q0 q1; simp only [List.getElem_toArray, List.getElem_cons_zero, List.getElem_cons_succ]; go_simp; try with_reducible rfl)
          simp only [Act.put, List.getElem_toArray, List.getElem_cons_zero, List.getElem_cons_succ, List.setIfInBounds_toArray, List.set_cons_zero, List.set_cons_succ]
          refine wpAnyH_take (i := 3) (oi := _) (v := ?v3_22) rfl (by kernel_rfl) (by kernel_rfl) (by kernel_rfl) (fun _ _ _ h => h) (Or.inl ⟨by rfl, ?hy3_22⟩) (by assumption) ?rest3_22
          case hy3_22 => (intro wq hSw; (try dsimp only at hSw); obtain ⟨qB, q0, q1⟩ := hSw; clear qB q0 q1; simp only [List.getElem_toArray, List.getElem_cons_zero, List.getElem_cons_succ]; go_simp; try with_reducible rfl)
          simp only [Act.put, List.getElem_toArray, List.getElem_cons_zero, List.getElem_cons_succ, List.setIfInBounds_toArray, List.set_cons_zero, List.set_cons_succ]
          refine wpAnyH_take (i := 4) (oi := _) (v := ?v4_23) rfl (by kernel_rfl) (by kernel_rfl) (by kernel_rfl) (fun _ _ _ h => h) (Or.inl ⟨by rfl, ?hy4_23⟩) (by assumption) ?rest4_23
          case hy4_23 => (intro wq hSw; (try dsimp only at hSw); obtain ⟨qB, q0, q1⟩ := hSw; have hld := load_cpu q0.out HC.out.size; obtain ⟨i0, i1, i2, i3, i4, i5, i6, i7⟩ := HI.out.below qB.out HBL.out; clear qB q0 q1; simp only [List.getElem_toArray, List.getElem_cons_zero, List.getElem_cons_succ]; go_simp; try with_reducible rfl)
          simp only [Act.put, List.getElem_toArray, List.getElem_cons_zero, List.getElem_cons_succ, List.setIfInBounds_toArray, List.set_cons_zero, List.set_cons_succ]
          refine wpAnyH_take (i := 5) (oi := _) (v := ?v5_24) rfl (by kernel_rfl) (by kernel_rfl) (by kernel_rfl) (fun _ _ _ h => h) (Or.inl ⟨by rfl, ?hy5_24⟩) (by assumption) ?rest5_24
          case hy5_24 => (intro wq hSw; (try dsimp only at hSw); obtain ⟨qB, q0, q1⟩ := hSw; clear qB q0 q1; simp only [List.getElem_toArray, List.getElem_cons_zero, List.getElem_cons_succ]; go_simp; try with_reducible rfl)
          simp only [Act.put, List.getElem_toArray, List.getElem_cons_zero, List.getElem_cons_succ, List.setIfInBounds_toArray, List.set_cons_zero, List.set_cons_succ]
          refine wpAnyH_ready (rs := [6, 11]) (by kernel_rfl) (by simp) ?_
          refine AllReadyH.cons (o := _) rfl (fun K hK => ?_) (AllReadyH.cons (o := _) rfl (fun K hK => ?_) AllReadyH.nil)
          · skip
            try simp only [List.getElem_toArray, List.getElem_cons_zero, List.getElem_cons_succ]
            go_simp
            go_at_call 19
            refine (rexec_as HX.out HC.out h0 h1 _).mono ?_
            rintro e w1 ⟨rfl, hb1⟩
            have LB := Lib.hid (JB.out.trans (hb1.mono JB.out.size))
            have LH0 := Lib.hid (JH0.out.step hb1)
            have LH8 := Lib.hid (JH8.out.step hb1)
            clear hb1
            refine hK.out _ _ ⟨LB, LH0, LH8⟩ (fun _ => ?_)
            try simp only [Act.put, List.getElem_toArray, List.getElem_cons_zero, List.getElem_cons_succ, List.setIfInBounds_toArray, List.set_cons_zero, List.set_cons_succ]
            refine wpAnyH_take (i := 7) (oi := _) (v := ?v7_25) rfl (by kernel_rfl) (by kernel_rfl) (by kernel_rfl) (fun _ _ _ h => h) (Or.inl ⟨by rfl, ?hy7_25⟩) (by assumption) ?rest7_25
            case hy7_25 => (intro wq hSw; (try dsimp only at hSw); obtain ⟨qB, q0, q1⟩ := hSw; clear qB q0 q1; simp only [List.getElem_toArray, List.getElem_cons_zero, List.getElem_cons_succ]; go_simp; try with_reducible rfl)
            simp only [Act.put, List.getElem_toArray, List.getElem_cons_zero, List.getElem_cons_succ, List.setIfInBounds_toArray, List.set_cons_zero, List.set_cons_succ]
            refine wpAnyH_take (i := 8) (oi := _) (v := ?v8_26) rfl (by kernel_rfl) (by kernel_rfl) (by kernel_rfl) (fun _ _ _ h => h) (Or.inl ⟨by rfl, ?hy8_26⟩) (by assumption) ?rest8_26
            case hy8_26 => (intro wq hSw; (try dsimp only at hSw); obtain ⟨qB, q0, q1⟩ := hSw; clear qB q0 q1; simp only [List.getElem_toArray, List.getElem_cons_zero, List.getElem_cons_succ]; go_simp; try with_reducible rfl)
            simp only [Act.put, List.getElem_toArray, List.getElem_cons_zero, List.getElem_cons_succ, List.setIfInBounds_toArray, List.set_cons_zero, List.set_cons_succ]
            refine wpAnyH_take (i := 9) (oi := _) (v := ?v9_27) rfl (by kernel_rfl) (by kernel_rfl) (by kernel_rfl) (fun _ _ _ h => h) (Or.inl ⟨by rfl, ?hy9_27⟩) (by assumption) ?rest9_27
            case hy9_27 => (intro wq hSw; (try dsimp only at hSw); obtain ⟨qB, q0, q1⟩ := hSw; clear qB q0 q1; simp only [List.getElem_toArray, List.getElem_cons_zero, List.getElem_cons_succ]; go_simp; try with_reducible rfl)
            simp only [Act.put, List.getElem_toArray, List.getElem_cons_zero, List.getElem_cons_succ, List.setIfInBounds_toArray, List.set_cons_zero, List.set_cons_succ]
            refine wpAnyH_take (i := 10) (oi := _) (v := ?v10_28) rfl (by kernel_rfl) (by kernel_rfl) (by kernel_rfl) (fun _ _ _ h => h) (Or.inl ⟨by rfl, ?hy10_28⟩) (by assumption) ?rest10_28
            case hy10_28 => (intro wq hSw; (try dsimp only at hSw); obtain ⟨qB, q0, q1⟩ := hSw; clear qB q0 q1; simp only [List.getElem_toArray, List.getElem_cons_zero, List.getElem_cons_succ]; go_simp; try with_reducible rfl)
            simp only [Act.put, List.getElem_toArray, List.getElem_cons_zero, List.getElem_cons_succ, List.setIfInBounds_toArray, List.set_cons_zero, List.set_cons_succ]
            refine wpAnyH_ready (rs := [11]) (by kernel_rfl) (by simp) ?_
            refine AllReadyH.cons (o := _) rfl (fun K hK => ?_) AllReadyH.nil
            try simp only [List.getElem_toArray, List.getElem_cons_zero, List.getElem_cons_succ]
            go_simp
            have MB := Lib.hid (LB.out.alloc LB.out.size (.cells #[.int .u32 0, .int .u32 0, .int .u32 0, .int .u32 0, .int .u32 0, .int .u32 0, .int .u32 0, .int .u32 0, .int .u32 0, .int .u32 0, .int .u32 0, .int .u32 0, .int .u32 0, .int .u32 0, .int .u32 0, .int .u32 0, .int .u32 0, .bool false, .bool false, .bool false, .bool false, .int .u32 0] 25))
            have MH0 := Lib.hid (LH0.out.old (.cells #[.int .u32 0, .int .u32 0, .int .u32 0, .int .u32 0, .int .u32 0, .int .u32 0, .int .u32 0, .int .u32 0, .int .u32 0, .int .u32 0, .int .u32 0, .int .u32 0, .int .u32 0, .int .u32 0, .int .u32 0, .int .u32 0, .int .u32 0, .bool false, .bool false, .bool false, .bool false, .int .u32 0] 25))
            have MH8 := Lib.hid (LH8.out.old (.cells #[.int .u32 0, .int .u32 0, .int .u32 0, .int .u32 0, .int .u32 0, .int .u32 0, .int .u32 0, .int .u32 0, .int .u32 0, .int .u32 0, .int .u32 0, .int .u32 0, .int .u32 0, .int .u32 0, .int .u32 0, .int .u32 0, .int .u32 0, .bool false, .bool false, .bool false, .bool false, .int .u32 0] 25))
            have MN := Lib.hid (Blk.new w1 #[.int .u32 0, .int .u32 0, .int .u32 0, .int .u32 0, .int .u32 0, .int .u32 0, .int .u32 0, .int .u32 0, .int .u32 0, .int .u32 0, .int .u32 0, .int .u32 0, .int .u32 0, .int .u32 0, .int .u32 0, .int .u32 0, .int .u32 0, .bool false, .bool false, .bool false, .bool false, .int .u32 0] 25)
            refine hK.out _ _ ⟨MB, MH0, MH8⟩ (fun _ => ?_)
            try simp only [Act.put, List.getElem_toArray, List.getElem_cons_zero, List.getElem_cons_succ, List.setIfInBounds_toArray, List.set_cons_zero, List.set_cons_succ]
            have GE : w.heap.size ≤ w1.heap.size := LB.out.size
            have NE0 : w.heap.size < w1.heap.size := LH0.out.lt
            have NE1 : g8 < w1.heap.size := LH8.out.lt
            obtain ⟨gn, hg⟩ : ∃ g, w1.heap.size = g := ⟨_, rfl⟩
            rw [hg] at MN GE NE0 NE1 ⊢
            have HLT := Lib.hid GE
            clear hg GE
            generalize w1.alloc (.cells #[.int .u32 0, .int .u32 0, .int .u32 0, .int .u32 0, .int .u32 0, .int .u32 0, .int .u32 0, .int .u32 0, .int .u32 0, .int .u32 0, .int .u32 0, .int .u32 0, .int .u32 0, .int .u32 0, .int .u32 0, .int .u32 0, .int .u32 0, .bool false, .bool false, .bool false, .bool false, .int .u32 0] 25) = wy at MB MN MH0 MH8 ⊢
            refine wpAnyH_ready (rs := [12]) (by kernel_rfl) (by simp) ?_
            refine AllReadyH.cons (o := _) rfl (fun K hK => ?_) AllReadyH.nil
            try simp only [List.getElem_toArray, List.getElem_cons_zero, List.getElem_cons_succ]
            have hst := store_cpu MN.out rfl HXO.out.size HXO.out.one
            go_simp
            have PB := Lib.hid (belRow MB.out (g := gn) HLT.out X)
            have PH0 := Lib.hid (MH0.out.farRow (k := gn) (by have := NE0; omega) X)
            have PH8 := Lib.hid (MH8.out.farRow (k := gn) (by have := NE1; omega) X)
            have PN := Lib.hid (MN.out.setRow X)
            refine hK.out _ _ ⟨PB, PH0, PH8⟩ (fun _ => ?_)
            try simp only [Act.put, List.getElem_toArray, List.getElem_cons_zero, List.getElem_cons_succ, List.setIfInBounds_toArray, List.set_cons_zero, List.set_cons_succ]
            refine wpAnyH_take (i := 13) (oi := _) (v := ?v13_29) rfl (by kernel_rfl) (by kernel_rfl) (by kernel_rfl) (fun _ _ _ h => h) (Or.inl ⟨by rfl, ?hy13_29⟩) (by assumption) ?rest13_29
            case hy13_29 => (intro wq hSw; (try dsimp only at hSw); obtain ⟨qB, q0, q1⟩ := hSw; clear qB q0 q1; simp only [List.getElem_toArray, List.getElem_cons_zero, List.getElem_cons_succ]; go_simp; try with_reducible rfl)
            simp only [Act.put, List.getElem_toArray, List.getElem_cons_zero, List.getElem_cons_succ, List.setIfInBounds_toArray, List.set_cons_zero, List.set_cons_succ]
            refine wpAnyH_take (i := 14) (oi := _) (v := ?v14_30) rfl (by kernel_rfl) (by kernel_rfl) (by kernel_rfl) (fun _ _ _ h => h) (Or.inl ⟨by rfl, ?hy14_30⟩) (by assumption) ?rest14_30
            case hy14_30 => (intro wq hSw; (try dsimp only at hSw); obtain ⟨qB, q0, q1⟩ := hSw; clear qB q0 q1; simp only [List.getElem_toArray, List.getElem_cons_zero, List.getElem_cons_succ]; go_simp; try with_reducible rfl)
            simp only [Act.put, List.getElem_toArray, List.getElem_cons_zero, List.getElem_cons_succ, List.setIfInBounds_toArray, List.set_cons_zero, List.set_cons_succ]
            refine wpAnyH_done (by kernel_rfl) ?_ _
            clear hst
            go_wp2_with fail
            go_meet
            exact ⟨_, rfl, rfl, rfl, PN, PB, PH0, PH8⟩
          · skip
            try simp only [List.getElem_toArray, List.getElem_cons_zero, List.getElem_cons_succ]
            go_simp
            have MB := Lib.hid (JB.out.alloc JB.out.size (.cells #[.int .u32 0, .int .u32 0, .int .u32 0, .int .u32 0, .int .u32 0, .int .u32 0, .int .u32 0, .int .u32 0, .int .u32 0, .int .u32 0, .int .u32 0, .int .u32 0, .int .u32 0, .int .u32 0, .int .u32 0, .int .u32 0, .int .u32 0, .bool false, .bool false, .bool false, .bool false, .int .u32 0] 25))
            have MH0 := Lib.hid (JH0.out.old (.cells #[.int .u32 0, .int .u32 0, .int .u32 0, .int .u32 0, .int .u32 0, .int .u32 0, .int .u32 0, .int .u32 0, .int .u32 0, .int .u32 0, .int .u32 0, .int .u32 0, .int .u32 0, .int .u32 0, .int .u32 0, .int .u32 0, .int .u32 0, .bool false, .bool false, .bool false, .bool false, .int .u32 0] 25))
            have MH8 := Lib.hid (JH8.out.old (.cells #[.int .u32 0, .int .u32 0, .int .u32 0, .int .u32 0, .int .u32 0, .int .u32 0, .int .u32 0, .int .u32 0, .int .u32 0, .int .u32 0, .int .u32 0, .int .u32 0, .int .u32 0, .int .u32 0, .int .u32 0, .int .u32 0, .int .u32 0, .bool false, .bool false, .bool false, .bool false, .int .u32 0] 25))
            have MN := Lib.hid (Blk.new wd #[.int .u32 0, .int .u32 0, .int .u32 0, .int .u32 0, .int .u32 0, .int .u32 0, .int .u32 0, .int .u32 0, .int .u32 0, .int .u32 0, .int .u32 0, .int .u32 0, .int .u32 0, .int .u32 0, .int .u32 0, .int .u32 0, .int .u32 0, .bool false, .bool false, .bool false, .bool false, .int .u32 0] 25)
            refine hK.out _ _ ⟨MB, MH0, MH8⟩ (fun _ => ?_)
            try simp only [Act.put, List.getElem_toArray, List.getElem_cons_zero, List.getElem_cons_succ, List.setIfInBounds_toArray, List.set_cons_zero, List.set_cons_succ]
            have GE : w.heap.size ≤ wd.heap.size := JB.out.size
            have NE0 : w.heap.size < wd.heap.size := JH0.out.lt
            have NE1 : g8 < wd.heap.size := JH8.out.lt
            obtain ⟨gn, hg⟩ : ∃ g, wd.heap.size = g := ⟨_, rfl⟩
            rw [hg] at MN GE NE0 NE1 ⊢
            have HLT := Lib.hid GE
            clear hg GE
            generalize (wd).alloc (.cells #[.int .u32 0, .int .u32 0, .int .u32 0, .int .u32 0, .int .u32 0, .int .u32 0, .int .u32 0, .int .u32 0, .int .u32 0, .int .u32 0, .int .u32 0, .int .u32 0, .int .u32 0, .int .u32 0, .int .u32 0, .int .u32 0, .int .u32 0, .bool false, .bool false, .bool false, .bool false, .int .u32 0] 25) = wy at MB MN MH0 MH8 ⊢
            refine wpAnyH_ready (rs := [6]) (by kernel_rfl) (by simp) ?_
            refine AllReadyH.cons (o := _) rfl (fun K hK => ?_) AllReadyH.nil
            try simp only [List.getElem_toArray, List.getElem_cons_zero, List.getElem_cons_succ]
            go_simp
            go_at_call 19
            refine (rexec_as HX.out HC.out h0 h1 _).mono ?_
            rintro e w1 ⟨rfl, hb1⟩
            have LB := Lib.hid (MB.out.trans (hb1.mono MB.out.size))
            have LH0 := Lib.hid (MH0.out.step hb1)
            have LH8 := Lib.hid (MH8.out.step hb1)
            have LN := Lib.hid (MN.out.step hb1)
            clear hb1
            refine hK.out _ _ ⟨LB, LH0, LH8⟩ (fun _ => ?_)
            try simp only [Act.put, List.getElem_toArray, List.getElem_cons_zero, List.getElem_cons_succ, List.setIfInBounds_toArray, List.set_cons_zero, List.set_cons_succ]
            refine wpAnyH_take (i := 7) (oi := _) (v := ?v7_31) rfl (by kernel_rfl) (by kernel_rfl) (by kernel_rfl) (fun _ _ _ h => h) (Or.inl ⟨by rfl, ?hy7_31⟩) (by assumption) ?rest7_31
            case hy7_31 => (intro wq hSw; (try dsimp only at hSw); obtain ⟨qB, q0, q1⟩ := hSw; clear qB q0 q1; simp only [List.getElem_toArray, List.getElem_cons_zero, List.getElem_cons_succ]; go_simp; try with_reducible rfl)
            simp only [Act.put, List.getElem_toArray, List.getElem_cons_zero, List.getElem_cons_succ, List.setIfInBounds_toArray, List.set_cons_zero, List.set_cons_succ]
            refine wpAnyH_take (i := 8) (oi := _) (v := ?v8_32) rfl (by kernel_rfl) (by kernel_rfl) (by kernel_rfl) (fun _ _ _ h => h) (Or.inl ⟨by rfl, ?hy8_32⟩) (by assumption) ?rest8_32
            case hy8_32 => (intro wq hSw; (try dsimp only at hSw); obtain ⟨qB, q0, q1⟩ := hSw; clear qB q0 q1; simp only [List.getElem_toArray, List.getElem_cons_zero, List.getElem_cons_succ]; go_simp; try with_reducible rfl)
            simp only [Act.put, List.getElem_toArray, List.getElem_cons_zero, List.getElem_cons_succ, List.setIfInBounds_toArray, List.set_cons_zero, List.set_cons_succ]
            refine wpAnyH_take (i := 9) (oi := _) (v := ?v9_33) rfl (by kernel_rfl) (by kernel_rfl) (by kernel_rfl) (fun _ _ _ h => h) (Or.inl ⟨by rfl, ?hy9_33⟩) (by assumption) ?rest9_33
            case hy9_33 => (intro wq hSw; (try dsimp only at hSw); obtain ⟨qB, q0, q1⟩ := hSw; clear qB q0 q1; simp only [List.getElem_toArray, List.getElem_cons_zero, List.getElem_cons_succ]; go_simp; try with_reducible rfl)
            simp only [Act.put, List.getElem_toArray, List.getElem_cons_zero, List.getElem_cons_succ, List.setIfInBounds_toArray, List.set_cons_zero, List.set_cons_succ]
            refine wpAnyH_take (i := 10) (oi := _) (v := ?v10_34) rfl (by kernel_rfl) (by kernel_rfl) (by kernel_rfl) (fun _ _ _ h => h) (Or.inl ⟨by rfl, ?hy10_34⟩) (by assumption) ?rest10_34
            case hy10_34 => (intro wq hSw; (try dsimp only at hSw); obtain ⟨qB, q0, q1⟩ := hSw; clear qB q0 q1; simp only [List.getElem_toArray, List.getElem_cons_zero, List.getElem_cons_succ]; go_simp; try with_reducible rfl)
            simp only [Act.put, List.getElem_toArray, List.getElem_cons_zero, List.getElem_cons_succ, List.setIfInBounds_toArray, List.set_cons_zero, List.set_cons_succ]
            refine wpAnyH_ready (rs := [12]) (by kernel_rfl) (by simp) ?_
            refine AllReadyH.cons (o := _) rfl (fun K hK => ?_) AllReadyH.nil
            try simp only [List.getElem_toArray, List.getElem_cons_zero, List.getElem_cons_succ]
            have hst := store_cpu LN.out rfl HXO.out.size HXO.out.one
            go_simp
            have PB := Lib.hid (belRow LB.out (g := gn) HLT.out X)
            have PH0 := Lib.hid (LH0.out.farRow (k := gn) (by have := NE0; omega) X)
            have PH8 := Lib.hid (LH8.out.farRow (k := gn) (by have := NE1; omega) X)
            have PN := Lib.hid (LN.out.setRow X)
            refine hK.out _ _ ⟨PB, PH0, PH8⟩ (fun _ => ?_)
            try simp only [Act.put, List.getElem_toArray, List.getElem_cons_zero, List.getElem_cons_succ, List.setIfInBounds_toArray, List.set_cons_zero, List.set_cons_succ]
            refine wpAnyH_take (i := 13) (oi := _) (v := ?v13_35) rfl (by kernel_rfl) (by kernel_rfl) (by kernel_rfl) (fun _ _ _ h => h) (Or.inl ⟨by rfl, ?hy13_35⟩) (by assumption) ?rest13_35
            case hy13_35 => (intro wq hSw; (try dsimp only at hSw); obtain ⟨qB, q0, q1⟩ := hSw; clear qB q0 q1; simp only [List.getElem_toArray, List.getElem_cons_zero, List.getElem_cons_succ]; go_simp; try with_reducible rfl)
            simp only [Act.put, List.getElem_toArray, List.getElem_cons_zero, List.getElem_cons_succ, List.setIfInBounds_toArray, List.set_cons_zero, List.set_cons_succ]
            refine wpAnyH_take (i := 14) (oi := _) (v := ?v14_36) rfl (by kernel_rfl) (by kernel_rfl) (by kernel_rfl) (fun _ _ _ h => h) (Or.inl ⟨by rfl, ?hy14_36⟩) (by assumption) ?rest14_36
            case hy14_36 => (intro wq hSw; (try dsimp only at hSw); obtain ⟨qB, q0, q1⟩ := hSw; clear qB q0 q1; simp only [List.getElem_toArray, List.getElem_cons_zero, List.getElem_cons_succ]; go_simp; try with_reducible rfl)
            simp only [Act.put, List.getElem_toArray, List.getElem_cons_zero, List.getElem_cons_succ, List.setIfInBounds_toArray, List.set_cons_zero, List.set_cons_succ]
            refine wpAnyH_done (by kernel_rfl) ?_ _
            clear hst
            go_wp2_with fail
            go_meet
            exact ⟨_, rfl, rfl, rfl, PN, PB, PH0, PH8⟩
        case rest =>
          obtain ⟨g11, rfl, rfl, rfl, H11, HB, H0, H8⟩ := hcut
          have hl8 := load_cpu H8.out HXO.out.size
          have hl11 := load_cpu H11.out HXO.out.size
          have hne := fun w => run_neq_cpu HXO.out w
          go_wp2_with fail
          go_roundw
          case rel => exact ⟨k + 1, by omega, by go_num, HB, H0⟩
          case measure => simp [intOf]; omega
    · have : k = len := by omega
      go_wp2_with fail
      refine (shown_any _ (HT.out _ HB.out)).mono ?_
      rintro e w2 ⟨rfl, hb2⟩
      go_wp2_with fail
      go_ret
      exact ⟨rfl, HB.out.trans (hb2.mono HB.out.size)⟩
set_option maxRecDepth 100000 in
set_option maxHeartbeats 1000000 in
theorem execs_nil (cs : Array Value) (hc : CpuOk cs) (A : Option Addr) (cap : Nat) (l : Int) (w : World) (hT : Tab w) :
    Calls Tryd.prog 7 #[.agg cs, .slice A 0 cap, .int .u32 l] w fun e w' => e = .returned (.bool true) ∧ Below w.heap.size w w' := by
  have HB : Hid (Below w.heap.size w (w.alloc (.cells cs 25))) := (Below.refl _ _).alloc (Nat.le_refl _) _
  have HT : Hid (∀ W, Below w.heap.size w W → Tab W) := fun W hB => hT.below hB hT.lt
  clear hT
  go_enter Tryd.func7, Tryd.ntmps7
  go_wp2_with fail
  go_loop [7] (fun i => i = .int .i64 0) (fun _ => 0)
  case atStart => rfl
  case round =>
    obtain rfl := hrel
    go_wp2_with fail
    refine (shown_any _ (HT.out _ HB.out)).mono ?_
    rintro e w2 ⟨rfl, hb2⟩
    go_wp2_with fail
    go_ret
    exact ⟨rfl, HB.out.trans (hb2.mono HB.out.size)⟩
def cpuExecsAts : List Gen.AT := [.agg [.int .u32, .int .u32, .int .u32, .int .u32, .int .u32, .int .u32, .int .u32, .int .u32, .int .u32, .int .u32, .int .u32, .int .u32, .int .u32, .int .u32, .int .u32, .int .u32, .int .u32, .bool, .bool, .bool, .bool, .int .u32], .one (.slice 56 [.int .i64, .bool, .bool, .int .i64, .int .i64, .int .i64, .int .i64, .int .i64]), .one (.int .u32)]
theorem cpuExecs_args (W : World) (vs : List Value) (h : Gen.ArgsGood W cpuExecsAts vs) (hT : Tab W) :
    Calls Tryd.prog 7 vs.toArray W fun e W' => e = .returned (.bool true) ∧ Below W.heap.size W W' := by
  match vs, h with
  | [v0, v1, v2], h =>
    obtain ⟨hc, h0, hl, _⟩ := h
    obtain ⟨cs, rfl, hg⟩ := hc
    have hc := cpu_inv hg
    obtain ⟨A, len, cap, V, rfl, hle, hm, hrb, hR⟩ := Gen.Good.slice_inv h0
    obtain ⟨l, rfl, hw⟩ := Gen.Good.int_inv hl
    have hlb := bounds_u32 hw
    unfold maxLen at hm
    have hrb' : cap * 56 ≤ 140737488351232 := hrb
    by_cases hl : len = 0
    · subst hl; exact execs_nil _ hc A cap l W hT
    · obtain ⟨g, off, rfl, hg, hcl⟩ := insAt_of_row hR (by omega)
      exact execs_some _ hc g off len cap l (by omega) (by omega) W (by omega) (by omega) hg (fun i hi => hcl i (by omega)) hT
end Go.Proofs.YtnghhkageiceaaaDoor
