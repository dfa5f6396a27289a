/- From. -/
import Derived.Test.YtegiabnlmngkmaaDiskAA
namespace Go.Proofs.Ytegiabnlmngkmaa
open Go Go.RowKit Go.Lib
set_option linter.unusedVariables false
set_option linter.unusedSimpArgs false
theorem from_no (A : Option Addr) (n cap : Nat) (hn : n ≤ 1000000000000000) (h : ¬ ((8 ≤ n / 1024 ∧ n / 1024 ≤ 1024) ∧ n % 1024 = 0)) (w : World) :
    Calls Try.prog 21 #[.slice A n cap] w fun e w' => e = .returned (.tuple #[.pointer none, .int .i64 30]) ∧ Below w.heap.size w w' := by
  by_cases hs : 8 ≤ n / 1024 ∧ n / 1024 ≤ 1024
  · have hm : ((n : Int) % 1024 == 0) = false := by simpa using fun e => h ⟨hs, by omega⟩
    have HS := Lib.hid hs
    have HB0 : Hid (Below w.heap.size w w) := Below.refl _ _
    clear h hs
    go_enter Try.func21, Try.ntmps21
    go_wp2_with (first | (go_at_call 10; go_must (refine (new_yes ((n : Int) / 1024) _ (by have := HS.out; omega) (by have := HS.out; omega)).mono ?_); rintro e w1 ⟨d, s, rfl, D, hb1⟩))
    all_goals
      go_ret2
      exact ⟨rfl, hb1⟩
  · have HS : Hid (¬ (8 ≤ (n : Int) / 1024 ∧ (n : Int) / 1024 ≤ 1024)) := by show ¬ _; omega
    clear h hs
    go_enter Try.func21, Try.ntmps21
    go_wp2_with (first | (go_at_call 10; go_must (refine (new_no ((n : Int) / 1024) _ HS.out).mono ?_); rintro e w1 ⟨rfl, rfl⟩))
    all_goals
      go_ret2
      exact ⟨rfl, Below.refl _ _⟩
/-- What the loop has copied. -/
def fsec (l : List UInt8) (k : Nat) : Nat → ByteArray := fun i => if i < k then secL l i else nought
theorem fsec_succ (l : List UInt8) (k : Nat) : upd (fsec l k) k (secL l k) = fsec l (k + 1) := by
  funext i
  unfold upd fsec
  by_cases h : i = k
  · subst h; rw [if_pos rfl, if_pos (by omega)]
  · rw [if_neg h]
    by_cases h2 : i < k
    · rw [if_pos h2, if_pos (by omega)]
    · rw [if_neg h2, if_neg (by omega)]
theorem u8_one : (Try.prog.info? 5).map (·.size) = some 1 := by kernel_rfl
set_option maxHeartbeats 1000000 in
theorem from_yes (g : Nat) (l : List UInt8) (N M cap : Nat) (hM : M = N * 1024) (hl : l.length = N * 1024) (h8 : 8 ≤ N) (h9 : N ≤ 1024) (hcap : M ≤ cap) (w : World) (hr : w.rangeAt g 0 (strCells (ofL l))) :
    Calls Try.prog 21 #[.slice (some ⟨g, 0, none⟩) M cap] w fun e w' => ∃ d s, e = .returned (.tuple #[.pointer (some ⟨d, 0, none⟩), .int .i64 0]) ∧ DiskAt w' w.heap.size d s (.slice none 0 0) N (fsec l N) [] ∧ Below w.heap.size w w' := by
  have HM := Lib.hid hM
  have hm : ((M : Int) % 1024 != 0) = false := by simp; omega
  have hMn : M ≤ 1000000000000000 := by omega
  have HL := Lib.hid hl
  have H8 := Lib.hid h8
  have H9 := Lib.hid h9
  have HR := Lib.hid hr
  have HCP := Lib.hid hcap
  clear hM hl h8 h9 hr hcap
  go_enter Try.func21, Try.ntmps21
  go_wp2_with (first | (go_at_call 10; go_must (refine (new_yes ((M : Int) / 1024) _ (by have := HM.out; have := H8.out; omega) (by have := HM.out; have := H9.out; omega)).mono ?_); rintro e w1 ⟨d, s, rfl, D, hb1⟩; rw [show ((M : Int) / 1024).toNat = N from by have := HM.out; omega] at D; obtain ⟨capS, c0⟩ := D.c0))
  have hf0 : DiskAt w1 w.heap.size d s (.slice none 0 0) N (fsec l 0) [] := by
    have e : fsec l 0 = fun _ => nought := by funext i; simp [fsec]
    rw [e]; exact D
  have HD1 := Lib.hid hf0
  have HB1 := Lib.hid hb1
  clear D hf0 hb1
  go_loopw [27] (fun i wr => ∃ k : Nat, k ≤ N ∧ i = .int .i64 k ∧ Hid (DiskAt wr w.heap.size d s (.slice none 0 0) N (fsec l k) [] ∧ wr.cell? ⟨d, 0, none⟩ = some (.slice (some ⟨s, 0, none⟩) N capS) ∧ Below w.heap.size w wr)) (fun i _ => N - (intOf i).toNat)
  case atStart => exact ⟨0, by omega, rfl, HD1.out, c0, HB1.out⟩
  case round =>
    obtain ⟨k, hk, rfl, HX⟩ := hrel
    obtain ⟨D, cc, hB⟩ := HX.out
    by_cases hlt : k < N
    · have hk2 : (k : Int) < (N : Int) := by omega
      have hkm : IntKind.i64.wrap ((k : Int) * 1024) = (k : Int) * 1024 := IntWalk.i64_in _ (by have := H9.out; omega)
      have hkw : IntKind.i64.wrap ((k : Int) + 1) = (k : Int) + 1 := IntWalk.i64_in _ (by have := H9.out; omega)
      have hk4 : (0 : Int) ≤ (k : Int) * 1024 := by omega
      have hk5 : (k : Int) * 1024 ≤ (M : Int) := by have := HM.out; omega
      have hkt : ((k : Int) * 1024).toNat = k * 1024 := by omega
      have hkc : ¬ cap = k * 1024 := by have := HCP.out; have := HM.out; omega
      have hk6 : (M : Int) ≤ (cap : Int) := by have := HCP.out; omega
      have HD := Lib.hid D
      have HB := Lib.hid hB
      have HKL := Lib.hid hlt
      have ccd : wr.drew.cell? ⟨d, 0, none⟩ = some (.slice (some ⟨s, 0, none⟩) N capS) := cc
      clear D hB HX hlt HD1 HB1
      go_upto_region 7 with fail
      refine wp_region_held_drew (S := fun w' => w'.cell? ⟨d, 0, none⟩ = some (.slice (some ⟨s, 0, none⟩) N capS)) (by kernel_rfl) ccd (fun hHeld => ?_)
      refine wpAnyH_take (i := 0) (oi := _) (v := ?v0_1) rfl (by kernel_rfl) (by kernel_rfl) (by kernel_rfl) (fun _ _ _ h => h) (Or.inl ⟨by rfl, ?hy0_1⟩) (by assumption) ?rest0_1
      case hy0_1 => (intro wq hSw; (try dsimp only at hSw); simp only [List.getElem_toArray, List.getElem_cons_zero, List.getElem_cons_succ]; go_simp; try with_reducible rfl)
      simp only [Act.put, List.getElem_toArray, List.getElem_cons_zero, List.getElem_cons_succ, List.setIfInBounds_toArray, List.set_cons_zero, List.set_cons_succ]
      refine wpAnyH_take (i := 1) (oi := _) (v := ?v1_2) rfl (by kernel_rfl) (by kernel_rfl) (by kernel_rfl) (fun _ _ _ h => h) (Or.inl ⟨by rfl, ?hy1_2⟩) (by assumption) ?rest1_2
      case hy1_2 => (intro wq hSw; (try dsimp only at hSw); simp only [List.getElem_toArray, List.getElem_cons_zero, List.getElem_cons_succ]; go_simp; try with_reducible rfl)
      simp only [Act.put, List.getElem_toArray, List.getElem_cons_zero, List.getElem_cons_succ, List.setIfInBounds_toArray, List.set_cons_zero, List.set_cons_succ]
      refine wpAnyH_take (i := 2) (oi := _) (v := ?v2_3) rfl (by kernel_rfl) (by kernel_rfl) (by kernel_rfl) (fun _ _ _ h => h) (Or.inl ⟨by rfl, ?hy2_3⟩) (by assumption) ?rest2_3
      case hy2_3 => (intro wq hSw; (try dsimp only at hSw); simp only [List.getElem_toArray, List.getElem_cons_zero, List.getElem_cons_succ]; go_simp; try with_reducible rfl)
      simp only [Act.put, List.getElem_toArray, List.getElem_cons_zero, List.getElem_cons_succ, List.setIfInBounds_toArray, List.set_cons_zero, List.set_cons_succ]
      refine wpAnyH_take (i := 3) (oi := _) (v := ?v3_4) rfl (by kernel_rfl) (by kernel_rfl) (by kernel_rfl) (fun _ _ _ h => h) (Or.inl ⟨by rfl, ?hy3_4⟩) (by assumption) ?rest3_4
      case hy3_4 => (intro wq hSw; (try dsimp only at hSw); simp only [List.getElem_toArray, List.getElem_cons_zero, List.getElem_cons_succ]; go_simp; try with_reducible rfl)
      simp only [Act.put, List.getElem_toArray, List.getElem_cons_zero, List.getElem_cons_succ, List.setIfInBounds_toArray, List.set_cons_zero, List.set_cons_succ]
      refine wpAnyH_take (i := 4) (oi := _) (v := ?v4_5) rfl (by kernel_rfl) (by kernel_rfl) (by kernel_rfl) (fun _ _ _ h => h) (Or.inl ⟨by rfl, ?hy4_5⟩) (by assumption) ?rest4_5
      case hy4_5 => (intro wq hSw; (try dsimp only at hSw); simp only [List.getElem_toArray, List.getElem_cons_zero, List.getElem_cons_succ]; go_simp; try with_reducible rfl)
      simp only [Act.put, List.getElem_toArray, List.getElem_cons_zero, List.getElem_cons_succ, List.setIfInBounds_toArray, List.set_cons_zero, List.set_cons_succ]
      refine wpAnyH_take (i := 5) (oi := _) (v := ?v5_6) rfl (by kernel_rfl) (by kernel_rfl) (by kernel_rfl) (fun _ _ _ h => h) (Or.inl ⟨by rfl, ?hy5_6⟩) (by assumption) ?rest5_6
      case hy5_6 => (intro wq hSw; (try dsimp only at hSw); simp only [List.getElem_toArray, List.getElem_cons_zero, List.getElem_cons_succ]; go_simp; try with_reducible rfl)
      simp only [Act.put, List.getElem_toArray, List.getElem_cons_zero, List.getElem_cons_succ, List.setIfInBounds_toArray, List.set_cons_zero, List.set_cons_succ]
      refine wpAnyH_take (i := 6) (oi := _) (v := ?v6_7) rfl (by kernel_rfl) (by kernel_rfl) (by kernel_rfl) (fun _ _ _ h => h) (Or.inl ⟨by rfl, ?hy6_7⟩) (by assumption) ?rest6_7
      case hy6_7 => (intro wq hSw; (try dsimp only at hSw); simp only [List.getElem_toArray, List.getElem_cons_zero, List.getElem_cons_succ]; go_simp; try with_reducible rfl)
      simp only [Act.put, List.getElem_toArray, List.getElem_cons_zero, List.getElem_cons_succ, List.setIfInBounds_toArray, List.set_cons_zero, List.set_cons_succ]
      refine wpAnyH_take (i := 7) (oi := _) (v := ?v7_8) rfl (by kernel_rfl) (by kernel_rfl) (by kernel_rfl) (fun _ _ _ h => h) (Or.inl ⟨by rfl, ?hy7_8⟩) (by assumption) ?rest7_8
      case hy7_8 => (intro wq hSw; (try dsimp only at hSw); simp only [List.getElem_toArray, List.getElem_cons_zero, List.getElem_cons_succ]; go_simp; try with_reducible rfl)
      simp only [Act.put, List.getElem_toArray, List.getElem_cons_zero, List.getElem_cons_succ, List.setIfInBounds_toArray, List.set_cons_zero, List.set_cons_succ]
      refine wpAnyH_take (i := 8) (oi := _) (v := ?v8_9) rfl (by kernel_rfl) (by kernel_rfl) (by kernel_rfl) (fun _ _ _ h => h) (Or.inl ⟨by rfl, ?hy8_9⟩) (by assumption) ?rest8_9
      case hy8_9 => (intro wq hSw; (try dsimp only at hSw); simp only [List.getElem_toArray, List.getElem_cons_zero, List.getElem_cons_succ]; go_simp; try with_reducible rfl)
      simp only [Act.put, List.getElem_toArray, List.getElem_cons_zero, List.getElem_cons_succ, List.setIfInBounds_toArray, List.set_cons_zero, List.set_cons_succ]
      refine wpAnyH_take (i := 9) (oi := _) (v := ?v9_10) rfl (by kernel_rfl) (by kernel_rfl) (by kernel_rfl) (fun _ _ _ h => h) (Or.inl ⟨by rfl, ?hy9_10⟩) (by assumption) ?rest9_10
      case hy9_10 => (intro wq hSw; (try dsimp only at hSw); simp only [List.getElem_toArray, List.getElem_cons_zero, List.getElem_cons_succ]; go_simp; try with_reducible rfl)
      simp only [Act.put, List.getElem_toArray, List.getElem_cons_zero, List.getElem_cons_succ, List.setIfInBounds_toArray, List.set_cons_zero, List.set_cons_succ]
      refine wpAnyH_take (i := 10) (oi := _) (v := ?v10_11) rfl (by kernel_rfl) (by kernel_rfl) (by kernel_rfl) (fun _ _ _ h => h) (Or.inl ⟨by rfl, ?hy10_11⟩) (by assumption) ?rest10_11
      case hy10_11 => (intro wq hSw; (try dsimp only at hSw); simp only [List.getElem_toArray, List.getElem_cons_zero, List.getElem_cons_succ]; go_simp; try with_reducible rfl)
      simp only [Act.put, List.getElem_toArray, List.getElem_cons_zero, List.getElem_cons_succ, List.setIfInBounds_toArray, List.set_cons_zero, List.set_cons_succ]
      have HR2 := Lib.hid ((Touch.of_below HB.out.drew []).range HR.out (by simp))
      have HT2 := Lib.hid ((HD.out.below (below_drew wr)).there k HKL.out)
      have HSZ := Lib.hid (secL_size l N k HL.out HKL.out)
      refine wpAnyH_ready (rs := [11]) (by kernel_rfl) (by simp) ?_
      refine AllReadyH.cons (o := _) rfl (fun K hK => ?_) AllReadyH.nil
      refine step_copy_cells rfl _ _ 30 30 rfl 5 Try.underlying30 u8_one s (k * 1024) 1024 1024 ⟨g, k * 1024, none⟩ (M - k * 1024) (cap - k * 1024) rfl rfl (strCells (secL l k)) ?hn ?hsrc ?ht (strCells_oneCell _) ?_
      case hn => rw [strCells_length, HSZ.out]; have := HM.out; have := HKL.out; show 1024 = min _ _; omega
      case hsrc =>
        intro j v hj
        rw [Addr.add_mid]
        have := secL_range HR2.out N k HL.out HKL.out j v hj
        rw [Nat.zero_add] at this
        exact this
      case ht => rw [strCells_length, HSZ.out]; exact HT2.out
      have hds := HD.out.ds
      have ccs : (wr.drew.setCells s (k * 1024) (strCells (secL l k))).cell? ⟨d, 0, none⟩ = some (.slice (some ⟨s, 0, none⟩) N capS) := (Touch.setCells s _ _ _).cell ccd (by simpa using hds)
      refine hK.out _ _ ccs (fun _ => ?_)
      refine wpAnyH_done (by kernel_rfl) ?_ _
      have hD2 : DiskAt (wr.drew.setCells s (k * 1024) (strCells (secL l k))) w.heap.size d s (.slice none 0 0) N (fsec l (k + 1)) [] := by
        rw [← fsec_succ]; exact store_disk (HD.out.below (below_drew wr)) k HKL.out (secL l k) HSZ.out
      have HD2 := Lib.hid hD2
      have HB2 := Lib.hid (HB.out.drew.trans ((Touch.setCells s (strCells (secL l k)) (k * 1024) wr.drew).below (B := w.heap.size) HB.out.drew.size (fun x hx => by simp only [List.mem_singleton] at hx; rw [hx]; exact HD.out.bs)))
      clear hD2 HD HB HR2 HT2 hk5 hk6 hkc hkt hk4
      go_wp2_with fail
      go_roundw
      case rel => exact ⟨k + 1, by have := HKL.out; omega, by go_num, HD2.out, ccs, HB2.out⟩
      case measure => have := HKL.out; simp [intOf]; omega
    · obtain rfl : k = N := by omega
      clear hk hlt HX
      have HDf := Lib.hid D
      have HBf := Lib.hid hB
      clear D hB
      go_wp2_with fail
      go_ret2
      exact ⟨_, _, rfl, HDf.out, HBf.out⟩
end Go.Proofs.Ytegiabnlmngkmaa
