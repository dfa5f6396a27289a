/- A sector is what was written there last. -/
import Derived.Test.YtegiabnlmngkmaaDiskH
import Derived.Deep.RegionHeld3
import Derived.Deep.Cut
import Derived.WalkSpells
import Derived.Lib.Hide
namespace Go.Proofs.Ytegiabnlmngkmaa
open Go Go.RowKit Go.Lib
set_option linter.unusedVariables false
set_option linter.unusedSimpArgs false
attribute [local go_sem ↓] exec_load_step
theorem boxes_set (w : World) {w1 w2 : World} {d s : Nat} {k1 n1 : Int} {f1 m1 : UInt8} {l1 k2 n2 : Int} {f2 m2 : UInt8} {l2 : Int}
    (hb1 : Below ((w.alloc (.cells #[.int .i64 k1, .int .i64 n1, .int .u8 f1.toNat, .int .u8 m1.toNat, .int .i64 l1] 23 (0, 0))).alloc (.cells #[.int .i64 k2, .int .i64 n2, .int .u8 f2.toNat, .int .u8 m2.toNat, .int .i64 l2] 23 (0, 0))).heap.size ((w.alloc (.cells #[.int .i64 k1, .int .i64 n1, .int .u8 f1.toNat, .int .u8 m1.toNat, .int .i64 l1] 23 (0, 0))).alloc (.cells #[.int .i64 k2, .int .i64 n2, .int .u8 f2.toNat, .int .u8 m2.toNat, .int .i64 l2] 23 (0, 0))) w1)
    (hb2 : Below w1.heap.size w1 w2) {N : Nat} {sec : Nat → ByteArray} (D : DiskAt w2 w1.heap.size d s (.slice none 0 0) N sec []) :
    w2.cell? ⟨w.heap.size, 4, none⟩ = some (.int .i64 l1) ∧ w2.frozen? ⟨w.heap.size, 4, none⟩ = false ∧ w2.cell? ⟨w.heap.size + 1, 4, none⟩ = some (.int .i64 l2) ∧ w2.frozen? ⟨w.heap.size + 1, 4, none⟩ = false ∧
    StepAt ((w2.setCell ⟨w.heap.size, 4, none⟩ (.int .i64 (-1))).setCell ⟨w.heap.size + 1, 4, none⟩ (.int .i64 (-1))) w.heap.size #[.int .i64 k1, .int .i64 n1, .int .u8 f1.toNat, .int .u8 m1.toNat, .int .i64 (-1)] ∧
    StepAt ((w2.setCell ⟨w.heap.size, 4, none⟩ (.int .i64 (-1))).setCell ⟨w.heap.size + 1, 4, none⟩ (.int .i64 (-1))) (w.heap.size + 1) #[.int .i64 k2, .int .i64 n2, .int .u8 f2.toNat, .int .u8 m2.toNat, .int .i64 (-1)] ∧
    DiskAt ((w2.setCell ⟨w.heap.size, 4, none⟩ (.int .i64 (-1))).setCell ⟨w.heap.size + 1, 4, none⟩ (.int .i64 (-1))) (w.heap.size + 2) d s (.slice none 0 0) N sec [] ∧
    Below w.heap.size w ((w2.setCell ⟨w.heap.size, 4, none⟩ (.int .i64 (-1))).setCell ⟨w.heap.size + 1, 4, none⟩ (.int .i64 (-1))) := by
  have a1 := (((StepAt.new w #[.int .i64 k1, .int .i64 n1, .int .u8 f1.toNat, .int .u8 m1.toNat, .int .i64 l1]).alloc (.cells #[.int .i64 k2, .int .i64 n2, .int .u8 f2.toNat, .int .u8 m2.toNat, .int .i64 l2] 23 (0, 0))).below hb1 (by simp; omega))
  have a2 := (StepAt.two w #[.int .i64 k2, .int .i64 n2, .int .u8 f2.toNat, .int .u8 m2.toNat, .int .i64 l2] #[.int .i64 k1, .int .i64 n1, .int .u8 f1.toNat, .int .u8 m1.toNat, .int .i64 l1]).below hb1 (by simp)
  have a1' := a1.below hb2 a1.lt
  have a2' := a2.below hb2 a2.lt
  have hsz : w.heap.size + 2 ≤ w1.heap.size := by have := hb1.size; simp at this; omega
  have hbd := D.bd
  have hbs := D.bs
  refine ⟨a1'.cell 4, a1'.frozen 4, a2'.cell 4, a2'.frozen 4, ?_, ?_, ?_, ?_⟩
  · exact (a1'.set 4 (.int .i64 (-1))).touch (Touch.set _ _ _) (by simp)
  · exact (a2'.touch (Touch.set w2 ⟨w.heap.size, 4, none⟩ (.int .i64 (-1))) (by simp)).set 4 (.int .i64 (-1))
  · have D3 := (D.touch (Touch.set w2 ⟨w.heap.size, 4, none⟩ (.int .i64 (-1))) (by simp; omega) (by simp; omega) (by simp [Value.ownBlock])).touch (Touch.set _ ⟨w.heap.size + 1, 4, none⟩ (.int .i64 (-1))) (by simp; omega) (by simp; omega) (by simp [Value.ownBlock])
    exact { D3 with bd := by omega, bs := by omega, writes := ⟨rfl, .inl ⟨rfl, rfl⟩⟩ }
  · have h1 : Below w.heap.size w w1 := (((Below.refl w.heap.size w).alloc (Nat.le_refl _) _).alloc (by simp) _).trans (hb1.mono (by simp; omega))
    exact ((h1.trans (hb2.mono h1.size)).setCell (Nat.le_refl _) _).setCell (by simp) _
/-- The disk and the two steps in their boxes. -/
structure St (w0 w : World) (d s : Nat) (v : Value) (sec : Nat → ByteArray) (ws : List (Nat × ByteArray)) (c1 c2 : Array Value) : Prop where
  D : DiskAt w (w0.heap.size + 2) d s v 16 sec ws
  e1 : StepAt w w0.heap.size c1
  e2 : StepAt w (w0.heap.size + 1) c2
  hB : Below w0.heap.size w0 w
section
variable {w0 w : World} {d s : Nat} {v : Value} {sec : Nat → ByteArray} {ws : List (Nat × ByteArray)} {c1 c2 : Array Value}
theorem St.below (h : St w0 w d s v sec ws c1 c2) {w' : World} (b : Below w.heap.size w w') : St w0 w' d s v sec ws c1 c2 :=
  ⟨h.D.below b, h.e1.below b h.e1.lt, h.e2.below b h.e2.lt, h.hB.trans (b.mono h.hB.size)⟩
theorem St.row (h : St w0 w d s v sec ws c1 c2) : ∀ g ∈ drow d s v, w0.heap.size + 2 ≤ g ∧ g < w.heap.size := fun g hg => by
  simp only [drow, List.mem_cons, Option.mem_toList] at hg
  rcases hg with rfl | rfl | hg
  · exact ⟨h.D.bd, h.D.dlt⟩
  · exact ⟨h.D.bs, h.D.slt⟩
  · have := h.D.vlt g hg
    omega
theorem St.write (h : St w0 w d s v sec ws c1 c2) (n : Nat) (hn : n < 16) (few : ws.length < 4096) (g : Nat) (l : List UInt8) (hl : l.length = 1024) (hb : BytesAt w g l) (hg : w.heap.size ≤ g ∨ g ∉ drow d s v) :
    Calls Try.prog 11 #[.pointer (some ⟨d, 0, none⟩), .int .i64 (n : Int), .slice (some ⟨g, 0, none⟩) 1024 1024] w fun e w' => e = .returned (.int .i64 0) ∧ ∃ v', St w0 w' d s v' (upd sec n (ofL l)) (ws ++ [(n, sec n)]) c1 c2 := by
  have hg' : g ∉ drow d s v := by
    rcases hg with hg | hg
    · intro hm; have := (h.row g hm).2; omega
    · exact hg
  refine (write_bytes h.D n hn few g l hl hb hg').mono ?_
  rintro e w' ⟨rfl, v', D', T, hv'⟩
  refine ⟨rfl, v', D', h.e1.touch T (fun hm => by have := (h.row _ hm).1; omega), h.e2.touch T (fun hm => by have := (h.row _ hm).1; omega), h.hB.trans (T.below h.hB.size (fun g hg => by have := (h.row _ hg).1; omega))⟩
theorem St.write_no (h : St w0 w d s v sec ws c1 c2) (n : Int) (h0 : -9223372036854775808 ≤ n ∧ n ≤ 9223372036854775807) (hn : ¬ (0 ≤ n ∧ n < 16)) (g : Nat) :
    Calls Try.prog 11 #[.pointer (some ⟨d, 0, none⟩), .int .i64 n, .slice (some ⟨g, 0, none⟩) 1024 1024] w fun e w' => e = .returned (.int .i64 31) ∧ w = w' :=
  write_bytes_no h.D n h0 (by exact hn) _ _ _ (by decide)
theorem St.filled (h : St w0 w d s v sec ws c1 c2) (k n : Int) (f m : UInt8) :
    Calls Try.prog 12 #[.agg #[.int .i64 k, .int .i64 n, .int .u8 f.toNat, .int .u8 m.toNat, .int .i64 (-1)]] w fun e w' =>
      ∃ g, e = .returned (.slice (some ⟨g, 0, none⟩) 1024 1024) ∧ w.heap.size ≤ g ∧ g ∉ drow d s v ∧ BytesAt w' g (stepBytes f m (-1)) ∧ St w0 w' d s v sec ws c1 c2 ∧ Below w.heap.size w w' := by
  refine (filled_any k n f m (-1) w).mono ?_
  rintro e w' ⟨g, rfl, h1, h2, h3⟩
  exact ⟨g, rfl, h1, fun hm => by have := (h.row _ hm).2; omega, h2, h.below h3, h3⟩
theorem St.read (h : St w0 w d s v sec ws c1 c2) (n : Nat) (hn : n < 16) :
    Calls Try.prog 13 #[.pointer (some ⟨d, 0, none⟩), .int .i64 (n : Int)] w fun e w' => ∃ g, e = .returned (.tuple #[.slice (some ⟨g, 0, none⟩) 1024 1024, .int .i64 0]) ∧ w'.rangeAt g 0 (strCells (sec n)) ∧ St w0 w' d s v sec ws c1 c2 ∧ Below w.heap.size w w' := by
  refine (read_yes h.D n hn).mono ?_
  rintro e w' ⟨rfl, rfl⟩
  have hb := (Below.refl w.heap.size w).alloc (Nat.le_refl _) (.cells (strCells (sec n)).toArray 63 (0, 0))
  exact ⟨_, rfl, read_range _ _ _, h.below hb, hb⟩
theorem St.read_no (h : St w0 w d s v sec ws c1 c2) (n : Int) (h0 : -9223372036854775808 ≤ n ∧ n ≤ 9223372036854775807) (hn : ¬ (0 ≤ n ∧ n < 16)) :
    Calls Try.prog 13 #[.pointer (some ⟨d, 0, none⟩), .int .i64 n] w fun e w' => e = .returned (.tuple #[.slice none 0 0, .int .i64 31]) ∧ w = w' :=
  _root_.Go.Proofs.Ytegiabnlmngkmaa.read_no h.D n h0 hn
end
theorem Hid_drew {B : Nat} {a w : World} (h : Hid (Below B a w)) : Hid (Below B a w.drew) := h.out.drew
theorem wpAnyH_strong {P : Program} {md : Region.Mode} {ops : Array Oper} {Q : Exit → Act → World → Prop} {S S' : World → Prop} (h : ∀ w, S' w → S w) :
    ∀ (fuel : Nat) (listed : Array Bool) (a : Act) (w : World), wpAnyH P md ops Q S' fuel listed a w → wpAnyH P md ops Q S fuel listed a w
  | 0, _, _, _, k => k
  | fuel + 1, _, _, _, k => ⟨k.1, fun i hi => wpOp_mono (fun a' w' hh => ⟨h w' hh.1, wpAnyH_strong h fuel _ a' w' hh.2⟩) (k.2 i hi)⟩
theorem hid_trans {B : Nat} {w0 w w' : World} (h : Hid (Below B w0 w)) (k : Below w.heap.size w w') (hB : B = w0.heap.size) : Hid (Below B w0 w') := h.out.trans (k.mono (by rw [hB]; exact h.out.size))
theorem bytes_heap {w w' : World} {g : Nat} {l : List UInt8} (h : BytesAt w g l) (b : w'.heap = w.heap) : BytesAt w' g l := by unfold BytesAt at h ⊢; rw [b]; exact h
theorem range_heap {w w' : World} {g : Nat} {cs : List Value} (h : w.rangeAt g 0 cs) (b : w'.heap = w.heap) : w'.rangeAt g 0 cs := fun j v hj => by rw [World.cell?_of_block (w := w) (by rw [b])]; exact h j v hj
theorem range_below {w w' : World} {g : Nat} {cs : List Value} (h : w.rangeAt g 0 cs) (b : Below w.heap.size w w') : w'.rangeAt g 0 cs := (Touch.of_below b []).range h (by simp)
theorem bytes_below {w w' : World} {g : Nat} {l : List UInt8} (h : BytesAt w g l) (b : Below w.heap.size w w') : BytesAt w' g l := h.below b h.lt
set_option maxHeartbeats 1000000 in
theorem last_ieq (n : Nat) (hn : n < 16)
    (k1 n1 : Int) (f1 m1 : UInt8) (l1 : Int) (k2 n2 : Int) (f2 m2 : UInt8) (l2 : Int) (w : World) :
    Calls Try.prog 3 #[.int .i64 (n : Int), .int .i64 (n : Int), .agg #[.int .i64 k1, .int .i64 n1, .int .u8 f1.toNat, .int .u8 m1.toNat, .int .i64 l1], .agg #[.int .i64 k2, .int .i64 n2, .int .u8 f2.toNat, .int .u8 m2.toNat, .int .i64 l2]] w fun e w' => e = .returned (.bool true) ∧ Below w.heap.size w w' := by
  have hld1 := fun (w' : World) (h : StepAt w' w.heap.size #[.int .i64 k1, .int .i64 n1, .int .u8 f1.toNat, .int .u8 m1.toNat, .int .i64 (-1)]) => load_step w' _ _ rfl h
  have hld2 := fun (w' : World) (h : StepAt w' (w.heap.size + 1) #[.int .i64 k2, .int .i64 n2, .int .u8 f2.toNat, .int .u8 m2.toNat, .int .i64 (-1)]) => load_step w' _ _ rfl h
  go_enter Try.func3, Try.ntmps3
  go_upto_region 7 with (first | (go_at_call 9; refine (shown_any _).mono ?_; rintro e w1 ⟨rfl, hb1⟩) | (go_at_call 10; refine (new_yes 16 _ (by decide) (by decide)).mono ?_; rintro e w2 ⟨d, s, rfl, D, hb2⟩; go_must (obtain ⟨b1, b2, c1, c2, e1, e2, D3, hB3⟩ := boxes_set w hb1 hb2 D)))
  generalize (w2.setCell ⟨w.heap.size, 4, none⟩ (.int .i64 (-1))).setCell ⟨w.heap.size + 1, 4, none⟩ (.int .i64 (-1)) = w3 at *
  have H3 := Lib.hid (St.mk D3 e1 e2 hB3)
  clear hb1 hb2 D b1 b2 c1 c2 D3 hB3 e2
  have L1 : (stepBytes f1 m1 (-1)).length = 1024 := stepBytes_len _ _ _
  have L2 : (stepBytes f2 m2 (-1)).length = 1024 := stepBytes_len _ _ _
  generalize hs1 : stepBytes f1 m1 (-1) = S1 at *
  generalize hs2 : stepBytes f2 m2 (-1) = S2 at *
  go_upto_region 8 with (first | (go_at_call 12; go_must (refine (H3.out.filled _ _ _ _).mono ?_); rintro e w4 ⟨g1, rfl, q1, q2, q3, q4, q5⟩; rw [hs1] at q3) | (go_at_call 11; go_must (refine (q4.write n hn (by simp) g1 S1 L1 q3 (.inr q2)).mono ?_); rintro e w5 ⟨rfl, v5, H5⟩))
  have e2' := H5.e2
  have HH5 := Lib.hid H5
  clear q1 q2 q3 q4 q5 H3 e1 H5
  go_upto_region 9 with (first | (go_at_call 12; go_must (refine (HH5.out.filled _ _ _ _).mono ?_); rintro e w6 ⟨g2, rfl, q1, q2, q3, q4, q5⟩; rw [hs2] at q3) | (go_at_call 11; go_must (refine (q4.write n hn (by simp) g2 S2 L2 q3 (.inr q2)).mono ?_); rintro e w7 ⟨rfl, v7, H7⟩))
  have HH7 := Lib.hid H7
  clear q1 q2 q3 q5 HH5 e2' q4 H7
  go_upto_region 10 with (first | (go_at_call 13; go_must (refine (HH7.out.read n hn).mono ?_); rintro e w8 ⟨ga, rfl, pr, ps, pb⟩))
  have HH8 := Lib.hid ps
  have AR := Lib.hid pr
  clear ps pr pb HH7
  go_upto_region 11 with (first | (go_at_call 13; go_must (refine (HH8.out.read n hn).mono ?_); rintro e w9 ⟨gb, rfl, qr, qs, qb⟩))
  have HH9 := Lib.hid qs
  have AR9 := Lib.hid (range_below AR.out qb)
  have BR := Lib.hid qr
  clear qs qr qb HH8 AR
  have hni : (n : Int) < 16 := by omega
  have hnj : (0 : Int) ≤ (n : Int) := by omega
  have e1' := HH9.out.e1
  have e2' := HH9.out.e2
  go_upto_region 16 with (first | (go_at_call 12; go_must (refine (HH9.out.filled _ _ _ _).mono ?_); rintro e w10 ⟨gf, rfl, x1, x2, x3, x4, x5⟩; rw [hs1] at x3))
  all_goals
    have HHa := Lib.hid x4
    have FR := Lib.hid x3
    have BX := Lib.hid x5
    have e2'' := x4.e2
    clear e1' e2' x1 x2 x3 x4 x5
    go_upto_region 18 with (first | (go_at_call 12; go_must (refine (HHa.out.filled _ _ _ _).mono ?_); rintro e w11 ⟨gh, rfl, x1, x2, x3, x4, x5⟩; rw [hs2] at x3))
  all_goals
    have HF := Lib.hid x4
    have HX := Lib.hid x5
    have hcf := fun (w' : World) (h : Hid (Below w11.heap.size w11 w')) => conv_bytes (cap := 1024) L2 (bytes_below x3 h.out)
    have e2F := x4.e2
    clear x1 x2 x3 x4 x5 e2'' FR
    have AX := fun (cs : List Value) (h : w9.rangeAt ga 0 cs) => range_below (range_below h BX.out) HX.out
    have BX2 := fun (cs : List Value) (h : w9.rangeAt gb 0 cs) => range_below (range_below h BX.out) HX.out
    obtain ⟨wf, hwf⟩ : ∃ wf, wf = w11 := ⟨_, rfl⟩
    have ha1 := AX _ AR9.out
    rw [show upd (upd (fun _ => nought) n (ofL S1)) n (ofL S2) n = ofL S2 from by unfold upd; simp] at ha1
    have HA1 := Lib.hid ha1
    clear ha1
    have hca := fun (w' : World) (h : Hid (Below w11.heap.size w11 w')) => conv_range w' ga 0 1024 1024 (ofL S2) (by rw [ofL_size, L2]) (range_below HA1.out h.out)
    have hb1 := BX2 _ BR.out
    rw [show upd (upd (fun _ => nought) n (ofL S1)) n (ofL S2) n = ofL S2 from by unfold upd; simp] at hb1
    have HB1 := Lib.hid hb1
    clear hb1
    have hcb := fun (w' : World) (h : Hid (Below w11.heap.size w11 w')) => conv_range w' gb 0 1024 1024 (ofL S2) (by rw [ofL_size, L2]) (range_below HB1.out h.out)
    have hld := fun (w' : World) (h : Hid (Below w11.heap.size w11 w')) => hld2 w' (e2F.below h.out e2F.lt)
    have HW : Hid (Below w11.heap.size w11 w11) := Below.refl _ _
    clear AX hld1 hld2 e2F hwf BX2
    have HWd := Hid_drew HW
    refine wp_region_held_drew (S := fun w' => Hid (Below w11.heap.size w11 w')) (by kernel_rfl) HWd (fun hHeld => ?_)
    refine wpAnyH_take (i := 0) (oi := _) (v := ?v0) rfl (by kernel_rfl) (by kernel_rfl) (by kernel_rfl) (fun _ _ _ h => h) (Or.inl ⟨by rfl, ?hy0⟩) (by assumption) ?rest0
    case hy0 => (intro wq hSw; (try dsimp only at hSw); simp only [List.getElem_toArray, List.getElem_cons_zero, List.getElem_cons_succ]; go_simp; try with_reducible rfl)
    simp only [Act.put, List.getElem_toArray, List.getElem_cons_zero, List.getElem_cons_succ, List.setIfInBounds_toArray, List.set_cons_zero, List.set_cons_succ]
    refine wpAnyH_take (i := 1) (oi := _) (v := ?v1) rfl (by kernel_rfl) (by kernel_rfl) (by kernel_rfl) (fun _ _ _ h => h) (Or.inl ⟨by rfl, ?hy1⟩) (by assumption) ?rest1
    case hy1 => (intro wq hSw; (try dsimp only at hSw); simp only [List.getElem_toArray, List.getElem_cons_zero, List.getElem_cons_succ]; go_simp; try with_reducible rfl)
    simp only [Act.put, List.getElem_toArray, List.getElem_cons_zero, List.getElem_cons_succ, List.setIfInBounds_toArray, List.set_cons_zero, List.set_cons_succ]
    refine wpAnyH_take (i := 2) (oi := _) (v := ?v2) rfl (by kernel_rfl) (by kernel_rfl) (by kernel_rfl) (fun _ _ _ h => h) (Or.inl ⟨by rfl, ?hy2⟩) (by assumption) ?rest2
    case hy2 => (intro wq hSw; (try dsimp only at hSw); simp only [List.getElem_toArray, List.getElem_cons_zero, List.getElem_cons_succ]; go_simp; try with_reducible rfl)
    simp only [Act.put, List.getElem_toArray, List.getElem_cons_zero, List.getElem_cons_succ, List.setIfInBounds_toArray, List.set_cons_zero, List.set_cons_succ]
    refine wpAnyH_take (i := 3) (oi := _) (v := ?v3) rfl (by kernel_rfl) (by kernel_rfl) (by kernel_rfl) (fun _ _ _ h => h) (Or.inl ⟨by rfl, ?hy3⟩) (by assumption) ?rest3
    case hy3 => (intro wq hSw; (try dsimp only at hSw); simp only [List.getElem_toArray, List.getElem_cons_zero, List.getElem_cons_succ]; go_simp; try with_reducible rfl)
    simp only [Act.put, List.getElem_toArray, List.getElem_cons_zero, List.getElem_cons_succ, List.setIfInBounds_toArray, List.set_cons_zero, List.set_cons_succ]
    refine wpAnyH_take (i := 4) (oi := _) (v := ?v4) rfl (by kernel_rfl) (by kernel_rfl) (by kernel_rfl) (fun _ _ _ h => h) (Or.inl ⟨by rfl, ?hy4⟩) (by assumption) ?rest4
    case hy4 => (intro wq hSw; (try dsimp only at hSw); simp only [List.getElem_toArray, List.getElem_cons_zero, List.getElem_cons_succ]; go_simp; try with_reducible rfl)
    simp only [Act.put, List.getElem_toArray, List.getElem_cons_zero, List.getElem_cons_succ, List.setIfInBounds_toArray, List.set_cons_zero, List.set_cons_succ]
    refine wpAnyH_take (i := 5) (oi := _) (v := ?v5) rfl (by kernel_rfl) (by kernel_rfl) (by kernel_rfl) (fun _ _ _ h => h) (Or.inl ⟨by rfl, ?hy5⟩) (by assumption) ?rest5
    case hy5 => (intro wq hSw; (try dsimp only at hSw); simp only [List.getElem_toArray, List.getElem_cons_zero, List.getElem_cons_succ]; go_simp; try with_reducible rfl)
    simp only [Act.put, List.getElem_toArray, List.getElem_cons_zero, List.getElem_cons_succ, List.setIfInBounds_toArray, List.set_cons_zero, List.set_cons_succ]
    refine wpAnyH_take (i := 6) (oi := _) (v := ?v6) rfl (by kernel_rfl) (by kernel_rfl) (by kernel_rfl) (fun _ _ _ h => h) (Or.inl ⟨by rfl, ?hy6⟩) (by assumption) ?rest6
    case hy6 => (intro wq hSw; (try dsimp only at hSw); simp only [List.getElem_toArray, List.getElem_cons_zero, List.getElem_cons_succ]; go_simp; try with_reducible rfl)
    simp only [Act.put, List.getElem_toArray, List.getElem_cons_zero, List.getElem_cons_succ, List.setIfInBounds_toArray, List.set_cons_zero, List.set_cons_succ]
    refine wpAnyH_take (i := 7) (oi := _) (v := ?v7) rfl (by kernel_rfl) (by kernel_rfl) (by kernel_rfl) (fun _ _ _ h => h) (Or.inl ⟨by rfl, ?hy7⟩) (by assumption) ?rest7
    case hy7 => (intro wq hSw; (try dsimp only at hSw); simp only [List.getElem_toArray, List.getElem_cons_zero, List.getElem_cons_succ]; go_simp; try with_reducible rfl)
    simp only [Act.put, List.getElem_toArray, List.getElem_cons_zero, List.getElem_cons_succ, List.setIfInBounds_toArray, List.set_cons_zero, List.set_cons_succ]
    refine wpAnyH_take (i := 8) (oi := _) (v := ?v8) rfl (by kernel_rfl) (by kernel_rfl) (by kernel_rfl) (fun _ _ _ h => h) (Or.inl ⟨by rfl, ?hy8⟩) (by assumption) ?rest8
    case hy8 => (intro wq hSw; (try dsimp only at hSw); simp only [List.getElem_toArray, List.getElem_cons_zero, List.getElem_cons_succ]; go_simp; try with_reducible rfl)
    simp only [Act.put, List.getElem_toArray, List.getElem_cons_zero, List.getElem_cons_succ, List.setIfInBounds_toArray, List.set_cons_zero, List.set_cons_succ]
    refine wpAnyH_take (i := 9) (oi := _) (v := ?v9) rfl (by kernel_rfl) (by kernel_rfl) (by kernel_rfl) (fun _ _ _ h => h) (Or.inl ⟨by rfl, ?hy9⟩) (by assumption) ?rest9
    case hy9 => (intro wq hSw; (try dsimp only at hSw); simp only [List.getElem_toArray, List.getElem_cons_zero, List.getElem_cons_succ]; go_simp; try with_reducible rfl)
    simp only [Act.put, List.getElem_toArray, List.getElem_cons_zero, List.getElem_cons_succ, List.setIfInBounds_toArray, List.set_cons_zero, List.set_cons_succ]
    refine wpAnyH_take (i := 10) (oi := _) (v := ?v10) rfl (by kernel_rfl) (by kernel_rfl) (by kernel_rfl) (fun _ _ _ h => h) (Or.inl ⟨by rfl, ?hy10⟩) (by assumption) ?rest10
    case hy10 => (intro wq hSw; (try dsimp only at hSw); simp only [List.getElem_toArray, List.getElem_cons_zero, List.getElem_cons_succ]; go_simp; try with_reducible rfl)
    simp only [Act.put, List.getElem_toArray, List.getElem_cons_zero, List.getElem_cons_succ, List.setIfInBounds_toArray, List.set_cons_zero, List.set_cons_succ]
    refine wpAnyH_take (i := 11) (oi := _) (v := ?v11) rfl (by kernel_rfl) (by kernel_rfl) (by kernel_rfl) (fun _ _ _ h => h) (Or.inl ⟨by rfl, ?hy11⟩) (by assumption) ?rest11
    case hy11 => (intro wq hSw; (try dsimp only at hSw); simp only [List.getElem_toArray, List.getElem_cons_zero, List.getElem_cons_succ]; go_simp; try with_reducible rfl)
    simp only [Act.put, List.getElem_toArray, List.getElem_cons_zero, List.getElem_cons_succ, List.setIfInBounds_toArray, List.set_cons_zero, List.set_cons_succ]
    refine wpAnyH_take (i := 12) (oi := _) (v := ?v12) rfl (by kernel_rfl) (by kernel_rfl) (by kernel_rfl) (fun _ _ _ h => h) (Or.inl ⟨by rfl, ?hy12⟩) (by assumption) ?rest12
    case hy12 => (intro wq hSw; (try dsimp only at hSw); simp only [List.getElem_toArray, List.getElem_cons_zero, List.getElem_cons_succ]; go_simp; try with_reducible rfl)
    simp only [Act.put, List.getElem_toArray, List.getElem_cons_zero, List.getElem_cons_succ, List.setIfInBounds_toArray, List.set_cons_zero, List.set_cons_succ]
    refine wpAnyH_take (i := 13) (oi := _) (v := ?v13) rfl (by kernel_rfl) (by kernel_rfl) (by kernel_rfl) (fun _ _ _ h => h) (Or.inl ⟨by rfl, ?hy13⟩) (by assumption) ?rest13
    case hy13 => (intro wq hSw; (try dsimp only at hSw); simp only [List.getElem_toArray, List.getElem_cons_zero, List.getElem_cons_succ]; go_simp; try with_reducible rfl)
    simp only [Act.put, List.getElem_toArray, List.getElem_cons_zero, List.getElem_cons_succ, List.setIfInBounds_toArray, List.set_cons_zero, List.set_cons_succ]
    refine wpAnyH_take (i := 14) (oi := _) (v := ?v14) rfl (by kernel_rfl) (by kernel_rfl) (by kernel_rfl) (fun _ _ _ h => h) (Or.inl ⟨by rfl, ?hy14⟩) (by assumption) ?rest14
    case hy14 => (intro wq hSw; (try dsimp only at hSw); simp only [List.getElem_toArray, List.getElem_cons_zero, List.getElem_cons_succ]; go_simp; try with_reducible rfl)
    simp only [Act.put, List.getElem_toArray, List.getElem_cons_zero, List.getElem_cons_succ, List.setIfInBounds_toArray, List.set_cons_zero, List.set_cons_succ]
    refine wpAnyH_take (i := 15) (oi := _) (v := ?v15) rfl (by kernel_rfl) (by kernel_rfl) (by kernel_rfl) (fun _ _ _ h => h) (Or.inl ⟨by rfl, ?hy15⟩) (by assumption) ?rest15
    case hy15 => (intro wq hSw; (try dsimp only at hSw); simp only [List.getElem_toArray, List.getElem_cons_zero, List.getElem_cons_succ]; go_simp; try with_reducible rfl)
    simp only [Act.put, List.getElem_toArray, List.getElem_cons_zero, List.getElem_cons_succ, List.setIfInBounds_toArray, List.set_cons_zero, List.set_cons_succ]
    refine wpAnyH_take (i := 16) (oi := _) (v := ?v16) rfl (by kernel_rfl) (by kernel_rfl) (by kernel_rfl) (fun _ _ _ h => h) (Or.inl ⟨by rfl, ?hy16⟩) (by assumption) ?rest16
    case hy16 => (intro wq hSw; (try dsimp only at hSw); simp only [List.getElem_toArray, List.getElem_cons_zero, List.getElem_cons_succ]; go_simp; try with_reducible rfl)
    simp only [Act.put, List.getElem_toArray, List.getElem_cons_zero, List.getElem_cons_succ, List.setIfInBounds_toArray, List.set_cons_zero, List.set_cons_succ]
    refine wpAnyH_take (i := 17) (oi := _) (v := ?v17) rfl (by kernel_rfl) (by kernel_rfl) (by kernel_rfl) (fun _ _ _ h => h) (Or.inl ⟨by rfl, ?hy17⟩) (by assumption) ?rest17
    case hy17 => (intro wq hSw; (try dsimp only at hSw); simp only [List.getElem_toArray, List.getElem_cons_zero, List.getElem_cons_succ]; go_simp; try with_reducible rfl)
    simp only [Act.put, List.getElem_toArray, List.getElem_cons_zero, List.getElem_cons_succ, List.setIfInBounds_toArray, List.set_cons_zero, List.set_cons_succ]
    refine wpAnyH_take (i := 18) (oi := _) (v := ?v18) rfl (by kernel_rfl) (by kernel_rfl) (by kernel_rfl) (fun _ _ _ h => h) (Or.inl ⟨by rfl, ?hy18⟩) (by assumption) ?rest18
    case hy18 => (intro wq hSw; (try dsimp only at hSw); simp only [List.getElem_toArray, List.getElem_cons_zero, List.getElem_cons_succ]; go_simp; try with_reducible rfl)
    simp only [Act.put, List.getElem_toArray, List.getElem_cons_zero, List.getElem_cons_succ, List.setIfInBounds_toArray, List.set_cons_zero, List.set_cons_succ]
    refine wpAnyH_ready (rs := [19]) (by kernel_rfl) (by simp) ?_
    refine AllReadyH.cons (o := _) rfl (fun K hK => ?_) AllReadyH.nil
    try simp only [List.getElem_toArray, List.getElem_cons_zero, List.getElem_cons_succ]
    go_simp
    go_at_call 12
    refine ((HF.out.below (Hid.out HWd)).filled _ _ _ _).mono ?_
    rintro e wz ⟨gz, rfl, z1, z2, z3, z4, z5⟩
    rw [hs2] at z3
    have hcz := fun (w' : World) (h : w'.heap = wz.heap) => conv_bytes (w := w') (cap := 1024) L2 (bytes_heap z3 h)
    have HZ := hid_trans HWd z5 rfl
    clear z1 z2 z3 z4 z5
    refine hK.out _ _ HZ (fun _ => ?_)
    have HZ2 : Hid (Below w11.heap.size w11 wz) ∧ wz.heap = wz.heap := ⟨HZ, rfl⟩
    refine wpAnyH_strong (S' := fun w' => Hid (Below w11.heap.size w11 w') ∧ w'.heap = wz.heap) (fun _ h => h.1) _ _ _ _ ?_
    try simp only [Act.put, List.getElem_toArray, List.getElem_cons_zero, List.getElem_cons_succ, List.setIfInBounds_toArray, List.set_cons_zero, List.set_cons_succ]
    refine wpAnyH_take (i := 20) (oi := _) (v := ?v20) rfl (by kernel_rfl) (by kernel_rfl) (by kernel_rfl) (fun _ _ _ h => h) (Or.inl ⟨by rfl, ?hy20⟩) (by assumption) ?rest20
    case hy20 => (intro wq hSw; (try dsimp only at hSw); obtain ⟨hSw, hSh⟩ := hSw; simp only [List.getElem_toArray, List.getElem_cons_zero, List.getElem_cons_succ]; go_simp; try with_reducible rfl)
    simp only [Act.put, List.getElem_toArray, List.getElem_cons_zero, List.getElem_cons_succ, List.setIfInBounds_toArray, List.set_cons_zero, List.set_cons_succ]
    refine wpAnyH_take (i := 21) (oi := _) (v := ?v21) rfl (by kernel_rfl) (by kernel_rfl) (by kernel_rfl) (fun _ _ _ h => h) (Or.inl ⟨by rfl, ?hy21⟩) (by assumption) ?rest21
    case hy21 => (intro wq hSw; (try dsimp only at hSw); obtain ⟨hSw, hSh⟩ := hSw; simp only [List.getElem_toArray, List.getElem_cons_zero, List.getElem_cons_succ]; go_simp; try with_reducible rfl)
    simp only [Act.put, List.getElem_toArray, List.getElem_cons_zero, List.getElem_cons_succ, List.setIfInBounds_toArray, List.set_cons_zero, List.set_cons_succ]
    refine wpAnyH_take (i := 22) (oi := _) (v := ?v22) rfl (by kernel_rfl) (by kernel_rfl) (by kernel_rfl) (fun _ _ _ h => h) (Or.inl ⟨by rfl, ?hy22⟩) (by assumption) ?rest22
    case hy22 => (intro wq hSw; (try dsimp only at hSw); obtain ⟨hSw, hSh⟩ := hSw; simp only [List.getElem_toArray, List.getElem_cons_zero, List.getElem_cons_succ]; go_simp; try with_reducible rfl)
    simp only [Act.put, List.getElem_toArray, List.getElem_cons_zero, List.getElem_cons_succ, List.setIfInBounds_toArray, List.set_cons_zero, List.set_cons_succ]
    refine wpAnyH_take (i := 23) (oi := _) (v := ?v23) rfl (by kernel_rfl) (by kernel_rfl) (by kernel_rfl) (fun _ _ _ h => h) (Or.inl ⟨by rfl, ?hy23⟩) (by assumption) ?rest23
    case hy23 => (intro wq hSw; (try dsimp only at hSw); obtain ⟨hSw, hSh⟩ := hSw; simp only [List.getElem_toArray, List.getElem_cons_zero, List.getElem_cons_succ]; go_simp; try with_reducible rfl)
    simp only [Act.put, List.getElem_toArray, List.getElem_cons_zero, List.getElem_cons_succ, List.setIfInBounds_toArray, List.set_cons_zero, List.set_cons_succ]
    refine wpAnyH_take (i := 24) (oi := _) (v := ?v24) rfl (by kernel_rfl) (by kernel_rfl) (by kernel_rfl) (fun _ _ _ h => h) (Or.inl ⟨by rfl, ?hy24⟩) (by assumption) ?rest24
    case hy24 => (intro wq hSw; (try dsimp only at hSw); obtain ⟨hSw, hSh⟩ := hSw; simp only [List.getElem_toArray, List.getElem_cons_zero, List.getElem_cons_succ]; go_simp; try with_reducible rfl)
    simp only [Act.put, List.getElem_toArray, List.getElem_cons_zero, List.getElem_cons_succ, List.setIfInBounds_toArray, List.set_cons_zero, List.set_cons_succ]
    refine wpAnyH_done (by kernel_rfl) ?_ _
    go_wp2_with fail
    go_ret
    exact ⟨by first | rfl | simp, HF.out.hB.trans (HZ.out.mono HF.out.hB.size)⟩
set_option maxHeartbeats 1000000 in
theorem last_leq (n : Int) (hn0 : -9223372036854775808 ≤ n ∧ n ≤ 9223372036854775807) (hn : ¬ (0 ≤ n ∧ n < 16)) (hn1 : ¬ 0 ≤ n)
    (k1 n1 : Int) (f1 m1 : UInt8) (l1 : Int) (k2 n2 : Int) (f2 m2 : UInt8) (l2 : Int) (w : World) :
    Calls Try.prog 3 #[.int .i64 n, .int .i64 n, .agg #[.int .i64 k1, .int .i64 n1, .int .u8 f1.toNat, .int .u8 m1.toNat, .int .i64 l1], .agg #[.int .i64 k2, .int .i64 n2, .int .u8 f2.toNat, .int .u8 m2.toNat, .int .i64 l2]] w fun e w' => e = .returned (.bool true) ∧ Below w.heap.size w w' := by
  have hld1 := fun (w' : World) (h : StepAt w' w.heap.size #[.int .i64 k1, .int .i64 n1, .int .u8 f1.toNat, .int .u8 m1.toNat, .int .i64 (-1)]) => load_step w' _ _ rfl h
  have hld2 := fun (w' : World) (h : StepAt w' (w.heap.size + 1) #[.int .i64 k2, .int .i64 n2, .int .u8 f2.toNat, .int .u8 m2.toNat, .int .i64 (-1)]) => load_step w' _ _ rfl h
  go_enter Try.func3, Try.ntmps3
  go_upto_region 7 with (first | (go_at_call 9; refine (shown_any _).mono ?_; rintro e w1 ⟨rfl, hb1⟩) | (go_at_call 10; refine (new_yes 16 _ (by decide) (by decide)).mono ?_; rintro e w2 ⟨d, s, rfl, D, hb2⟩; go_must (obtain ⟨b1, b2, c1, c2, e1, e2, D3, hB3⟩ := boxes_set w hb1 hb2 D)))
  generalize (w2.setCell ⟨w.heap.size, 4, none⟩ (.int .i64 (-1))).setCell ⟨w.heap.size + 1, 4, none⟩ (.int .i64 (-1)) = w3 at *
  have H3 := Lib.hid (St.mk D3 e1 e2 hB3)
  clear hb1 hb2 D b1 b2 c1 c2 D3 hB3 e2
  have L1 : (stepBytes f1 m1 (-1)).length = 1024 := stepBytes_len _ _ _
  have L2 : (stepBytes f2 m2 (-1)).length = 1024 := stepBytes_len _ _ _
  generalize hs1 : stepBytes f1 m1 (-1) = S1 at *
  generalize hs2 : stepBytes f2 m2 (-1) = S2 at *
  go_upto_region 8 with (first | (go_at_call 12; go_must (refine (H3.out.filled _ _ _ _).mono ?_); rintro e w4 ⟨g1, rfl, q1, q2, q3, q4, q5⟩; rw [hs1] at q3) | (go_at_call 11; go_must (refine (q4.write_no n hn0 hn g1).mono ?_); rintro e w5 ⟨rfl, rfl⟩))
  have e2' := q4.e2
  have HH5 := Lib.hid q4
  clear q1 q2 q3 q5 H3 e1 q4
  go_upto_region 9 with (first | (go_at_call 12; go_must (refine (HH5.out.filled _ _ _ _).mono ?_); rintro e w6 ⟨g2, rfl, q1, q2, q3, q4, q5⟩; rw [hs2] at q3) | (go_at_call 11; go_must (refine (q4.write_no n hn0 hn g2).mono ?_); rintro e w7 ⟨rfl, rfl⟩))
  have HH7 := Lib.hid q4
  clear q1 q2 q3 q5 HH5 e2' q4
  go_upto_region 10 with (first | (go_at_call 13; go_must (refine (HH7.out.read_no n hn0 hn).mono ?_); rintro e w8 ⟨rfl, rfl⟩))
  have HH8 := HH7
  clear HH7
  go_upto_region 11 with (first | (go_at_call 13; go_must (refine (HH8.out.read_no n hn0 hn).mono ?_); rintro e w9 ⟨rfl, rfl⟩))
  have HH9 := HH8
  clear HH8
  have hdn : decide (0 ≤ n) = false := by (rw [decide_eq_false_iff_not]; omega)
  have e1' := HH9.out.e1
  have e2' := HH9.out.e2
  go_upto_region 16 with (first | (go_at_call 12; go_must (refine (HH9.out.filled _ _ _ _).mono ?_); rintro e w10 ⟨gf, rfl, x1, x2, x3, x4, x5⟩; rw [hs1] at x3))
  all_goals
    have HHa := Lib.hid x4
    have FR := Lib.hid x3
    have BX := Lib.hid x5
    have e2'' := x4.e2
    clear e1' e2' x1 x2 x3 x4 x5
    go_upto_region 18 with (first | (go_at_call 12; go_must (refine (HHa.out.filled _ _ _ _).mono ?_); rintro e w11 ⟨gh, rfl, x1, x2, x3, x4, x5⟩; rw [hs2] at x3))
  all_goals
    have HF := Lib.hid x4
    have HX := Lib.hid x5
    have hcf := fun (w' : World) (h : Hid (Below w11.heap.size w11 w')) => conv_bytes (cap := 1024) L2 (bytes_below x3 h.out)
    have e2F := x4.e2
    clear x1 x2 x3 x4 x5 e2'' FR
    obtain ⟨wf, hwf⟩ : ∃ wf, wf = w11 := ⟨_, rfl⟩
    have hld := fun (w' : World) (h : Hid (Below w11.heap.size w11 w')) => hld2 w' (e2F.below h.out e2F.lt)
    have HW : Hid (Below w11.heap.size w11 w11) := Below.refl _ _
    clear hld1 hld2 e2F hwf
    have HWd := Hid_drew HW
    refine wp_region_held_drew (S := fun w' => Hid (Below w11.heap.size w11 w')) (by kernel_rfl) HWd (fun hHeld => ?_)
    refine wpAnyH_take (i := 0) (oi := _) (v := ?v0) rfl (by kernel_rfl) (by kernel_rfl) (by kernel_rfl) (fun _ _ _ h => h) (Or.inl ⟨by rfl, ?hy0⟩) (by assumption) ?rest0
    case hy0 => (intro wq hSw; (try dsimp only at hSw); simp only [List.getElem_toArray, List.getElem_cons_zero, List.getElem_cons_succ]; go_simp; try with_reducible rfl)
    simp only [Act.put, List.getElem_toArray, List.getElem_cons_zero, List.getElem_cons_succ, List.setIfInBounds_toArray, List.set_cons_zero, List.set_cons_succ]
    refine wpAnyH_take (i := 1) (oi := _) (v := ?v1) rfl (by kernel_rfl) (by kernel_rfl) (by kernel_rfl) (fun _ _ _ h => h) (Or.inl ⟨by rfl, ?hy1⟩) (by assumption) ?rest1
    case hy1 => (intro wq hSw; (try dsimp only at hSw); simp only [List.getElem_toArray, List.getElem_cons_zero, List.getElem_cons_succ]; go_simp; try with_reducible rfl)
    simp only [Act.put, List.getElem_toArray, List.getElem_cons_zero, List.getElem_cons_succ, List.setIfInBounds_toArray, List.set_cons_zero, List.set_cons_succ]
    refine wpAnyH_take (i := 2) (oi := _) (v := ?v2) rfl (by kernel_rfl) (by kernel_rfl) (by kernel_rfl) (fun _ _ _ h => h) (Or.inl ⟨by rfl, ?hy2⟩) (by assumption) ?rest2
    case hy2 => (intro wq hSw; (try dsimp only at hSw); simp only [List.getElem_toArray, List.getElem_cons_zero, List.getElem_cons_succ]; go_simp; try with_reducible rfl)
    simp only [Act.put, List.getElem_toArray, List.getElem_cons_zero, List.getElem_cons_succ, List.setIfInBounds_toArray, List.set_cons_zero, List.set_cons_succ]
    refine wpAnyH_take (i := 3) (oi := _) (v := ?v3) rfl (by kernel_rfl) (by kernel_rfl) (by kernel_rfl) (fun _ _ _ h => h) (Or.inl ⟨by rfl, ?hy3⟩) (by assumption) ?rest3
    case hy3 => (intro wq hSw; (try dsimp only at hSw); simp only [List.getElem_toArray, List.getElem_cons_zero, List.getElem_cons_succ]; go_simp; try with_reducible rfl)
    simp only [Act.put, List.getElem_toArray, List.getElem_cons_zero, List.getElem_cons_succ, List.setIfInBounds_toArray, List.set_cons_zero, List.set_cons_succ]
    refine wpAnyH_take (i := 4) (oi := _) (v := ?v4) rfl (by kernel_rfl) (by kernel_rfl) (by kernel_rfl) (fun _ _ _ h => h) (Or.inl ⟨by rfl, ?hy4⟩) (by assumption) ?rest4
    case hy4 => (intro wq hSw; (try dsimp only at hSw); simp only [List.getElem_toArray, List.getElem_cons_zero, List.getElem_cons_succ]; go_simp; try with_reducible rfl)
    simp only [Act.put, List.getElem_toArray, List.getElem_cons_zero, List.getElem_cons_succ, List.setIfInBounds_toArray, List.set_cons_zero, List.set_cons_succ]
    refine wpAnyH_take (i := 5) (oi := _) (v := undef) rfl (by kernel_rfl) (by kernel_rfl) (by kernel_rfl) (fun _ _ _ h => h) (Or.inr ⟨by rfl, rfl⟩) (by assumption) ?rest5
    simp only [Act.put, List.getElem_toArray, List.getElem_cons_zero, List.getElem_cons_succ, List.setIfInBounds_toArray, List.set_cons_zero, List.set_cons_succ]
    refine wpAnyH_take (i := 6) (oi := _) (v := undef) rfl (by kernel_rfl) (by kernel_rfl) (by kernel_rfl) (fun _ _ _ h => h) (Or.inr ⟨by rfl, rfl⟩) (by assumption) ?rest6
    simp only [Act.put, List.getElem_toArray, List.getElem_cons_zero, List.getElem_cons_succ, List.setIfInBounds_toArray, List.set_cons_zero, List.set_cons_succ]
    refine wpAnyH_take (i := 7) (oi := _) (v := undef) rfl (by kernel_rfl) (by kernel_rfl) (by kernel_rfl) (fun _ _ _ h => h) (Or.inr ⟨by rfl, rfl⟩) (by assumption) ?rest7
    simp only [Act.put, List.getElem_toArray, List.getElem_cons_zero, List.getElem_cons_succ, List.setIfInBounds_toArray, List.set_cons_zero, List.set_cons_succ]
    refine wpAnyH_take (i := 8) (oi := _) (v := undef) rfl (by kernel_rfl) (by kernel_rfl) (by kernel_rfl) (fun _ _ _ h => h) (Or.inr ⟨by rfl, rfl⟩) (by assumption) ?rest8
    simp only [Act.put, List.getElem_toArray, List.getElem_cons_zero, List.getElem_cons_succ, List.setIfInBounds_toArray, List.set_cons_zero, List.set_cons_succ]
    refine wpAnyH_take (i := 9) (oi := _) (v := undef) rfl (by kernel_rfl) (by kernel_rfl) (by kernel_rfl) (fun _ _ _ h => h) (Or.inr ⟨by rfl, rfl⟩) (by assumption) ?rest9
    simp only [Act.put, List.getElem_toArray, List.getElem_cons_zero, List.getElem_cons_succ, List.setIfInBounds_toArray, List.set_cons_zero, List.set_cons_succ]
    refine wpAnyH_take (i := 10) (oi := _) (v := ?v10) rfl (by kernel_rfl) (by kernel_rfl) (by kernel_rfl) (fun _ _ _ h => h) (Or.inl ⟨by rfl, ?hy10⟩) (by assumption) ?rest10
    case hy10 => (intro wq hSw; (try dsimp only at hSw); simp only [List.getElem_toArray, List.getElem_cons_zero, List.getElem_cons_succ]; go_simp; try with_reducible rfl)
    simp only [Act.put, List.getElem_toArray, List.getElem_cons_zero, List.getElem_cons_succ, List.setIfInBounds_toArray, List.set_cons_zero, List.set_cons_succ]
    refine wpAnyH_take (i := 11) (oi := _) (v := ?v11) rfl (by kernel_rfl) (by kernel_rfl) (by kernel_rfl) (fun _ _ _ h => h) (Or.inl ⟨by rfl, ?hy11⟩) (by assumption) ?rest11
    case hy11 => (intro wq hSw; (try dsimp only at hSw); simp only [List.getElem_toArray, List.getElem_cons_zero, List.getElem_cons_succ]; go_simp; try with_reducible rfl)
    simp only [Act.put, List.getElem_toArray, List.getElem_cons_zero, List.getElem_cons_succ, List.setIfInBounds_toArray, List.set_cons_zero, List.set_cons_succ]
    refine wpAnyH_take (i := 12) (oi := _) (v := ?v12) rfl (by kernel_rfl) (by kernel_rfl) (by kernel_rfl) (fun _ _ _ h => h) (Or.inl ⟨by rfl, ?hy12⟩) (by assumption) ?rest12
    case hy12 => (intro wq hSw; (try dsimp only at hSw); simp only [List.getElem_toArray, List.getElem_cons_zero, List.getElem_cons_succ]; go_simp; try with_reducible rfl)
    simp only [Act.put, List.getElem_toArray, List.getElem_cons_zero, List.getElem_cons_succ, List.setIfInBounds_toArray, List.set_cons_zero, List.set_cons_succ]
    refine wpAnyH_take (i := 13) (oi := _) (v := ?v13) rfl (by kernel_rfl) (by kernel_rfl) (by kernel_rfl) (fun _ _ _ h => h) (Or.inl ⟨by rfl, ?hy13⟩) (by assumption) ?rest13
    case hy13 => (intro wq hSw; (try dsimp only at hSw); simp only [List.getElem_toArray, List.getElem_cons_zero, List.getElem_cons_succ]; go_simp; try with_reducible rfl)
    simp only [Act.put, List.getElem_toArray, List.getElem_cons_zero, List.getElem_cons_succ, List.setIfInBounds_toArray, List.set_cons_zero, List.set_cons_succ]
    refine wpAnyH_take (i := 14) (oi := _) (v := ?v14) rfl (by kernel_rfl) (by kernel_rfl) (by kernel_rfl) (fun _ _ _ h => h) (Or.inl ⟨by rfl, ?hy14⟩) (by assumption) ?rest14
    case hy14 => (intro wq hSw; (try dsimp only at hSw); simp only [List.getElem_toArray, List.getElem_cons_zero, List.getElem_cons_succ]; go_simp; try with_reducible rfl)
    simp only [Act.put, List.getElem_toArray, List.getElem_cons_zero, List.getElem_cons_succ, List.setIfInBounds_toArray, List.set_cons_zero, List.set_cons_succ]
    refine wpAnyH_take (i := 15) (oi := _) (v := ?v15) rfl (by kernel_rfl) (by kernel_rfl) (by kernel_rfl) (fun _ _ _ h => h) (Or.inl ⟨by rfl, ?hy15⟩) (by assumption) ?rest15
    case hy15 => (intro wq hSw; (try dsimp only at hSw); simp only [List.getElem_toArray, List.getElem_cons_zero, List.getElem_cons_succ]; go_simp; try with_reducible rfl)
    simp only [Act.put, List.getElem_toArray, List.getElem_cons_zero, List.getElem_cons_succ, List.setIfInBounds_toArray, List.set_cons_zero, List.set_cons_succ]
    refine wpAnyH_take (i := 16) (oi := _) (v := undef) rfl (by kernel_rfl) (by kernel_rfl) (by kernel_rfl) (fun _ _ _ h => h) (Or.inr ⟨by rfl, rfl⟩) (by assumption) ?rest16
    simp only [Act.put, List.getElem_toArray, List.getElem_cons_zero, List.getElem_cons_succ, List.setIfInBounds_toArray, List.set_cons_zero, List.set_cons_succ]
    refine wpAnyH_take (i := 17) (oi := _) (v := undef) rfl (by kernel_rfl) (by kernel_rfl) (by kernel_rfl) (fun _ _ _ h => h) (Or.inr ⟨by rfl, rfl⟩) (by assumption) ?rest17
    simp only [Act.put, List.getElem_toArray, List.getElem_cons_zero, List.getElem_cons_succ, List.setIfInBounds_toArray, List.set_cons_zero, List.set_cons_succ]
    refine wpAnyH_take (i := 18) (oi := _) (v := undef) rfl (by kernel_rfl) (by kernel_rfl) (by kernel_rfl) (fun _ _ _ h => h) (Or.inr ⟨by rfl, rfl⟩) (by assumption) ?rest18
    simp only [Act.put, List.getElem_toArray, List.getElem_cons_zero, List.getElem_cons_succ, List.setIfInBounds_toArray, List.set_cons_zero, List.set_cons_succ]
    refine wpAnyH_take (i := 19) (oi := _) (v := undef) rfl (by kernel_rfl) (by kernel_rfl) (by kernel_rfl) (fun _ _ _ h => h) (Or.inr ⟨by rfl, rfl⟩) (by assumption) ?rest19
    simp only [Act.put, List.getElem_toArray, List.getElem_cons_zero, List.getElem_cons_succ, List.setIfInBounds_toArray, List.set_cons_zero, List.set_cons_succ]
    refine wpAnyH_take (i := 20) (oi := _) (v := undef) rfl (by kernel_rfl) (by kernel_rfl) (by kernel_rfl) (fun _ _ _ h => h) (Or.inr ⟨by rfl, rfl⟩) (by assumption) ?rest20
    simp only [Act.put, List.getElem_toArray, List.getElem_cons_zero, List.getElem_cons_succ, List.setIfInBounds_toArray, List.set_cons_zero, List.set_cons_succ]
    refine wpAnyH_take (i := 21) (oi := _) (v := undef) rfl (by kernel_rfl) (by kernel_rfl) (by kernel_rfl) (fun _ _ _ h => h) (Or.inr ⟨by rfl, rfl⟩) (by assumption) ?rest21
    simp only [Act.put, List.getElem_toArray, List.getElem_cons_zero, List.getElem_cons_succ, List.setIfInBounds_toArray, List.set_cons_zero, List.set_cons_succ]
    refine wpAnyH_take (i := 22) (oi := _) (v := ?v22) rfl (by kernel_rfl) (by kernel_rfl) (by kernel_rfl) (fun _ _ _ h => h) (Or.inl ⟨by rfl, ?hy22⟩) (by assumption) ?rest22
    case hy22 => (intro wq hSw; (try dsimp only at hSw); simp only [List.getElem_toArray, List.getElem_cons_zero, List.getElem_cons_succ]; go_simp; try with_reducible rfl)
    simp only [Act.put, List.getElem_toArray, List.getElem_cons_zero, List.getElem_cons_succ, List.setIfInBounds_toArray, List.set_cons_zero, List.set_cons_succ]
    refine wpAnyH_take (i := 23) (oi := _) (v := ?v23) rfl (by kernel_rfl) (by kernel_rfl) (by kernel_rfl) (fun _ _ _ h => h) (Or.inl ⟨by rfl, ?hy23⟩) (by assumption) ?rest23
    case hy23 => (intro wq hSw; (try dsimp only at hSw); simp only [List.getElem_toArray, List.getElem_cons_zero, List.getElem_cons_succ]; go_simp; try with_reducible rfl)
    simp only [Act.put, List.getElem_toArray, List.getElem_cons_zero, List.getElem_cons_succ, List.setIfInBounds_toArray, List.set_cons_zero, List.set_cons_succ]
    refine wpAnyH_take (i := 24) (oi := _) (v := ?v24) rfl (by kernel_rfl) (by kernel_rfl) (by kernel_rfl) (fun _ _ _ h => h) (Or.inl ⟨by rfl, ?hy24⟩) (by assumption) ?rest24
    case hy24 => (intro wq hSw; (try dsimp only at hSw); simp only [List.getElem_toArray, List.getElem_cons_zero, List.getElem_cons_succ]; go_simp; try with_reducible rfl)
    simp only [Act.put, List.getElem_toArray, List.getElem_cons_zero, List.getElem_cons_succ, List.setIfInBounds_toArray, List.set_cons_zero, List.set_cons_succ]
    refine wpAnyH_done (by kernel_rfl) ?_ _
    go_wp2_with fail
    go_ret
    exact ⟨by first | rfl | simp, HF.out.hB.trans (HWd.out.mono HF.out.hB.size)⟩
set_option maxHeartbeats 1000000 in
theorem last_heq (n : Int) (hn0 : -9223372036854775808 ≤ n ∧ n ≤ 9223372036854775807) (hn : ¬ (0 ≤ n ∧ n < 16)) (hn1 : 0 ≤ n) (hn2 : ¬ n < 16)
    (k1 n1 : Int) (f1 m1 : UInt8) (l1 : Int) (k2 n2 : Int) (f2 m2 : UInt8) (l2 : Int) (w : World) :
    Calls Try.prog 3 #[.int .i64 n, .int .i64 n, .agg #[.int .i64 k1, .int .i64 n1, .int .u8 f1.toNat, .int .u8 m1.toNat, .int .i64 l1], .agg #[.int .i64 k2, .int .i64 n2, .int .u8 f2.toNat, .int .u8 m2.toNat, .int .i64 l2]] w fun e w' => e = .returned (.bool true) ∧ Below w.heap.size w w' := by
  have hld1 := fun (w' : World) (h : StepAt w' w.heap.size #[.int .i64 k1, .int .i64 n1, .int .u8 f1.toNat, .int .u8 m1.toNat, .int .i64 (-1)]) => load_step w' _ _ rfl h
  have hld2 := fun (w' : World) (h : StepAt w' (w.heap.size + 1) #[.int .i64 k2, .int .i64 n2, .int .u8 f2.toNat, .int .u8 m2.toNat, .int .i64 (-1)]) => load_step w' _ _ rfl h
  go_enter Try.func3, Try.ntmps3
  go_upto_region 7 with (first | (go_at_call 9; refine (shown_any _).mono ?_; rintro e w1 ⟨rfl, hb1⟩) | (go_at_call 10; refine (new_yes 16 _ (by decide) (by decide)).mono ?_; rintro e w2 ⟨d, s, rfl, D, hb2⟩; go_must (obtain ⟨b1, b2, c1, c2, e1, e2, D3, hB3⟩ := boxes_set w hb1 hb2 D)))
  generalize (w2.setCell ⟨w.heap.size, 4, none⟩ (.int .i64 (-1))).setCell ⟨w.heap.size + 1, 4, none⟩ (.int .i64 (-1)) = w3 at *
  have H3 := Lib.hid (St.mk D3 e1 e2 hB3)
  clear hb1 hb2 D b1 b2 c1 c2 D3 hB3 e2
  have L1 : (stepBytes f1 m1 (-1)).length = 1024 := stepBytes_len _ _ _
  have L2 : (stepBytes f2 m2 (-1)).length = 1024 := stepBytes_len _ _ _
  generalize hs1 : stepBytes f1 m1 (-1) = S1 at *
  generalize hs2 : stepBytes f2 m2 (-1) = S2 at *
  go_upto_region 8 with (first | (go_at_call 12; go_must (refine (H3.out.filled _ _ _ _).mono ?_); rintro e w4 ⟨g1, rfl, q1, q2, q3, q4, q5⟩; rw [hs1] at q3) | (go_at_call 11; go_must (refine (q4.write_no n hn0 hn g1).mono ?_); rintro e w5 ⟨rfl, rfl⟩))
  have e2' := q4.e2
  have HH5 := Lib.hid q4
  clear q1 q2 q3 q5 H3 e1 q4
  go_upto_region 9 with (first | (go_at_call 12; go_must (refine (HH5.out.filled _ _ _ _).mono ?_); rintro e w6 ⟨g2, rfl, q1, q2, q3, q4, q5⟩; rw [hs2] at q3) | (go_at_call 11; go_must (refine (q4.write_no n hn0 hn g2).mono ?_); rintro e w7 ⟨rfl, rfl⟩))
  have HH7 := Lib.hid q4
  clear q1 q2 q3 q5 HH5 e2' q4
  go_upto_region 10 with (first | (go_at_call 13; go_must (refine (HH7.out.read_no n hn0 hn).mono ?_); rintro e w8 ⟨rfl, rfl⟩))
  have HH8 := HH7
  clear HH7
  go_upto_region 11 with (first | (go_at_call 13; go_must (refine (HH8.out.read_no n hn0 hn).mono ?_); rintro e w9 ⟨rfl, rfl⟩))
  have HH9 := HH8
  clear HH8
  have hdn : decide (n < 16) = false := by (rw [decide_eq_false_iff_not]; omega)
  have e1' := HH9.out.e1
  have e2' := HH9.out.e2
  go_upto_region 16 with (first | (go_at_call 12; go_must (refine (HH9.out.filled _ _ _ _).mono ?_); rintro e w10 ⟨gf, rfl, x1, x2, x3, x4, x5⟩; rw [hs1] at x3))
  all_goals
    have HHa := Lib.hid x4
    have FR := Lib.hid x3
    have BX := Lib.hid x5
    have e2'' := x4.e2
    clear e1' e2' x1 x2 x3 x4 x5
    go_upto_region 18 with (first | (go_at_call 12; go_must (refine (HHa.out.filled _ _ _ _).mono ?_); rintro e w11 ⟨gh, rfl, x1, x2, x3, x4, x5⟩; rw [hs2] at x3))
  all_goals
    have HF := Lib.hid x4
    have HX := Lib.hid x5
    have hcf := fun (w' : World) (h : Hid (Below w11.heap.size w11 w')) => conv_bytes (cap := 1024) L2 (bytes_below x3 h.out)
    have e2F := x4.e2
    clear x1 x2 x3 x4 x5 e2'' FR
    obtain ⟨wf, hwf⟩ : ∃ wf, wf = w11 := ⟨_, rfl⟩
    have hld := fun (w' : World) (h : Hid (Below w11.heap.size w11 w')) => hld2 w' (e2F.below h.out e2F.lt)
    have HW : Hid (Below w11.heap.size w11 w11) := Below.refl _ _
    clear hld1 hld2 e2F hwf
    have HWd := Hid_drew HW
    refine wp_region_held_drew (S := fun w' => Hid (Below w11.heap.size w11 w')) (by kernel_rfl) HWd (fun hHeld => ?_)
    refine wpAnyH_take (i := 0) (oi := _) (v := ?v0) rfl (by kernel_rfl) (by kernel_rfl) (by kernel_rfl) (fun _ _ _ h => h) (Or.inl ⟨by rfl, ?hy0⟩) (by assumption) ?rest0
    case hy0 => (intro wq hSw; (try dsimp only at hSw); simp only [List.getElem_toArray, List.getElem_cons_zero, List.getElem_cons_succ]; go_simp; try with_reducible rfl)
    simp only [Act.put, List.getElem_toArray, List.getElem_cons_zero, List.getElem_cons_succ, List.setIfInBounds_toArray, List.set_cons_zero, List.set_cons_succ]
    refine wpAnyH_take (i := 1) (oi := _) (v := ?v1) rfl (by kernel_rfl) (by kernel_rfl) (by kernel_rfl) (fun _ _ _ h => h) (Or.inl ⟨by rfl, ?hy1⟩) (by assumption) ?rest1
    case hy1 => (intro wq hSw; (try dsimp only at hSw); simp only [List.getElem_toArray, List.getElem_cons_zero, List.getElem_cons_succ]; go_simp; try with_reducible rfl)
    simp only [Act.put, List.getElem_toArray, List.getElem_cons_zero, List.getElem_cons_succ, List.setIfInBounds_toArray, List.set_cons_zero, List.set_cons_succ]
    refine wpAnyH_take (i := 2) (oi := _) (v := ?v2) rfl (by kernel_rfl) (by kernel_rfl) (by kernel_rfl) (fun _ _ _ h => h) (Or.inl ⟨by rfl, ?hy2⟩) (by assumption) ?rest2
    case hy2 => (intro wq hSw; (try dsimp only at hSw); simp only [List.getElem_toArray, List.getElem_cons_zero, List.getElem_cons_succ]; go_simp; try with_reducible rfl)
    simp only [Act.put, List.getElem_toArray, List.getElem_cons_zero, List.getElem_cons_succ, List.setIfInBounds_toArray, List.set_cons_zero, List.set_cons_succ]
    refine wpAnyH_take (i := 3) (oi := _) (v := ?v3) rfl (by kernel_rfl) (by kernel_rfl) (by kernel_rfl) (fun _ _ _ h => h) (Or.inl ⟨by rfl, ?hy3⟩) (by assumption) ?rest3
    case hy3 => (intro wq hSw; (try dsimp only at hSw); simp only [List.getElem_toArray, List.getElem_cons_zero, List.getElem_cons_succ]; go_simp; try with_reducible rfl)
    simp only [Act.put, List.getElem_toArray, List.getElem_cons_zero, List.getElem_cons_succ, List.setIfInBounds_toArray, List.set_cons_zero, List.set_cons_succ]
    refine wpAnyH_take (i := 4) (oi := _) (v := ?v4) rfl (by kernel_rfl) (by kernel_rfl) (by kernel_rfl) (fun _ _ _ h => h) (Or.inl ⟨by rfl, ?hy4⟩) (by assumption) ?rest4
    case hy4 => (intro wq hSw; (try dsimp only at hSw); simp only [List.getElem_toArray, List.getElem_cons_zero, List.getElem_cons_succ]; go_simp; try with_reducible rfl)
    simp only [Act.put, List.getElem_toArray, List.getElem_cons_zero, List.getElem_cons_succ, List.setIfInBounds_toArray, List.set_cons_zero, List.set_cons_succ]
    refine wpAnyH_take (i := 5) (oi := _) (v := undef) rfl (by kernel_rfl) (by kernel_rfl) (by kernel_rfl) (fun _ _ _ h => h) (Or.inr ⟨by rfl, rfl⟩) (by assumption) ?rest5
    simp only [Act.put, List.getElem_toArray, List.getElem_cons_zero, List.getElem_cons_succ, List.setIfInBounds_toArray, List.set_cons_zero, List.set_cons_succ]
    refine wpAnyH_take (i := 6) (oi := _) (v := undef) rfl (by kernel_rfl) (by kernel_rfl) (by kernel_rfl) (fun _ _ _ h => h) (Or.inr ⟨by rfl, rfl⟩) (by assumption) ?rest6
    simp only [Act.put, List.getElem_toArray, List.getElem_cons_zero, List.getElem_cons_succ, List.setIfInBounds_toArray, List.set_cons_zero, List.set_cons_succ]
    refine wpAnyH_take (i := 7) (oi := _) (v := undef) rfl (by kernel_rfl) (by kernel_rfl) (by kernel_rfl) (fun _ _ _ h => h) (Or.inr ⟨by rfl, rfl⟩) (by assumption) ?rest7
    simp only [Act.put, List.getElem_toArray, List.getElem_cons_zero, List.getElem_cons_succ, List.setIfInBounds_toArray, List.set_cons_zero, List.set_cons_succ]
    refine wpAnyH_take (i := 8) (oi := _) (v := undef) rfl (by kernel_rfl) (by kernel_rfl) (by kernel_rfl) (fun _ _ _ h => h) (Or.inr ⟨by rfl, rfl⟩) (by assumption) ?rest8
    simp only [Act.put, List.getElem_toArray, List.getElem_cons_zero, List.getElem_cons_succ, List.setIfInBounds_toArray, List.set_cons_zero, List.set_cons_succ]
    refine wpAnyH_take (i := 9) (oi := _) (v := undef) rfl (by kernel_rfl) (by kernel_rfl) (by kernel_rfl) (fun _ _ _ h => h) (Or.inr ⟨by rfl, rfl⟩) (by assumption) ?rest9
    simp only [Act.put, List.getElem_toArray, List.getElem_cons_zero, List.getElem_cons_succ, List.setIfInBounds_toArray, List.set_cons_zero, List.set_cons_succ]
    refine wpAnyH_take (i := 10) (oi := _) (v := ?v10) rfl (by kernel_rfl) (by kernel_rfl) (by kernel_rfl) (fun _ _ _ h => h) (Or.inl ⟨by rfl, ?hy10⟩) (by assumption) ?rest10
    case hy10 => (intro wq hSw; (try dsimp only at hSw); simp only [List.getElem_toArray, List.getElem_cons_zero, List.getElem_cons_succ]; go_simp; try with_reducible rfl)
    simp only [Act.put, List.getElem_toArray, List.getElem_cons_zero, List.getElem_cons_succ, List.setIfInBounds_toArray, List.set_cons_zero, List.set_cons_succ]
    refine wpAnyH_take (i := 11) (oi := _) (v := ?v11) rfl (by kernel_rfl) (by kernel_rfl) (by kernel_rfl) (fun _ _ _ h => h) (Or.inl ⟨by rfl, ?hy11⟩) (by assumption) ?rest11
    case hy11 => (intro wq hSw; (try dsimp only at hSw); simp only [List.getElem_toArray, List.getElem_cons_zero, List.getElem_cons_succ]; go_simp; try with_reducible rfl)
    simp only [Act.put, List.getElem_toArray, List.getElem_cons_zero, List.getElem_cons_succ, List.setIfInBounds_toArray, List.set_cons_zero, List.set_cons_succ]
    refine wpAnyH_take (i := 12) (oi := _) (v := ?v12) rfl (by kernel_rfl) (by kernel_rfl) (by kernel_rfl) (fun _ _ _ h => h) (Or.inl ⟨by rfl, ?hy12⟩) (by assumption) ?rest12
    case hy12 => (intro wq hSw; (try dsimp only at hSw); simp only [List.getElem_toArray, List.getElem_cons_zero, List.getElem_cons_succ]; go_simp; try with_reducible rfl)
    simp only [Act.put, List.getElem_toArray, List.getElem_cons_zero, List.getElem_cons_succ, List.setIfInBounds_toArray, List.set_cons_zero, List.set_cons_succ]
    refine wpAnyH_take (i := 13) (oi := _) (v := ?v13) rfl (by kernel_rfl) (by kernel_rfl) (by kernel_rfl) (fun _ _ _ h => h) (Or.inl ⟨by rfl, ?hy13⟩) (by assumption) ?rest13
    case hy13 => (intro wq hSw; (try dsimp only at hSw); simp only [List.getElem_toArray, List.getElem_cons_zero, List.getElem_cons_succ]; go_simp; try with_reducible rfl)
    simp only [Act.put, List.getElem_toArray, List.getElem_cons_zero, List.getElem_cons_succ, List.setIfInBounds_toArray, List.set_cons_zero, List.set_cons_succ]
    refine wpAnyH_take (i := 14) (oi := _) (v := ?v14) rfl (by kernel_rfl) (by kernel_rfl) (by kernel_rfl) (fun _ _ _ h => h) (Or.inl ⟨by rfl, ?hy14⟩) (by assumption) ?rest14
    case hy14 => (intro wq hSw; (try dsimp only at hSw); simp only [List.getElem_toArray, List.getElem_cons_zero, List.getElem_cons_succ]; go_simp; try with_reducible rfl)
    simp only [Act.put, List.getElem_toArray, List.getElem_cons_zero, List.getElem_cons_succ, List.setIfInBounds_toArray, List.set_cons_zero, List.set_cons_succ]
    refine wpAnyH_take (i := 15) (oi := _) (v := ?v15) rfl (by kernel_rfl) (by kernel_rfl) (by kernel_rfl) (fun _ _ _ h => h) (Or.inl ⟨by rfl, ?hy15⟩) (by assumption) ?rest15
    case hy15 => (intro wq hSw; (try dsimp only at hSw); simp only [List.getElem_toArray, List.getElem_cons_zero, List.getElem_cons_succ]; go_simp; try with_reducible rfl)
    simp only [Act.put, List.getElem_toArray, List.getElem_cons_zero, List.getElem_cons_succ, List.setIfInBounds_toArray, List.set_cons_zero, List.set_cons_succ]
    refine wpAnyH_take (i := 16) (oi := _) (v := undef) rfl (by kernel_rfl) (by kernel_rfl) (by kernel_rfl) (fun _ _ _ h => h) (Or.inr ⟨by rfl, rfl⟩) (by assumption) ?rest16
    simp only [Act.put, List.getElem_toArray, List.getElem_cons_zero, List.getElem_cons_succ, List.setIfInBounds_toArray, List.set_cons_zero, List.set_cons_succ]
    refine wpAnyH_take (i := 17) (oi := _) (v := undef) rfl (by kernel_rfl) (by kernel_rfl) (by kernel_rfl) (fun _ _ _ h => h) (Or.inr ⟨by rfl, rfl⟩) (by assumption) ?rest17
    simp only [Act.put, List.getElem_toArray, List.getElem_cons_zero, List.getElem_cons_succ, List.setIfInBounds_toArray, List.set_cons_zero, List.set_cons_succ]
    refine wpAnyH_take (i := 18) (oi := _) (v := undef) rfl (by kernel_rfl) (by kernel_rfl) (by kernel_rfl) (fun _ _ _ h => h) (Or.inr ⟨by rfl, rfl⟩) (by assumption) ?rest18
    simp only [Act.put, List.getElem_toArray, List.getElem_cons_zero, List.getElem_cons_succ, List.setIfInBounds_toArray, List.set_cons_zero, List.set_cons_succ]
    refine wpAnyH_take (i := 19) (oi := _) (v := undef) rfl (by kernel_rfl) (by kernel_rfl) (by kernel_rfl) (fun _ _ _ h => h) (Or.inr ⟨by rfl, rfl⟩) (by assumption) ?rest19
    simp only [Act.put, List.getElem_toArray, List.getElem_cons_zero, List.getElem_cons_succ, List.setIfInBounds_toArray, List.set_cons_zero, List.set_cons_succ]
    refine wpAnyH_take (i := 20) (oi := _) (v := undef) rfl (by kernel_rfl) (by kernel_rfl) (by kernel_rfl) (fun _ _ _ h => h) (Or.inr ⟨by rfl, rfl⟩) (by assumption) ?rest20
    simp only [Act.put, List.getElem_toArray, List.getElem_cons_zero, List.getElem_cons_succ, List.setIfInBounds_toArray, List.set_cons_zero, List.set_cons_succ]
    refine wpAnyH_take (i := 21) (oi := _) (v := undef) rfl (by kernel_rfl) (by kernel_rfl) (by kernel_rfl) (fun _ _ _ h => h) (Or.inr ⟨by rfl, rfl⟩) (by assumption) ?rest21
    simp only [Act.put, List.getElem_toArray, List.getElem_cons_zero, List.getElem_cons_succ, List.setIfInBounds_toArray, List.set_cons_zero, List.set_cons_succ]
    refine wpAnyH_take (i := 22) (oi := _) (v := ?v22) rfl (by kernel_rfl) (by kernel_rfl) (by kernel_rfl) (fun _ _ _ h => h) (Or.inl ⟨by rfl, ?hy22⟩) (by assumption) ?rest22
    case hy22 => (intro wq hSw; (try dsimp only at hSw); simp only [List.getElem_toArray, List.getElem_cons_zero, List.getElem_cons_succ]; go_simp; try with_reducible rfl)
    simp only [Act.put, List.getElem_toArray, List.getElem_cons_zero, List.getElem_cons_succ, List.setIfInBounds_toArray, List.set_cons_zero, List.set_cons_succ]
    refine wpAnyH_take (i := 23) (oi := _) (v := ?v23) rfl (by kernel_rfl) (by kernel_rfl) (by kernel_rfl) (fun _ _ _ h => h) (Or.inl ⟨by rfl, ?hy23⟩) (by assumption) ?rest23
    case hy23 => (intro wq hSw; (try dsimp only at hSw); simp only [List.getElem_toArray, List.getElem_cons_zero, List.getElem_cons_succ]; go_simp; try with_reducible rfl)
    simp only [Act.put, List.getElem_toArray, List.getElem_cons_zero, List.getElem_cons_succ, List.setIfInBounds_toArray, List.set_cons_zero, List.set_cons_succ]
    refine wpAnyH_take (i := 24) (oi := _) (v := ?v24) rfl (by kernel_rfl) (by kernel_rfl) (by kernel_rfl) (fun _ _ _ h => h) (Or.inl ⟨by rfl, ?hy24⟩) (by assumption) ?rest24
    case hy24 => (intro wq hSw; (try dsimp only at hSw); simp only [List.getElem_toArray, List.getElem_cons_zero, List.getElem_cons_succ]; go_simp; try with_reducible rfl)
    simp only [Act.put, List.getElem_toArray, List.getElem_cons_zero, List.getElem_cons_succ, List.setIfInBounds_toArray, List.set_cons_zero, List.set_cons_succ]
    refine wpAnyH_done (by kernel_rfl) ?_ _
    go_wp2_with fail
    go_ret
    exact ⟨by first | rfl | simp, HF.out.hB.trans (HWd.out.mono HF.out.hB.size)⟩
set_option maxHeartbeats 1000000 in
theorem last_ii (n : Nat) (hn : n < 16) (m : Nat) (hm : m < 16) (hne : n ≠ m)
    (k1 n1 : Int) (f1 m1 : UInt8) (l1 : Int) (k2 n2 : Int) (f2 m2 : UInt8) (l2 : Int) (w : World) :
    Calls Try.prog 3 #[.int .i64 (n : Int), .int .i64 (m : Int), .agg #[.int .i64 k1, .int .i64 n1, .int .u8 f1.toNat, .int .u8 m1.toNat, .int .i64 l1], .agg #[.int .i64 k2, .int .i64 n2, .int .u8 f2.toNat, .int .u8 m2.toNat, .int .i64 l2]] w fun e w' => e = .returned (.bool true) ∧ Below w.heap.size w w' := by
  have hld1 := fun (w' : World) (h : StepAt w' w.heap.size #[.int .i64 k1, .int .i64 n1, .int .u8 f1.toNat, .int .u8 m1.toNat, .int .i64 (-1)]) => load_step w' _ _ rfl h
  have hld2 := fun (w' : World) (h : StepAt w' (w.heap.size + 1) #[.int .i64 k2, .int .i64 n2, .int .u8 f2.toNat, .int .u8 m2.toNat, .int .i64 (-1)]) => load_step w' _ _ rfl h
  go_enter Try.func3, Try.ntmps3
  go_upto_region 7 with (first | (go_at_call 9; refine (shown_any _).mono ?_; rintro e w1 ⟨rfl, hb1⟩) | (go_at_call 10; refine (new_yes 16 _ (by decide) (by decide)).mono ?_; rintro e w2 ⟨d, s, rfl, D, hb2⟩; go_must (obtain ⟨b1, b2, c1, c2, e1, e2, D3, hB3⟩ := boxes_set w hb1 hb2 D)))
  generalize (w2.setCell ⟨w.heap.size, 4, none⟩ (.int .i64 (-1))).setCell ⟨w.heap.size + 1, 4, none⟩ (.int .i64 (-1)) = w3 at *
  have H3 := Lib.hid (St.mk D3 e1 e2 hB3)
  clear hb1 hb2 D b1 b2 c1 c2 D3 hB3 e2
  have L1 : (stepBytes f1 m1 (-1)).length = 1024 := stepBytes_len _ _ _
  have L2 : (stepBytes f2 m2 (-1)).length = 1024 := stepBytes_len _ _ _
  generalize hs1 : stepBytes f1 m1 (-1) = S1 at *
  generalize hs2 : stepBytes f2 m2 (-1) = S2 at *
  go_upto_region 8 with (first | (go_at_call 12; go_must (refine (H3.out.filled _ _ _ _).mono ?_); rintro e w4 ⟨g1, rfl, q1, q2, q3, q4, q5⟩; rw [hs1] at q3) | (go_at_call 11; go_must (refine (q4.write n hn (by simp) g1 S1 L1 q3 (.inr q2)).mono ?_); rintro e w5 ⟨rfl, v5, H5⟩))
  have e2' := H5.e2
  have HH5 := Lib.hid H5
  clear q1 q2 q3 q4 q5 H3 e1 H5
  go_upto_region 9 with (first | (go_at_call 12; go_must (refine (HH5.out.filled _ _ _ _).mono ?_); rintro e w6 ⟨g2, rfl, q1, q2, q3, q4, q5⟩; rw [hs2] at q3) | (go_at_call 11; go_must (refine (q4.write m hm (by simp) g2 S2 L2 q3 (.inr q2)).mono ?_); rintro e w7 ⟨rfl, v7, H7⟩))
  have HH7 := Lib.hid H7
  clear q1 q2 q3 q5 HH5 e2' q4 H7
  go_upto_region 10 with (first | (go_at_call 13; go_must (refine (HH7.out.read n hn).mono ?_); rintro e w8 ⟨ga, rfl, pr, ps, pb⟩))
  have HH8 := Lib.hid ps
  have AR := Lib.hid pr
  clear ps pr pb HH7
  go_upto_region 11 with (first | (go_at_call 13; go_must (refine (HH8.out.read m hm).mono ?_); rintro e w9 ⟨gb, rfl, qr, qs, qb⟩))
  have HH9 := Lib.hid qs
  have AR9 := Lib.hid (range_below AR.out qb)
  have BR := Lib.hid qr
  clear qs qr qb HH8 AR
  have hni : (n : Int) < 16 := by omega
  have hnj : (0 : Int) ≤ (n : Int) := by omega
  have hmi : (m : Int) < 16 := by omega
  have hmj : (0 : Int) ≤ (m : Int) := by omega
  have hij : ¬ ((n : Int) = (m : Int)) := by omega
  have e1' := HH9.out.e1
  have e2' := HH9.out.e2
  go_upto_region 16 with (first | (go_at_call 12; go_must (refine (HH9.out.filled _ _ _ _).mono ?_); rintro e w10 ⟨gf, rfl, x1, x2, x3, x4, x5⟩; rw [hs1] at x3))
  all_goals
    have HHa := Lib.hid x4
    have FR := Lib.hid x3
    have BX := Lib.hid x5
    have e2'' := x4.e2
    clear e1' e2' x1 x2 x3 x4 x5
    go_upto_region 18 with (first | (go_at_call 12; go_must (refine (HHa.out.filled _ _ _ _).mono ?_); rintro e w11 ⟨gh, rfl, x1, x2, x3, x4, x5⟩; rw [hs2] at x3))
  all_goals
    have HF := HHa
    have hcf := fun (w' : World) (h : Hid (Below w10.heap.size w10 w')) => conv_bytes (cap := 1024) L1 (bytes_below FR.out h.out)
    have e2F := e2''
    have AX := fun (cs : List Value) (g : Nat) (h : w9.rangeAt g 0 cs) => range_below h BX.out
    obtain ⟨wf, hwf⟩ : ∃ wf, wf = w10 := ⟨_, rfl⟩
    clear HHa e2''
    have ha1 := AX _ ga AR9.out
    rw [show upd (upd (fun _ => nought) n (ofL S1)) m (ofL S2) n = ofL S1 from by unfold upd; simp [hne]] at ha1
    have HA1 := Lib.hid ha1
    clear ha1
    have hca := fun (w' : World) (h : Hid (Below w10.heap.size w10 w')) => conv_range w' ga 0 1024 1024 (ofL S1) (by rw [ofL_size, L1]) (range_below HA1.out h.out)
    have hb1 := AX _ gb BR.out
    rw [show upd (upd (fun _ => nought) n (ofL S1)) m (ofL S2) m = ofL S2 from by unfold upd; simp] at hb1
    have HB1 := Lib.hid hb1
    clear hb1
    have hcb := fun (w' : World) (h : Hid (Below w10.heap.size w10 w')) => conv_range w' gb 0 1024 1024 (ofL S2) (by rw [ofL_size, L2]) (range_below HB1.out h.out)
    have hld := fun (w' : World) (h : Hid (Below w10.heap.size w10 w')) => hld2 w' (e2F.below h.out e2F.lt)
    have HW : Hid (Below w10.heap.size w10 w10) := Below.refl _ _
    clear AX hld1 hld2 e2F hwf
    have HWd := Hid_drew HW
    refine wp_region_held_drew (S := fun w' => Hid (Below w10.heap.size w10 w')) (by kernel_rfl) HWd (fun hHeld => ?_)
    refine wpAnyH_take (i := 0) (oi := _) (v := ?v0) rfl (by kernel_rfl) (by kernel_rfl) (by kernel_rfl) (fun _ _ _ h => h) (Or.inl ⟨by rfl, ?hy0⟩) (by assumption) ?rest0
    case hy0 => (intro wq hSw; (try dsimp only at hSw); simp only [List.getElem_toArray, List.getElem_cons_zero, List.getElem_cons_succ]; go_simp; try with_reducible rfl)
    simp only [Act.put, List.getElem_toArray, List.getElem_cons_zero, List.getElem_cons_succ, List.setIfInBounds_toArray, List.set_cons_zero, List.set_cons_succ]
    refine wpAnyH_take (i := 1) (oi := _) (v := ?v1) rfl (by kernel_rfl) (by kernel_rfl) (by kernel_rfl) (fun _ _ _ h => h) (Or.inl ⟨by rfl, ?hy1⟩) (by assumption) ?rest1
    case hy1 => (intro wq hSw; (try dsimp only at hSw); simp only [List.getElem_toArray, List.getElem_cons_zero, List.getElem_cons_succ]; go_simp; try with_reducible rfl)
    simp only [Act.put, List.getElem_toArray, List.getElem_cons_zero, List.getElem_cons_succ, List.setIfInBounds_toArray, List.set_cons_zero, List.set_cons_succ]
    refine wpAnyH_take (i := 2) (oi := _) (v := ?v2) rfl (by kernel_rfl) (by kernel_rfl) (by kernel_rfl) (fun _ _ _ h => h) (Or.inl ⟨by rfl, ?hy2⟩) (by assumption) ?rest2
    case hy2 => (intro wq hSw; (try dsimp only at hSw); simp only [List.getElem_toArray, List.getElem_cons_zero, List.getElem_cons_succ]; go_simp; try with_reducible rfl)
    simp only [Act.put, List.getElem_toArray, List.getElem_cons_zero, List.getElem_cons_succ, List.setIfInBounds_toArray, List.set_cons_zero, List.set_cons_succ]
    refine wpAnyH_take (i := 3) (oi := _) (v := ?v3) rfl (by kernel_rfl) (by kernel_rfl) (by kernel_rfl) (fun _ _ _ h => h) (Or.inl ⟨by rfl, ?hy3⟩) (by assumption) ?rest3
    case hy3 => (intro wq hSw; (try dsimp only at hSw); simp only [List.getElem_toArray, List.getElem_cons_zero, List.getElem_cons_succ]; go_simp; try with_reducible rfl)
    simp only [Act.put, List.getElem_toArray, List.getElem_cons_zero, List.getElem_cons_succ, List.setIfInBounds_toArray, List.set_cons_zero, List.set_cons_succ]
    refine wpAnyH_take (i := 4) (oi := _) (v := ?v4) rfl (by kernel_rfl) (by kernel_rfl) (by kernel_rfl) (fun _ _ _ h => h) (Or.inl ⟨by rfl, ?hy4⟩) (by assumption) ?rest4
    case hy4 => (intro wq hSw; (try dsimp only at hSw); simp only [List.getElem_toArray, List.getElem_cons_zero, List.getElem_cons_succ]; go_simp; try with_reducible rfl)
    simp only [Act.put, List.getElem_toArray, List.getElem_cons_zero, List.getElem_cons_succ, List.setIfInBounds_toArray, List.set_cons_zero, List.set_cons_succ]
    refine wpAnyH_take (i := 5) (oi := _) (v := ?v5) rfl (by kernel_rfl) (by kernel_rfl) (by kernel_rfl) (fun _ _ _ h => h) (Or.inl ⟨by rfl, ?hy5⟩) (by assumption) ?rest5
    case hy5 => (intro wq hSw; (try dsimp only at hSw); simp only [List.getElem_toArray, List.getElem_cons_zero, List.getElem_cons_succ]; go_simp; try with_reducible rfl)
    simp only [Act.put, List.getElem_toArray, List.getElem_cons_zero, List.getElem_cons_succ, List.setIfInBounds_toArray, List.set_cons_zero, List.set_cons_succ]
    refine wpAnyH_take (i := 6) (oi := _) (v := ?v6) rfl (by kernel_rfl) (by kernel_rfl) (by kernel_rfl) (fun _ _ _ h => h) (Or.inl ⟨by rfl, ?hy6⟩) (by assumption) ?rest6
    case hy6 => (intro wq hSw; (try dsimp only at hSw); simp only [List.getElem_toArray, List.getElem_cons_zero, List.getElem_cons_succ]; go_simp; try with_reducible rfl)
    simp only [Act.put, List.getElem_toArray, List.getElem_cons_zero, List.getElem_cons_succ, List.setIfInBounds_toArray, List.set_cons_zero, List.set_cons_succ]
    refine wpAnyH_take (i := 7) (oi := _) (v := ?v7) rfl (by kernel_rfl) (by kernel_rfl) (by kernel_rfl) (fun _ _ _ h => h) (Or.inl ⟨by rfl, ?hy7⟩) (by assumption) ?rest7
    case hy7 => (intro wq hSw; (try dsimp only at hSw); simp only [List.getElem_toArray, List.getElem_cons_zero, List.getElem_cons_succ]; go_simp; try with_reducible rfl)
    simp only [Act.put, List.getElem_toArray, List.getElem_cons_zero, List.getElem_cons_succ, List.setIfInBounds_toArray, List.set_cons_zero, List.set_cons_succ]
    refine wpAnyH_take (i := 8) (oi := _) (v := ?v8) rfl (by kernel_rfl) (by kernel_rfl) (by kernel_rfl) (fun _ _ _ h => h) (Or.inl ⟨by rfl, ?hy8⟩) (by assumption) ?rest8
    case hy8 => (intro wq hSw; (try dsimp only at hSw); simp only [List.getElem_toArray, List.getElem_cons_zero, List.getElem_cons_succ]; go_simp; try with_reducible rfl)
    simp only [Act.put, List.getElem_toArray, List.getElem_cons_zero, List.getElem_cons_succ, List.setIfInBounds_toArray, List.set_cons_zero, List.set_cons_succ]
    refine wpAnyH_take (i := 9) (oi := _) (v := ?v9) rfl (by kernel_rfl) (by kernel_rfl) (by kernel_rfl) (fun _ _ _ h => h) (Or.inl ⟨by rfl, ?hy9⟩) (by assumption) ?rest9
    case hy9 => (intro wq hSw; (try dsimp only at hSw); simp only [List.getElem_toArray, List.getElem_cons_zero, List.getElem_cons_succ]; go_simp; try with_reducible rfl)
    simp only [Act.put, List.getElem_toArray, List.getElem_cons_zero, List.getElem_cons_succ, List.setIfInBounds_toArray, List.set_cons_zero, List.set_cons_succ]
    refine wpAnyH_take (i := 10) (oi := _) (v := ?v10) rfl (by kernel_rfl) (by kernel_rfl) (by kernel_rfl) (fun _ _ _ h => h) (Or.inl ⟨by rfl, ?hy10⟩) (by assumption) ?rest10
    case hy10 => (intro wq hSw; (try dsimp only at hSw); simp only [List.getElem_toArray, List.getElem_cons_zero, List.getElem_cons_succ]; go_simp; try with_reducible rfl)
    simp only [Act.put, List.getElem_toArray, List.getElem_cons_zero, List.getElem_cons_succ, List.setIfInBounds_toArray, List.set_cons_zero, List.set_cons_succ]
    refine wpAnyH_take (i := 11) (oi := _) (v := ?v11) rfl (by kernel_rfl) (by kernel_rfl) (by kernel_rfl) (fun _ _ _ h => h) (Or.inl ⟨by rfl, ?hy11⟩) (by assumption) ?rest11
    case hy11 => (intro wq hSw; (try dsimp only at hSw); simp only [List.getElem_toArray, List.getElem_cons_zero, List.getElem_cons_succ]; go_simp; try with_reducible rfl)
    simp only [Act.put, List.getElem_toArray, List.getElem_cons_zero, List.getElem_cons_succ, List.setIfInBounds_toArray, List.set_cons_zero, List.set_cons_succ]
    refine wpAnyH_take (i := 12) (oi := _) (v := ?v12) rfl (by kernel_rfl) (by kernel_rfl) (by kernel_rfl) (fun _ _ _ h => h) (Or.inl ⟨by rfl, ?hy12⟩) (by assumption) ?rest12
    case hy12 => (intro wq hSw; (try dsimp only at hSw); simp only [List.getElem_toArray, List.getElem_cons_zero, List.getElem_cons_succ]; go_simp; try with_reducible rfl)
    simp only [Act.put, List.getElem_toArray, List.getElem_cons_zero, List.getElem_cons_succ, List.setIfInBounds_toArray, List.set_cons_zero, List.set_cons_succ]
    refine wpAnyH_take (i := 13) (oi := _) (v := ?v13) rfl (by kernel_rfl) (by kernel_rfl) (by kernel_rfl) (fun _ _ _ h => h) (Or.inl ⟨by rfl, ?hy13⟩) (by assumption) ?rest13
    case hy13 => (intro wq hSw; (try dsimp only at hSw); simp only [List.getElem_toArray, List.getElem_cons_zero, List.getElem_cons_succ]; go_simp; try with_reducible rfl)
    simp only [Act.put, List.getElem_toArray, List.getElem_cons_zero, List.getElem_cons_succ, List.setIfInBounds_toArray, List.set_cons_zero, List.set_cons_succ]
    refine wpAnyH_take (i := 14) (oi := _) (v := ?v14) rfl (by kernel_rfl) (by kernel_rfl) (by kernel_rfl) (fun _ _ _ h => h) (Or.inl ⟨by rfl, ?hy14⟩) (by assumption) ?rest14
    case hy14 => (intro wq hSw; (try dsimp only at hSw); simp only [List.getElem_toArray, List.getElem_cons_zero, List.getElem_cons_succ]; go_simp; try with_reducible rfl)
    simp only [Act.put, List.getElem_toArray, List.getElem_cons_zero, List.getElem_cons_succ, List.setIfInBounds_toArray, List.set_cons_zero, List.set_cons_succ]
    refine wpAnyH_take (i := 15) (oi := _) (v := ?v15) rfl (by kernel_rfl) (by kernel_rfl) (by kernel_rfl) (fun _ _ _ h => h) (Or.inl ⟨by rfl, ?hy15⟩) (by assumption) ?rest15
    case hy15 => (intro wq hSw; (try dsimp only at hSw); simp only [List.getElem_toArray, List.getElem_cons_zero, List.getElem_cons_succ]; go_simp; try with_reducible rfl)
    simp only [Act.put, List.getElem_toArray, List.getElem_cons_zero, List.getElem_cons_succ, List.setIfInBounds_toArray, List.set_cons_zero, List.set_cons_succ]
    refine wpAnyH_take (i := 16) (oi := _) (v := ?v16) rfl (by kernel_rfl) (by kernel_rfl) (by kernel_rfl) (fun _ _ _ h => h) (Or.inl ⟨by rfl, ?hy16⟩) (by assumption) ?rest16
    case hy16 => (intro wq hSw; (try dsimp only at hSw); simp only [List.getElem_toArray, List.getElem_cons_zero, List.getElem_cons_succ]; go_simp; try with_reducible rfl)
    simp only [Act.put, List.getElem_toArray, List.getElem_cons_zero, List.getElem_cons_succ, List.setIfInBounds_toArray, List.set_cons_zero, List.set_cons_succ]
    refine wpAnyH_take (i := 17) (oi := _) (v := ?v17) rfl (by kernel_rfl) (by kernel_rfl) (by kernel_rfl) (fun _ _ _ h => h) (Or.inl ⟨by rfl, ?hy17⟩) (by assumption) ?rest17
    case hy17 => (intro wq hSw; (try dsimp only at hSw); simp only [List.getElem_toArray, List.getElem_cons_zero, List.getElem_cons_succ]; go_simp; try with_reducible rfl)
    simp only [Act.put, List.getElem_toArray, List.getElem_cons_zero, List.getElem_cons_succ, List.setIfInBounds_toArray, List.set_cons_zero, List.set_cons_succ]
    refine wpAnyH_take (i := 18) (oi := _) (v := ?v18) rfl (by kernel_rfl) (by kernel_rfl) (by kernel_rfl) (fun _ _ _ h => h) (Or.inl ⟨by rfl, ?hy18⟩) (by assumption) ?rest18
    case hy18 => (intro wq hSw; (try dsimp only at hSw); simp only [List.getElem_toArray, List.getElem_cons_zero, List.getElem_cons_succ]; go_simp; try with_reducible rfl)
    simp only [Act.put, List.getElem_toArray, List.getElem_cons_zero, List.getElem_cons_succ, List.setIfInBounds_toArray, List.set_cons_zero, List.set_cons_succ]
    refine wpAnyH_ready (rs := [19]) (by kernel_rfl) (by simp) ?_
    refine AllReadyH.cons (o := _) rfl (fun K hK => ?_) AllReadyH.nil
    try simp only [List.getElem_toArray, List.getElem_cons_zero, List.getElem_cons_succ]
    go_simp
    go_at_call 12
    refine ((HF.out.below (Hid.out HWd)).filled _ _ _ _).mono ?_
    rintro e wz ⟨gz, rfl, z1, z2, z3, z4, z5⟩
    rw [hs2] at z3
    have hcz := fun (w' : World) (h : w'.heap = wz.heap) => conv_bytes (w := w') (cap := 1024) L2 (bytes_heap z3 h)
    have HZ := hid_trans HWd z5 rfl
    clear z1 z2 z3 z4 z5
    refine hK.out _ _ HZ (fun _ => ?_)
    have HZ2 : Hid (Below w10.heap.size w10 wz) ∧ wz.heap = wz.heap := ⟨HZ, rfl⟩
    refine wpAnyH_strong (S' := fun w' => Hid (Below w10.heap.size w10 w') ∧ w'.heap = wz.heap) (fun _ h => h.1) _ _ _ _ ?_
    try simp only [Act.put, List.getElem_toArray, List.getElem_cons_zero, List.getElem_cons_succ, List.setIfInBounds_toArray, List.set_cons_zero, List.set_cons_succ]
    refine wpAnyH_take (i := 20) (oi := _) (v := ?v20) rfl (by kernel_rfl) (by kernel_rfl) (by kernel_rfl) (fun _ _ _ h => h) (Or.inl ⟨by rfl, ?hy20⟩) (by assumption) ?rest20
    case hy20 => (intro wq hSw; (try dsimp only at hSw); obtain ⟨hSw, hSh⟩ := hSw; simp only [List.getElem_toArray, List.getElem_cons_zero, List.getElem_cons_succ]; go_simp; try with_reducible rfl)
    simp only [Act.put, List.getElem_toArray, List.getElem_cons_zero, List.getElem_cons_succ, List.setIfInBounds_toArray, List.set_cons_zero, List.set_cons_succ]
    refine wpAnyH_take (i := 21) (oi := _) (v := ?v21) rfl (by kernel_rfl) (by kernel_rfl) (by kernel_rfl) (fun _ _ _ h => h) (Or.inl ⟨by rfl, ?hy21⟩) (by assumption) ?rest21
    case hy21 => (intro wq hSw; (try dsimp only at hSw); obtain ⟨hSw, hSh⟩ := hSw; simp only [List.getElem_toArray, List.getElem_cons_zero, List.getElem_cons_succ]; go_simp; try with_reducible rfl)
    simp only [Act.put, List.getElem_toArray, List.getElem_cons_zero, List.getElem_cons_succ, List.setIfInBounds_toArray, List.set_cons_zero, List.set_cons_succ]
    refine wpAnyH_take (i := 22) (oi := _) (v := ?v22) rfl (by kernel_rfl) (by kernel_rfl) (by kernel_rfl) (fun _ _ _ h => h) (Or.inl ⟨by rfl, ?hy22⟩) (by assumption) ?rest22
    case hy22 => (intro wq hSw; (try dsimp only at hSw); obtain ⟨hSw, hSh⟩ := hSw; simp only [List.getElem_toArray, List.getElem_cons_zero, List.getElem_cons_succ]; go_simp; try with_reducible rfl)
    simp only [Act.put, List.getElem_toArray, List.getElem_cons_zero, List.getElem_cons_succ, List.setIfInBounds_toArray, List.set_cons_zero, List.set_cons_succ]
    refine wpAnyH_take (i := 23) (oi := _) (v := ?v23) rfl (by kernel_rfl) (by kernel_rfl) (by kernel_rfl) (fun _ _ _ h => h) (Or.inl ⟨by rfl, ?hy23⟩) (by assumption) ?rest23
    case hy23 => (intro wq hSw; (try dsimp only at hSw); obtain ⟨hSw, hSh⟩ := hSw; simp only [List.getElem_toArray, List.getElem_cons_zero, List.getElem_cons_succ]; go_simp; try with_reducible rfl)
    simp only [Act.put, List.getElem_toArray, List.getElem_cons_zero, List.getElem_cons_succ, List.setIfInBounds_toArray, List.set_cons_zero, List.set_cons_succ]
    refine wpAnyH_take (i := 24) (oi := _) (v := ?v24) rfl (by kernel_rfl) (by kernel_rfl) (by kernel_rfl) (fun _ _ _ h => h) (Or.inl ⟨by rfl, ?hy24⟩) (by assumption) ?rest24
    case hy24 => (intro wq hSw; (try dsimp only at hSw); obtain ⟨hSw, hSh⟩ := hSw; simp only [List.getElem_toArray, List.getElem_cons_zero, List.getElem_cons_succ]; go_simp; try with_reducible rfl)
    simp only [Act.put, List.getElem_toArray, List.getElem_cons_zero, List.getElem_cons_succ, List.setIfInBounds_toArray, List.set_cons_zero, List.set_cons_succ]
    refine wpAnyH_done (by kernel_rfl) ?_ _
    go_wp2_with fail
    go_ret
    exact ⟨by first | rfl | simp, HF.out.hB.trans (HZ.out.mono HF.out.hB.size)⟩
set_option maxHeartbeats 1000000 in
theorem last_ll (n : Int) (hn0 : -9223372036854775808 ≤ n ∧ n ≤ 9223372036854775807) (hn : ¬ (0 ≤ n ∧ n < 16)) (hn1 : ¬ 0 ≤ n) (m : Int) (hm0 : -9223372036854775808 ≤ m ∧ m ≤ 9223372036854775807) (hm : ¬ (0 ≤ m ∧ m < 16)) (hm1 : ¬ 0 ≤ m) (hne : n ≠ m)
    (k1 n1 : Int) (f1 m1 : UInt8) (l1 : Int) (k2 n2 : Int) (f2 m2 : UInt8) (l2 : Int) (w : World) :
    Calls Try.prog 3 #[.int .i64 n, .int .i64 m, .agg #[.int .i64 k1, .int .i64 n1, .int .u8 f1.toNat, .int .u8 m1.toNat, .int .i64 l1], .agg #[.int .i64 k2, .int .i64 n2, .int .u8 f2.toNat, .int .u8 m2.toNat, .int .i64 l2]] w fun e w' => e = .returned (.bool true) ∧ Below w.heap.size w w' := by
  have hld1 := fun (w' : World) (h : StepAt w' w.heap.size #[.int .i64 k1, .int .i64 n1, .int .u8 f1.toNat, .int .u8 m1.toNat, .int .i64 (-1)]) => load_step w' _ _ rfl h
  have hld2 := fun (w' : World) (h : StepAt w' (w.heap.size + 1) #[.int .i64 k2, .int .i64 n2, .int .u8 f2.toNat, .int .u8 m2.toNat, .int .i64 (-1)]) => load_step w' _ _ rfl h
  go_enter Try.func3, Try.ntmps3
  go_upto_region 7 with (first | (go_at_call 9; refine (shown_any _).mono ?_; rintro e w1 ⟨rfl, hb1⟩) | (go_at_call 10; refine (new_yes 16 _ (by decide) (by decide)).mono ?_; rintro e w2 ⟨d, s, rfl, D, hb2⟩; go_must (obtain ⟨b1, b2, c1, c2, e1, e2, D3, hB3⟩ := boxes_set w hb1 hb2 D)))
  generalize (w2.setCell ⟨w.heap.size, 4, none⟩ (.int .i64 (-1))).setCell ⟨w.heap.size + 1, 4, none⟩ (.int .i64 (-1)) = w3 at *
  have H3 := Lib.hid (St.mk D3 e1 e2 hB3)
  clear hb1 hb2 D b1 b2 c1 c2 D3 hB3 e2
  have L1 : (stepBytes f1 m1 (-1)).length = 1024 := stepBytes_len _ _ _
  have L2 : (stepBytes f2 m2 (-1)).length = 1024 := stepBytes_len _ _ _
  generalize hs1 : stepBytes f1 m1 (-1) = S1 at *
  generalize hs2 : stepBytes f2 m2 (-1) = S2 at *
  go_upto_region 8 with (first | (go_at_call 12; go_must (refine (H3.out.filled _ _ _ _).mono ?_); rintro e w4 ⟨g1, rfl, q1, q2, q3, q4, q5⟩; rw [hs1] at q3) | (go_at_call 11; go_must (refine (q4.write_no n hn0 hn g1).mono ?_); rintro e w5 ⟨rfl, rfl⟩))
  have e2' := q4.e2
  have HH5 := Lib.hid q4
  clear q1 q2 q3 q5 H3 e1 q4
  go_upto_region 9 with (first | (go_at_call 12; go_must (refine (HH5.out.filled _ _ _ _).mono ?_); rintro e w6 ⟨g2, rfl, q1, q2, q3, q4, q5⟩; rw [hs2] at q3) | (go_at_call 11; go_must (refine (q4.write_no m hm0 hm g2).mono ?_); rintro e w7 ⟨rfl, rfl⟩))
  have HH7 := Lib.hid q4
  clear q1 q2 q3 q5 HH5 e2' q4
  go_upto_region 10 with (first | (go_at_call 13; go_must (refine (HH7.out.read_no n hn0 hn).mono ?_); rintro e w8 ⟨rfl, rfl⟩))
  have HH8 := HH7
  clear HH7
  go_upto_region 11 with (first | (go_at_call 13; go_must (refine (HH8.out.read_no m hm0 hm).mono ?_); rintro e w9 ⟨rfl, rfl⟩))
  have HH9 := HH8
  clear HH8
  have hij : ¬ (n = m) := by omega
  have hdn : decide (0 ≤ n) = false := by (rw [decide_eq_false_iff_not]; omega)
  have hdm : decide (0 ≤ m) = false := by (rw [decide_eq_false_iff_not]; omega)
  have e1' := HH9.out.e1
  have e2' := HH9.out.e2
  go_upto_region 16 with (first | (go_at_call 12; go_must (refine (HH9.out.filled _ _ _ _).mono ?_); rintro e w10 ⟨gf, rfl, x1, x2, x3, x4, x5⟩; rw [hs1] at x3))
  all_goals
    have HHa := Lib.hid x4
    have FR := Lib.hid x3
    have BX := Lib.hid x5
    have e2'' := x4.e2
    clear e1' e2' x1 x2 x3 x4 x5
    go_upto_region 18 with (first | (go_at_call 12; go_must (refine (HHa.out.filled _ _ _ _).mono ?_); rintro e w11 ⟨gh, rfl, x1, x2, x3, x4, x5⟩; rw [hs2] at x3))
  all_goals
    have HF := HHa
    have hcf := fun (w' : World) (h : Hid (Below w10.heap.size w10 w')) => conv_bytes (cap := 1024) L1 (bytes_below FR.out h.out)
    have e2F := e2''
    have AX := fun (cs : List Value) (g : Nat) (h : w6.rangeAt g 0 cs) => range_below h BX.out
    obtain ⟨wf, hwf⟩ : ∃ wf, wf = w10 := ⟨_, rfl⟩
    clear HHa e2''
    have hld := fun (w' : World) (h : Hid (Below w10.heap.size w10 w')) => hld2 w' (e2F.below h.out e2F.lt)
    have HW : Hid (Below w10.heap.size w10 w10) := Below.refl _ _
    clear AX hld1 hld2 e2F hwf
    have HWd := Hid_drew HW
    refine wp_region_held_drew (S := fun w' => Hid (Below w10.heap.size w10 w')) (by kernel_rfl) HWd (fun hHeld => ?_)
    refine wpAnyH_take (i := 0) (oi := _) (v := ?v0) rfl (by kernel_rfl) (by kernel_rfl) (by kernel_rfl) (fun _ _ _ h => h) (Or.inl ⟨by rfl, ?hy0⟩) (by assumption) ?rest0
    case hy0 => (intro wq hSw; (try dsimp only at hSw); simp only [List.getElem_toArray, List.getElem_cons_zero, List.getElem_cons_succ]; go_simp; try with_reducible rfl)
    simp only [Act.put, List.getElem_toArray, List.getElem_cons_zero, List.getElem_cons_succ, List.setIfInBounds_toArray, List.set_cons_zero, List.set_cons_succ]
    refine wpAnyH_take (i := 1) (oi := _) (v := ?v1) rfl (by kernel_rfl) (by kernel_rfl) (by kernel_rfl) (fun _ _ _ h => h) (Or.inl ⟨by rfl, ?hy1⟩) (by assumption) ?rest1
    case hy1 => (intro wq hSw; (try dsimp only at hSw); simp only [List.getElem_toArray, List.getElem_cons_zero, List.getElem_cons_succ]; go_simp; try with_reducible rfl)
    simp only [Act.put, List.getElem_toArray, List.getElem_cons_zero, List.getElem_cons_succ, List.setIfInBounds_toArray, List.set_cons_zero, List.set_cons_succ]
    refine wpAnyH_take (i := 2) (oi := _) (v := ?v2) rfl (by kernel_rfl) (by kernel_rfl) (by kernel_rfl) (fun _ _ _ h => h) (Or.inl ⟨by rfl, ?hy2⟩) (by assumption) ?rest2
    case hy2 => (intro wq hSw; (try dsimp only at hSw); simp only [List.getElem_toArray, List.getElem_cons_zero, List.getElem_cons_succ]; go_simp; try with_reducible rfl)
    simp only [Act.put, List.getElem_toArray, List.getElem_cons_zero, List.getElem_cons_succ, List.setIfInBounds_toArray, List.set_cons_zero, List.set_cons_succ]
    refine wpAnyH_take (i := 3) (oi := _) (v := ?v3) rfl (by kernel_rfl) (by kernel_rfl) (by kernel_rfl) (fun _ _ _ h => h) (Or.inl ⟨by rfl, ?hy3⟩) (by assumption) ?rest3
    case hy3 => (intro wq hSw; (try dsimp only at hSw); simp only [List.getElem_toArray, List.getElem_cons_zero, List.getElem_cons_succ]; go_simp; try with_reducible rfl)
    simp only [Act.put, List.getElem_toArray, List.getElem_cons_zero, List.getElem_cons_succ, List.setIfInBounds_toArray, List.set_cons_zero, List.set_cons_succ]
    refine wpAnyH_take (i := 4) (oi := _) (v := ?v4) rfl (by kernel_rfl) (by kernel_rfl) (by kernel_rfl) (fun _ _ _ h => h) (Or.inl ⟨by rfl, ?hy4⟩) (by assumption) ?rest4
    case hy4 => (intro wq hSw; (try dsimp only at hSw); simp only [List.getElem_toArray, List.getElem_cons_zero, List.getElem_cons_succ]; go_simp; try with_reducible rfl)
    simp only [Act.put, List.getElem_toArray, List.getElem_cons_zero, List.getElem_cons_succ, List.setIfInBounds_toArray, List.set_cons_zero, List.set_cons_succ]
    refine wpAnyH_take (i := 5) (oi := _) (v := undef) rfl (by kernel_rfl) (by kernel_rfl) (by kernel_rfl) (fun _ _ _ h => h) (Or.inr ⟨by rfl, rfl⟩) (by assumption) ?rest5
    simp only [Act.put, List.getElem_toArray, List.getElem_cons_zero, List.getElem_cons_succ, List.setIfInBounds_toArray, List.set_cons_zero, List.set_cons_succ]
    refine wpAnyH_take (i := 6) (oi := _) (v := undef) rfl (by kernel_rfl) (by kernel_rfl) (by kernel_rfl) (fun _ _ _ h => h) (Or.inr ⟨by rfl, rfl⟩) (by assumption) ?rest6
    simp only [Act.put, List.getElem_toArray, List.getElem_cons_zero, List.getElem_cons_succ, List.setIfInBounds_toArray, List.set_cons_zero, List.set_cons_succ]
    refine wpAnyH_take (i := 7) (oi := _) (v := undef) rfl (by kernel_rfl) (by kernel_rfl) (by kernel_rfl) (fun _ _ _ h => h) (Or.inr ⟨by rfl, rfl⟩) (by assumption) ?rest7
    simp only [Act.put, List.getElem_toArray, List.getElem_cons_zero, List.getElem_cons_succ, List.setIfInBounds_toArray, List.set_cons_zero, List.set_cons_succ]
    refine wpAnyH_take (i := 8) (oi := _) (v := undef) rfl (by kernel_rfl) (by kernel_rfl) (by kernel_rfl) (fun _ _ _ h => h) (Or.inr ⟨by rfl, rfl⟩) (by assumption) ?rest8
    simp only [Act.put, List.getElem_toArray, List.getElem_cons_zero, List.getElem_cons_succ, List.setIfInBounds_toArray, List.set_cons_zero, List.set_cons_succ]
    refine wpAnyH_take (i := 9) (oi := _) (v := undef) rfl (by kernel_rfl) (by kernel_rfl) (by kernel_rfl) (fun _ _ _ h => h) (Or.inr ⟨by rfl, rfl⟩) (by assumption) ?rest9
    simp only [Act.put, List.getElem_toArray, List.getElem_cons_zero, List.getElem_cons_succ, List.setIfInBounds_toArray, List.set_cons_zero, List.set_cons_succ]
    refine wpAnyH_take (i := 10) (oi := _) (v := ?v10) rfl (by kernel_rfl) (by kernel_rfl) (by kernel_rfl) (fun _ _ _ h => h) (Or.inl ⟨by rfl, ?hy10⟩) (by assumption) ?rest10
    case hy10 => (intro wq hSw; (try dsimp only at hSw); simp only [List.getElem_toArray, List.getElem_cons_zero, List.getElem_cons_succ]; go_simp; try with_reducible rfl)
    simp only [Act.put, List.getElem_toArray, List.getElem_cons_zero, List.getElem_cons_succ, List.setIfInBounds_toArray, List.set_cons_zero, List.set_cons_succ]
    refine wpAnyH_take (i := 11) (oi := _) (v := ?v11) rfl (by kernel_rfl) (by kernel_rfl) (by kernel_rfl) (fun _ _ _ h => h) (Or.inl ⟨by rfl, ?hy11⟩) (by assumption) ?rest11
    case hy11 => (intro wq hSw; (try dsimp only at hSw); simp only [List.getElem_toArray, List.getElem_cons_zero, List.getElem_cons_succ]; go_simp; try with_reducible rfl)
    simp only [Act.put, List.getElem_toArray, List.getElem_cons_zero, List.getElem_cons_succ, List.setIfInBounds_toArray, List.set_cons_zero, List.set_cons_succ]
    refine wpAnyH_take (i := 12) (oi := _) (v := ?v12) rfl (by kernel_rfl) (by kernel_rfl) (by kernel_rfl) (fun _ _ _ h => h) (Or.inl ⟨by rfl, ?hy12⟩) (by assumption) ?rest12
    case hy12 => (intro wq hSw; (try dsimp only at hSw); simp only [List.getElem_toArray, List.getElem_cons_zero, List.getElem_cons_succ]; go_simp; try with_reducible rfl)
    simp only [Act.put, List.getElem_toArray, List.getElem_cons_zero, List.getElem_cons_succ, List.setIfInBounds_toArray, List.set_cons_zero, List.set_cons_succ]
    refine wpAnyH_take (i := 13) (oi := _) (v := ?v13) rfl (by kernel_rfl) (by kernel_rfl) (by kernel_rfl) (fun _ _ _ h => h) (Or.inl ⟨by rfl, ?hy13⟩) (by assumption) ?rest13
    case hy13 => (intro wq hSw; (try dsimp only at hSw); simp only [List.getElem_toArray, List.getElem_cons_zero, List.getElem_cons_succ]; go_simp; try with_reducible rfl)
    simp only [Act.put, List.getElem_toArray, List.getElem_cons_zero, List.getElem_cons_succ, List.setIfInBounds_toArray, List.set_cons_zero, List.set_cons_succ]
    refine wpAnyH_take (i := 14) (oi := _) (v := ?v14) rfl (by kernel_rfl) (by kernel_rfl) (by kernel_rfl) (fun _ _ _ h => h) (Or.inl ⟨by rfl, ?hy14⟩) (by assumption) ?rest14
    case hy14 => (intro wq hSw; (try dsimp only at hSw); simp only [List.getElem_toArray, List.getElem_cons_zero, List.getElem_cons_succ]; go_simp; try with_reducible rfl)
    simp only [Act.put, List.getElem_toArray, List.getElem_cons_zero, List.getElem_cons_succ, List.setIfInBounds_toArray, List.set_cons_zero, List.set_cons_succ]
    refine wpAnyH_take (i := 15) (oi := _) (v := ?v15) rfl (by kernel_rfl) (by kernel_rfl) (by kernel_rfl) (fun _ _ _ h => h) (Or.inl ⟨by rfl, ?hy15⟩) (by assumption) ?rest15
    case hy15 => (intro wq hSw; (try dsimp only at hSw); simp only [List.getElem_toArray, List.getElem_cons_zero, List.getElem_cons_succ]; go_simp; try with_reducible rfl)
    simp only [Act.put, List.getElem_toArray, List.getElem_cons_zero, List.getElem_cons_succ, List.setIfInBounds_toArray, List.set_cons_zero, List.set_cons_succ]
    refine wpAnyH_take (i := 16) (oi := _) (v := undef) rfl (by kernel_rfl) (by kernel_rfl) (by kernel_rfl) (fun _ _ _ h => h) (Or.inr ⟨by rfl, rfl⟩) (by assumption) ?rest16
    simp only [Act.put, List.getElem_toArray, List.getElem_cons_zero, List.getElem_cons_succ, List.setIfInBounds_toArray, List.set_cons_zero, List.set_cons_succ]
    refine wpAnyH_take (i := 17) (oi := _) (v := undef) rfl (by kernel_rfl) (by kernel_rfl) (by kernel_rfl) (fun _ _ _ h => h) (Or.inr ⟨by rfl, rfl⟩) (by assumption) ?rest17
    simp only [Act.put, List.getElem_toArray, List.getElem_cons_zero, List.getElem_cons_succ, List.setIfInBounds_toArray, List.set_cons_zero, List.set_cons_succ]
    refine wpAnyH_take (i := 18) (oi := _) (v := undef) rfl (by kernel_rfl) (by kernel_rfl) (by kernel_rfl) (fun _ _ _ h => h) (Or.inr ⟨by rfl, rfl⟩) (by assumption) ?rest18
    simp only [Act.put, List.getElem_toArray, List.getElem_cons_zero, List.getElem_cons_succ, List.setIfInBounds_toArray, List.set_cons_zero, List.set_cons_succ]
    refine wpAnyH_take (i := 19) (oi := _) (v := undef) rfl (by kernel_rfl) (by kernel_rfl) (by kernel_rfl) (fun _ _ _ h => h) (Or.inr ⟨by rfl, rfl⟩) (by assumption) ?rest19
    simp only [Act.put, List.getElem_toArray, List.getElem_cons_zero, List.getElem_cons_succ, List.setIfInBounds_toArray, List.set_cons_zero, List.set_cons_succ]
    refine wpAnyH_take (i := 20) (oi := _) (v := undef) rfl (by kernel_rfl) (by kernel_rfl) (by kernel_rfl) (fun _ _ _ h => h) (Or.inr ⟨by rfl, rfl⟩) (by assumption) ?rest20
    simp only [Act.put, List.getElem_toArray, List.getElem_cons_zero, List.getElem_cons_succ, List.setIfInBounds_toArray, List.set_cons_zero, List.set_cons_succ]
    refine wpAnyH_take (i := 21) (oi := _) (v := undef) rfl (by kernel_rfl) (by kernel_rfl) (by kernel_rfl) (fun _ _ _ h => h) (Or.inr ⟨by rfl, rfl⟩) (by assumption) ?rest21
    simp only [Act.put, List.getElem_toArray, List.getElem_cons_zero, List.getElem_cons_succ, List.setIfInBounds_toArray, List.set_cons_zero, List.set_cons_succ]
    refine wpAnyH_take (i := 22) (oi := _) (v := ?v22) rfl (by kernel_rfl) (by kernel_rfl) (by kernel_rfl) (fun _ _ _ h => h) (Or.inl ⟨by rfl, ?hy22⟩) (by assumption) ?rest22
    case hy22 => (intro wq hSw; (try dsimp only at hSw); simp only [List.getElem_toArray, List.getElem_cons_zero, List.getElem_cons_succ]; go_simp; try with_reducible rfl)
    simp only [Act.put, List.getElem_toArray, List.getElem_cons_zero, List.getElem_cons_succ, List.setIfInBounds_toArray, List.set_cons_zero, List.set_cons_succ]
    refine wpAnyH_take (i := 23) (oi := _) (v := ?v23) rfl (by kernel_rfl) (by kernel_rfl) (by kernel_rfl) (fun _ _ _ h => h) (Or.inl ⟨by rfl, ?hy23⟩) (by assumption) ?rest23
    case hy23 => (intro wq hSw; (try dsimp only at hSw); simp only [List.getElem_toArray, List.getElem_cons_zero, List.getElem_cons_succ]; go_simp; try with_reducible rfl)
    simp only [Act.put, List.getElem_toArray, List.getElem_cons_zero, List.getElem_cons_succ, List.setIfInBounds_toArray, List.set_cons_zero, List.set_cons_succ]
    refine wpAnyH_take (i := 24) (oi := _) (v := ?v24) rfl (by kernel_rfl) (by kernel_rfl) (by kernel_rfl) (fun _ _ _ h => h) (Or.inl ⟨by rfl, ?hy24⟩) (by assumption) ?rest24
    case hy24 => (intro wq hSw; (try dsimp only at hSw); simp only [List.getElem_toArray, List.getElem_cons_zero, List.getElem_cons_succ]; go_simp; try with_reducible rfl)
    simp only [Act.put, List.getElem_toArray, List.getElem_cons_zero, List.getElem_cons_succ, List.setIfInBounds_toArray, List.set_cons_zero, List.set_cons_succ]
    refine wpAnyH_done (by kernel_rfl) ?_ _
    go_wp2_with fail
    go_ret
    exact ⟨by first | rfl | simp, HF.out.hB.trans (HWd.out.mono HF.out.hB.size)⟩
set_option maxHeartbeats 1000000 in
theorem last_hh (n : Int) (hn0 : -9223372036854775808 ≤ n ∧ n ≤ 9223372036854775807) (hn : ¬ (0 ≤ n ∧ n < 16)) (hn1 : 0 ≤ n) (hn2 : ¬ n < 16) (m : Int) (hm0 : -9223372036854775808 ≤ m ∧ m ≤ 9223372036854775807) (hm : ¬ (0 ≤ m ∧ m < 16)) (hm1 : 0 ≤ m) (hm2 : ¬ m < 16) (hne : n ≠ m)
    (k1 n1 : Int) (f1 m1 : UInt8) (l1 : Int) (k2 n2 : Int) (f2 m2 : UInt8) (l2 : Int) (w : World) :
    Calls Try.prog 3 #[.int .i64 n, .int .i64 m, .agg #[.int .i64 k1, .int .i64 n1, .int .u8 f1.toNat, .int .u8 m1.toNat, .int .i64 l1], .agg #[.int .i64 k2, .int .i64 n2, .int .u8 f2.toNat, .int .u8 m2.toNat, .int .i64 l2]] w fun e w' => e = .returned (.bool true) ∧ Below w.heap.size w w' := by
  have hld1 := fun (w' : World) (h : StepAt w' w.heap.size #[.int .i64 k1, .int .i64 n1, .int .u8 f1.toNat, .int .u8 m1.toNat, .int .i64 (-1)]) => load_step w' _ _ rfl h
  have hld2 := fun (w' : World) (h : StepAt w' (w.heap.size + 1) #[.int .i64 k2, .int .i64 n2, .int .u8 f2.toNat, .int .u8 m2.toNat, .int .i64 (-1)]) => load_step w' _ _ rfl h
  go_enter Try.func3, Try.ntmps3
  go_upto_region 7 with (first | (go_at_call 9; refine (shown_any _).mono ?_; rintro e w1 ⟨rfl, hb1⟩) | (go_at_call 10; refine (new_yes 16 _ (by decide) (by decide)).mono ?_; rintro e w2 ⟨d, s, rfl, D, hb2⟩; go_must (obtain ⟨b1, b2, c1, c2, e1, e2, D3, hB3⟩ := boxes_set w hb1 hb2 D)))
  generalize (w2.setCell ⟨w.heap.size, 4, none⟩ (.int .i64 (-1))).setCell ⟨w.heap.size + 1, 4, none⟩ (.int .i64 (-1)) = w3 at *
  have H3 := Lib.hid (St.mk D3 e1 e2 hB3)
  clear hb1 hb2 D b1 b2 c1 c2 D3 hB3 e2
  have L1 : (stepBytes f1 m1 (-1)).length = 1024 := stepBytes_len _ _ _
  have L2 : (stepBytes f2 m2 (-1)).length = 1024 := stepBytes_len _ _ _
  generalize hs1 : stepBytes f1 m1 (-1) = S1 at *
  generalize hs2 : stepBytes f2 m2 (-1) = S2 at *
  go_upto_region 8 with (first | (go_at_call 12; go_must (refine (H3.out.filled _ _ _ _).mono ?_); rintro e w4 ⟨g1, rfl, q1, q2, q3, q4, q5⟩; rw [hs1] at q3) | (go_at_call 11; go_must (refine (q4.write_no n hn0 hn g1).mono ?_); rintro e w5 ⟨rfl, rfl⟩))
  have e2' := q4.e2
  have HH5 := Lib.hid q4
  clear q1 q2 q3 q5 H3 e1 q4
  go_upto_region 9 with (first | (go_at_call 12; go_must (refine (HH5.out.filled _ _ _ _).mono ?_); rintro e w6 ⟨g2, rfl, q1, q2, q3, q4, q5⟩; rw [hs2] at q3) | (go_at_call 11; go_must (refine (q4.write_no m hm0 hm g2).mono ?_); rintro e w7 ⟨rfl, rfl⟩))
  have HH7 := Lib.hid q4
  clear q1 q2 q3 q5 HH5 e2' q4
  go_upto_region 10 with (first | (go_at_call 13; go_must (refine (HH7.out.read_no n hn0 hn).mono ?_); rintro e w8 ⟨rfl, rfl⟩))
  have HH8 := HH7
  clear HH7
  go_upto_region 11 with (first | (go_at_call 13; go_must (refine (HH8.out.read_no m hm0 hm).mono ?_); rintro e w9 ⟨rfl, rfl⟩))
  have HH9 := HH8
  clear HH8
  have hij : ¬ (n = m) := by omega
  have hdn : decide (n < 16) = false := by (rw [decide_eq_false_iff_not]; omega)
  have hdm : decide (m < 16) = false := by (rw [decide_eq_false_iff_not]; omega)
  have e1' := HH9.out.e1
  have e2' := HH9.out.e2
  go_upto_region 16 with (first | (go_at_call 12; go_must (refine (HH9.out.filled _ _ _ _).mono ?_); rintro e w10 ⟨gf, rfl, x1, x2, x3, x4, x5⟩; rw [hs1] at x3))
  all_goals
    have HHa := Lib.hid x4
    have FR := Lib.hid x3
    have BX := Lib.hid x5
    have e2'' := x4.e2
    clear e1' e2' x1 x2 x3 x4 x5
    go_upto_region 18 with (first | (go_at_call 12; go_must (refine (HHa.out.filled _ _ _ _).mono ?_); rintro e w11 ⟨gh, rfl, x1, x2, x3, x4, x5⟩; rw [hs2] at x3))
  all_goals
    have HF := HHa
    have hcf := fun (w' : World) (h : Hid (Below w10.heap.size w10 w')) => conv_bytes (cap := 1024) L1 (bytes_below FR.out h.out)
    have e2F := e2''
    have AX := fun (cs : List Value) (g : Nat) (h : w6.rangeAt g 0 cs) => range_below h BX.out
    obtain ⟨wf, hwf⟩ : ∃ wf, wf = w10 := ⟨_, rfl⟩
    clear HHa e2''
    have hld := fun (w' : World) (h : Hid (Below w10.heap.size w10 w')) => hld2 w' (e2F.below h.out e2F.lt)
    have HW : Hid (Below w10.heap.size w10 w10) := Below.refl _ _
    clear AX hld1 hld2 e2F hwf
    have HWd := Hid_drew HW
    refine wp_region_held_drew (S := fun w' => Hid (Below w10.heap.size w10 w')) (by kernel_rfl) HWd (fun hHeld => ?_)
    refine wpAnyH_take (i := 0) (oi := _) (v := ?v0) rfl (by kernel_rfl) (by kernel_rfl) (by kernel_rfl) (fun _ _ _ h => h) (Or.inl ⟨by rfl, ?hy0⟩) (by assumption) ?rest0
    case hy0 => (intro wq hSw; (try dsimp only at hSw); simp only [List.getElem_toArray, List.getElem_cons_zero, List.getElem_cons_succ]; go_simp; try with_reducible rfl)
    simp only [Act.put, List.getElem_toArray, List.getElem_cons_zero, List.getElem_cons_succ, List.setIfInBounds_toArray, List.set_cons_zero, List.set_cons_succ]
    refine wpAnyH_take (i := 1) (oi := _) (v := ?v1) rfl (by kernel_rfl) (by kernel_rfl) (by kernel_rfl) (fun _ _ _ h => h) (Or.inl ⟨by rfl, ?hy1⟩) (by assumption) ?rest1
    case hy1 => (intro wq hSw; (try dsimp only at hSw); simp only [List.getElem_toArray, List.getElem_cons_zero, List.getElem_cons_succ]; go_simp; try with_reducible rfl)
    simp only [Act.put, List.getElem_toArray, List.getElem_cons_zero, List.getElem_cons_succ, List.setIfInBounds_toArray, List.set_cons_zero, List.set_cons_succ]
    refine wpAnyH_take (i := 2) (oi := _) (v := ?v2) rfl (by kernel_rfl) (by kernel_rfl) (by kernel_rfl) (fun _ _ _ h => h) (Or.inl ⟨by rfl, ?hy2⟩) (by assumption) ?rest2
    case hy2 => (intro wq hSw; (try dsimp only at hSw); simp only [List.getElem_toArray, List.getElem_cons_zero, List.getElem_cons_succ]; go_simp; try with_reducible rfl)
    simp only [Act.put, List.getElem_toArray, List.getElem_cons_zero, List.getElem_cons_succ, List.setIfInBounds_toArray, List.set_cons_zero, List.set_cons_succ]
    refine wpAnyH_take (i := 3) (oi := _) (v := ?v3) rfl (by kernel_rfl) (by kernel_rfl) (by kernel_rfl) (fun _ _ _ h => h) (Or.inl ⟨by rfl, ?hy3⟩) (by assumption) ?rest3
    case hy3 => (intro wq hSw; (try dsimp only at hSw); simp only [List.getElem_toArray, List.getElem_cons_zero, List.getElem_cons_succ]; go_simp; try with_reducible rfl)
    simp only [Act.put, List.getElem_toArray, List.getElem_cons_zero, List.getElem_cons_succ, List.setIfInBounds_toArray, List.set_cons_zero, List.set_cons_succ]
    refine wpAnyH_take (i := 4) (oi := _) (v := ?v4) rfl (by kernel_rfl) (by kernel_rfl) (by kernel_rfl) (fun _ _ _ h => h) (Or.inl ⟨by rfl, ?hy4⟩) (by assumption) ?rest4
    case hy4 => (intro wq hSw; (try dsimp only at hSw); simp only [List.getElem_toArray, List.getElem_cons_zero, List.getElem_cons_succ]; go_simp; try with_reducible rfl)
    simp only [Act.put, List.getElem_toArray, List.getElem_cons_zero, List.getElem_cons_succ, List.setIfInBounds_toArray, List.set_cons_zero, List.set_cons_succ]
    refine wpAnyH_take (i := 5) (oi := _) (v := undef) rfl (by kernel_rfl) (by kernel_rfl) (by kernel_rfl) (fun _ _ _ h => h) (Or.inr ⟨by rfl, rfl⟩) (by assumption) ?rest5
    simp only [Act.put, List.getElem_toArray, List.getElem_cons_zero, List.getElem_cons_succ, List.setIfInBounds_toArray, List.set_cons_zero, List.set_cons_succ]
    refine wpAnyH_take (i := 6) (oi := _) (v := undef) rfl (by kernel_rfl) (by kernel_rfl) (by kernel_rfl) (fun _ _ _ h => h) (Or.inr ⟨by rfl, rfl⟩) (by assumption) ?rest6
    simp only [Act.put, List.getElem_toArray, List.getElem_cons_zero, List.getElem_cons_succ, List.setIfInBounds_toArray, List.set_cons_zero, List.set_cons_succ]
    refine wpAnyH_take (i := 7) (oi := _) (v := undef) rfl (by kernel_rfl) (by kernel_rfl) (by kernel_rfl) (fun _ _ _ h => h) (Or.inr ⟨by rfl, rfl⟩) (by assumption) ?rest7
    simp only [Act.put, List.getElem_toArray, List.getElem_cons_zero, List.getElem_cons_succ, List.setIfInBounds_toArray, List.set_cons_zero, List.set_cons_succ]
    refine wpAnyH_take (i := 8) (oi := _) (v := undef) rfl (by kernel_rfl) (by kernel_rfl) (by kernel_rfl) (fun _ _ _ h => h) (Or.inr ⟨by rfl, rfl⟩) (by assumption) ?rest8
    simp only [Act.put, List.getElem_toArray, List.getElem_cons_zero, List.getElem_cons_succ, List.setIfInBounds_toArray, List.set_cons_zero, List.set_cons_succ]
    refine wpAnyH_take (i := 9) (oi := _) (v := undef) rfl (by kernel_rfl) (by kernel_rfl) (by kernel_rfl) (fun _ _ _ h => h) (Or.inr ⟨by rfl, rfl⟩) (by assumption) ?rest9
    simp only [Act.put, List.getElem_toArray, List.getElem_cons_zero, List.getElem_cons_succ, List.setIfInBounds_toArray, List.set_cons_zero, List.set_cons_succ]
    refine wpAnyH_take (i := 10) (oi := _) (v := ?v10) rfl (by kernel_rfl) (by kernel_rfl) (by kernel_rfl) (fun _ _ _ h => h) (Or.inl ⟨by rfl, ?hy10⟩) (by assumption) ?rest10
    case hy10 => (intro wq hSw; (try dsimp only at hSw); simp only [List.getElem_toArray, List.getElem_cons_zero, List.getElem_cons_succ]; go_simp; try with_reducible rfl)
    simp only [Act.put, List.getElem_toArray, List.getElem_cons_zero, List.getElem_cons_succ, List.setIfInBounds_toArray, List.set_cons_zero, List.set_cons_succ]
    refine wpAnyH_take (i := 11) (oi := _) (v := ?v11) rfl (by kernel_rfl) (by kernel_rfl) (by kernel_rfl) (fun _ _ _ h => h) (Or.inl ⟨by rfl, ?hy11⟩) (by assumption) ?rest11
    case hy11 => (intro wq hSw; (try dsimp only at hSw); simp only [List.getElem_toArray, List.getElem_cons_zero, List.getElem_cons_succ]; go_simp; try with_reducible rfl)
    simp only [Act.put, List.getElem_toArray, List.getElem_cons_zero, List.getElem_cons_succ, List.setIfInBounds_toArray, List.set_cons_zero, List.set_cons_succ]
    refine wpAnyH_take (i := 12) (oi := _) (v := ?v12) rfl (by kernel_rfl) (by kernel_rfl) (by kernel_rfl) (fun _ _ _ h => h) (Or.inl ⟨by rfl, ?hy12⟩) (by assumption) ?rest12
    case hy12 => (intro wq hSw; (try dsimp only at hSw); simp only [List.getElem_toArray, List.getElem_cons_zero, List.getElem_cons_succ]; go_simp; try with_reducible rfl)
    simp only [Act.put, List.getElem_toArray, List.getElem_cons_zero, List.getElem_cons_succ, List.setIfInBounds_toArray, List.set_cons_zero, List.set_cons_succ]
    refine wpAnyH_take (i := 13) (oi := _) (v := ?v13) rfl (by kernel_rfl) (by kernel_rfl) (by kernel_rfl) (fun _ _ _ h => h) (Or.inl ⟨by rfl, ?hy13⟩) (by assumption) ?rest13
    case hy13 => (intro wq hSw; (try dsimp only at hSw); simp only [List.getElem_toArray, List.getElem_cons_zero, List.getElem_cons_succ]; go_simp; try with_reducible rfl)
    simp only [Act.put, List.getElem_toArray, List.getElem_cons_zero, List.getElem_cons_succ, List.setIfInBounds_toArray, List.set_cons_zero, List.set_cons_succ]
    refine wpAnyH_take (i := 14) (oi := _) (v := ?v14) rfl (by kernel_rfl) (by kernel_rfl) (by kernel_rfl) (fun _ _ _ h => h) (Or.inl ⟨by rfl, ?hy14⟩) (by assumption) ?rest14
    case hy14 => (intro wq hSw; (try dsimp only at hSw); simp only [List.getElem_toArray, List.getElem_cons_zero, List.getElem_cons_succ]; go_simp; try with_reducible rfl)
    simp only [Act.put, List.getElem_toArray, List.getElem_cons_zero, List.getElem_cons_succ, List.setIfInBounds_toArray, List.set_cons_zero, List.set_cons_succ]
    refine wpAnyH_take (i := 15) (oi := _) (v := ?v15) rfl (by kernel_rfl) (by kernel_rfl) (by kernel_rfl) (fun _ _ _ h => h) (Or.inl ⟨by rfl, ?hy15⟩) (by assumption) ?rest15
    case hy15 => (intro wq hSw; (try dsimp only at hSw); simp only [List.getElem_toArray, List.getElem_cons_zero, List.getElem_cons_succ]; go_simp; try with_reducible rfl)
    simp only [Act.put, List.getElem_toArray, List.getElem_cons_zero, List.getElem_cons_succ, List.setIfInBounds_toArray, List.set_cons_zero, List.set_cons_succ]
    refine wpAnyH_take (i := 16) (oi := _) (v := undef) rfl (by kernel_rfl) (by kernel_rfl) (by kernel_rfl) (fun _ _ _ h => h) (Or.inr ⟨by rfl, rfl⟩) (by assumption) ?rest16
    simp only [Act.put, List.getElem_toArray, List.getElem_cons_zero, List.getElem_cons_succ, List.setIfInBounds_toArray, List.set_cons_zero, List.set_cons_succ]
    refine wpAnyH_take (i := 17) (oi := _) (v := undef) rfl (by kernel_rfl) (by kernel_rfl) (by kernel_rfl) (fun _ _ _ h => h) (Or.inr ⟨by rfl, rfl⟩) (by assumption) ?rest17
    simp only [Act.put, List.getElem_toArray, List.getElem_cons_zero, List.getElem_cons_succ, List.setIfInBounds_toArray, List.set_cons_zero, List.set_cons_succ]
    refine wpAnyH_take (i := 18) (oi := _) (v := undef) rfl (by kernel_rfl) (by kernel_rfl) (by kernel_rfl) (fun _ _ _ h => h) (Or.inr ⟨by rfl, rfl⟩) (by assumption) ?rest18
    simp only [Act.put, List.getElem_toArray, List.getElem_cons_zero, List.getElem_cons_succ, List.setIfInBounds_toArray, List.set_cons_zero, List.set_cons_succ]
    refine wpAnyH_take (i := 19) (oi := _) (v := undef) rfl (by kernel_rfl) (by kernel_rfl) (by kernel_rfl) (fun _ _ _ h => h) (Or.inr ⟨by rfl, rfl⟩) (by assumption) ?rest19
    simp only [Act.put, List.getElem_toArray, List.getElem_cons_zero, List.getElem_cons_succ, List.setIfInBounds_toArray, List.set_cons_zero, List.set_cons_succ]
    refine wpAnyH_take (i := 20) (oi := _) (v := undef) rfl (by kernel_rfl) (by kernel_rfl) (by kernel_rfl) (fun _ _ _ h => h) (Or.inr ⟨by rfl, rfl⟩) (by assumption) ?rest20
    simp only [Act.put, List.getElem_toArray, List.getElem_cons_zero, List.getElem_cons_succ, List.setIfInBounds_toArray, List.set_cons_zero, List.set_cons_succ]
    refine wpAnyH_take (i := 21) (oi := _) (v := undef) rfl (by kernel_rfl) (by kernel_rfl) (by kernel_rfl) (fun _ _ _ h => h) (Or.inr ⟨by rfl, rfl⟩) (by assumption) ?rest21
    simp only [Act.put, List.getElem_toArray, List.getElem_cons_zero, List.getElem_cons_succ, List.setIfInBounds_toArray, List.set_cons_zero, List.set_cons_succ]
    refine wpAnyH_take (i := 22) (oi := _) (v := ?v22) rfl (by kernel_rfl) (by kernel_rfl) (by kernel_rfl) (fun _ _ _ h => h) (Or.inl ⟨by rfl, ?hy22⟩) (by assumption) ?rest22
    case hy22 => (intro wq hSw; (try dsimp only at hSw); simp only [List.getElem_toArray, List.getElem_cons_zero, List.getElem_cons_succ]; go_simp; try with_reducible rfl)
    simp only [Act.put, List.getElem_toArray, List.getElem_cons_zero, List.getElem_cons_succ, List.setIfInBounds_toArray, List.set_cons_zero, List.set_cons_succ]
    refine wpAnyH_take (i := 23) (oi := _) (v := ?v23) rfl (by kernel_rfl) (by kernel_rfl) (by kernel_rfl) (fun _ _ _ h => h) (Or.inl ⟨by rfl, ?hy23⟩) (by assumption) ?rest23
    case hy23 => (intro wq hSw; (try dsimp only at hSw); simp only [List.getElem_toArray, List.getElem_cons_zero, List.getElem_cons_succ]; go_simp; try with_reducible rfl)
    simp only [Act.put, List.getElem_toArray, List.getElem_cons_zero, List.getElem_cons_succ, List.setIfInBounds_toArray, List.set_cons_zero, List.set_cons_succ]
    refine wpAnyH_take (i := 24) (oi := _) (v := ?v24) rfl (by kernel_rfl) (by kernel_rfl) (by kernel_rfl) (fun _ _ _ h => h) (Or.inl ⟨by rfl, ?hy24⟩) (by assumption) ?rest24
    case hy24 => (intro wq hSw; (try dsimp only at hSw); simp only [List.getElem_toArray, List.getElem_cons_zero, List.getElem_cons_succ]; go_simp; try with_reducible rfl)
    simp only [Act.put, List.getElem_toArray, List.getElem_cons_zero, List.getElem_cons_succ, List.setIfInBounds_toArray, List.set_cons_zero, List.set_cons_succ]
    refine wpAnyH_done (by kernel_rfl) ?_ _
    go_wp2_with fail
    go_ret
    exact ⟨by first | rfl | simp, HF.out.hB.trans (HWd.out.mono HF.out.hB.size)⟩
set_option maxHeartbeats 1000000 in
theorem last_lh (n : Int) (hn0 : -9223372036854775808 ≤ n ∧ n ≤ 9223372036854775807) (hn : ¬ (0 ≤ n ∧ n < 16)) (hn1 : ¬ 0 ≤ n) (m : Int) (hm0 : -9223372036854775808 ≤ m ∧ m ≤ 9223372036854775807) (hm : ¬ (0 ≤ m ∧ m < 16)) (hm1 : 0 ≤ m) (hm2 : ¬ m < 16)
    (k1 n1 : Int) (f1 m1 : UInt8) (l1 : Int) (k2 n2 : Int) (f2 m2 : UInt8) (l2 : Int) (w : World) :
    Calls Try.prog 3 #[.int .i64 n, .int .i64 m, .agg #[.int .i64 k1, .int .i64 n1, .int .u8 f1.toNat, .int .u8 m1.toNat, .int .i64 l1], .agg #[.int .i64 k2, .int .i64 n2, .int .u8 f2.toNat, .int .u8 m2.toNat, .int .i64 l2]] w fun e w' => e = .returned (.bool true) ∧ Below w.heap.size w w' := by
  have hld1 := fun (w' : World) (h : StepAt w' w.heap.size #[.int .i64 k1, .int .i64 n1, .int .u8 f1.toNat, .int .u8 m1.toNat, .int .i64 (-1)]) => load_step w' _ _ rfl h
  have hld2 := fun (w' : World) (h : StepAt w' (w.heap.size + 1) #[.int .i64 k2, .int .i64 n2, .int .u8 f2.toNat, .int .u8 m2.toNat, .int .i64 (-1)]) => load_step w' _ _ rfl h
  go_enter Try.func3, Try.ntmps3
  go_upto_region 7 with (first | (go_at_call 9; refine (shown_any _).mono ?_; rintro e w1 ⟨rfl, hb1⟩) | (go_at_call 10; refine (new_yes 16 _ (by decide) (by decide)).mono ?_; rintro e w2 ⟨d, s, rfl, D, hb2⟩; go_must (obtain ⟨b1, b2, c1, c2, e1, e2, D3, hB3⟩ := boxes_set w hb1 hb2 D)))
  generalize (w2.setCell ⟨w.heap.size, 4, none⟩ (.int .i64 (-1))).setCell ⟨w.heap.size + 1, 4, none⟩ (.int .i64 (-1)) = w3 at *
  have H3 := Lib.hid (St.mk D3 e1 e2 hB3)
  clear hb1 hb2 D b1 b2 c1 c2 D3 hB3 e2
  have L1 : (stepBytes f1 m1 (-1)).length = 1024 := stepBytes_len _ _ _
  have L2 : (stepBytes f2 m2 (-1)).length = 1024 := stepBytes_len _ _ _
  generalize hs1 : stepBytes f1 m1 (-1) = S1 at *
  generalize hs2 : stepBytes f2 m2 (-1) = S2 at *
  go_upto_region 8 with (first | (go_at_call 12; go_must (refine (H3.out.filled _ _ _ _).mono ?_); rintro e w4 ⟨g1, rfl, q1, q2, q3, q4, q5⟩; rw [hs1] at q3) | (go_at_call 11; go_must (refine (q4.write_no n hn0 hn g1).mono ?_); rintro e w5 ⟨rfl, rfl⟩))
  have e2' := q4.e2
  have HH5 := Lib.hid q4
  clear q1 q2 q3 q5 H3 e1 q4
  go_upto_region 9 with (first | (go_at_call 12; go_must (refine (HH5.out.filled _ _ _ _).mono ?_); rintro e w6 ⟨g2, rfl, q1, q2, q3, q4, q5⟩; rw [hs2] at q3) | (go_at_call 11; go_must (refine (q4.write_no m hm0 hm g2).mono ?_); rintro e w7 ⟨rfl, rfl⟩))
  have HH7 := Lib.hid q4
  clear q1 q2 q3 q5 HH5 e2' q4
  go_upto_region 10 with (first | (go_at_call 13; go_must (refine (HH7.out.read_no n hn0 hn).mono ?_); rintro e w8 ⟨rfl, rfl⟩))
  have HH8 := HH7
  clear HH7
  go_upto_region 11 with (first | (go_at_call 13; go_must (refine (HH8.out.read_no m hm0 hm).mono ?_); rintro e w9 ⟨rfl, rfl⟩))
  have HH9 := HH8
  clear HH8
  have hij : ¬ (n = m) := by omega
  have hdn : decide (0 ≤ n) = false := by (rw [decide_eq_false_iff_not]; omega)
  have hdm : decide (m < 16) = false := by (rw [decide_eq_false_iff_not]; omega)
  have e1' := HH9.out.e1
  have e2' := HH9.out.e2
  go_upto_region 16 with (first | (go_at_call 12; go_must (refine (HH9.out.filled _ _ _ _).mono ?_); rintro e w10 ⟨gf, rfl, x1, x2, x3, x4, x5⟩; rw [hs1] at x3))
  all_goals
    have HHa := Lib.hid x4
    have FR := Lib.hid x3
    have BX := Lib.hid x5
    have e2'' := x4.e2
    clear e1' e2' x1 x2 x3 x4 x5
    go_upto_region 18 with (first | (go_at_call 12; go_must (refine (HHa.out.filled _ _ _ _).mono ?_); rintro e w11 ⟨gh, rfl, x1, x2, x3, x4, x5⟩; rw [hs2] at x3))
  all_goals
    have HF := HHa
    have hcf := fun (w' : World) (h : Hid (Below w10.heap.size w10 w')) => conv_bytes (cap := 1024) L1 (bytes_below FR.out h.out)
    have e2F := e2''
    have AX := fun (cs : List Value) (g : Nat) (h : w6.rangeAt g 0 cs) => range_below h BX.out
    obtain ⟨wf, hwf⟩ : ∃ wf, wf = w10 := ⟨_, rfl⟩
    clear HHa e2''
    have hld := fun (w' : World) (h : Hid (Below w10.heap.size w10 w')) => hld2 w' (e2F.below h.out e2F.lt)
    have HW : Hid (Below w10.heap.size w10 w10) := Below.refl _ _
    clear AX hld1 hld2 e2F hwf
    have HWd := Hid_drew HW
    refine wp_region_held_drew (S := fun w' => Hid (Below w10.heap.size w10 w')) (by kernel_rfl) HWd (fun hHeld => ?_)
    refine wpAnyH_take (i := 0) (oi := _) (v := ?v0) rfl (by kernel_rfl) (by kernel_rfl) (by kernel_rfl) (fun _ _ _ h => h) (Or.inl ⟨by rfl, ?hy0⟩) (by assumption) ?rest0
    case hy0 => (intro wq hSw; (try dsimp only at hSw); simp only [List.getElem_toArray, List.getElem_cons_zero, List.getElem_cons_succ]; go_simp; try with_reducible rfl)
    simp only [Act.put, List.getElem_toArray, List.getElem_cons_zero, List.getElem_cons_succ, List.setIfInBounds_toArray, List.set_cons_zero, List.set_cons_succ]
    refine wpAnyH_take (i := 1) (oi := _) (v := ?v1) rfl (by kernel_rfl) (by kernel_rfl) (by kernel_rfl) (fun _ _ _ h => h) (Or.inl ⟨by rfl, ?hy1⟩) (by assumption) ?rest1
    case hy1 => (intro wq hSw; (try dsimp only at hSw); simp only [List.getElem_toArray, List.getElem_cons_zero, List.getElem_cons_succ]; go_simp; try with_reducible rfl)
    simp only [Act.put, List.getElem_toArray, List.getElem_cons_zero, List.getElem_cons_succ, List.setIfInBounds_toArray, List.set_cons_zero, List.set_cons_succ]
    refine wpAnyH_take (i := 2) (oi := _) (v := ?v2) rfl (by kernel_rfl) (by kernel_rfl) (by kernel_rfl) (fun _ _ _ h => h) (Or.inl ⟨by rfl, ?hy2⟩) (by assumption) ?rest2
    case hy2 => (intro wq hSw; (try dsimp only at hSw); simp only [List.getElem_toArray, List.getElem_cons_zero, List.getElem_cons_succ]; go_simp; try with_reducible rfl)
    simp only [Act.put, List.getElem_toArray, List.getElem_cons_zero, List.getElem_cons_succ, List.setIfInBounds_toArray, List.set_cons_zero, List.set_cons_succ]
    refine wpAnyH_take (i := 3) (oi := _) (v := ?v3) rfl (by kernel_rfl) (by kernel_rfl) (by kernel_rfl) (fun _ _ _ h => h) (Or.inl ⟨by rfl, ?hy3⟩) (by assumption) ?rest3
    case hy3 => (intro wq hSw; (try dsimp only at hSw); simp only [List.getElem_toArray, List.getElem_cons_zero, List.getElem_cons_succ]; go_simp; try with_reducible rfl)
    simp only [Act.put, List.getElem_toArray, List.getElem_cons_zero, List.getElem_cons_succ, List.setIfInBounds_toArray, List.set_cons_zero, List.set_cons_succ]
    refine wpAnyH_take (i := 4) (oi := _) (v := ?v4) rfl (by kernel_rfl) (by kernel_rfl) (by kernel_rfl) (fun _ _ _ h => h) (Or.inl ⟨by rfl, ?hy4⟩) (by assumption) ?rest4
    case hy4 => (intro wq hSw; (try dsimp only at hSw); simp only [List.getElem_toArray, List.getElem_cons_zero, List.getElem_cons_succ]; go_simp; try with_reducible rfl)
    simp only [Act.put, List.getElem_toArray, List.getElem_cons_zero, List.getElem_cons_succ, List.setIfInBounds_toArray, List.set_cons_zero, List.set_cons_succ]
    refine wpAnyH_take (i := 5) (oi := _) (v := undef) rfl (by kernel_rfl) (by kernel_rfl) (by kernel_rfl) (fun _ _ _ h => h) (Or.inr ⟨by rfl, rfl⟩) (by assumption) ?rest5
    simp only [Act.put, List.getElem_toArray, List.getElem_cons_zero, List.getElem_cons_succ, List.setIfInBounds_toArray, List.set_cons_zero, List.set_cons_succ]
    refine wpAnyH_take (i := 6) (oi := _) (v := undef) rfl (by kernel_rfl) (by kernel_rfl) (by kernel_rfl) (fun _ _ _ h => h) (Or.inr ⟨by rfl, rfl⟩) (by assumption) ?rest6
    simp only [Act.put, List.getElem_toArray, List.getElem_cons_zero, List.getElem_cons_succ, List.setIfInBounds_toArray, List.set_cons_zero, List.set_cons_succ]
    refine wpAnyH_take (i := 7) (oi := _) (v := undef) rfl (by kernel_rfl) (by kernel_rfl) (by kernel_rfl) (fun _ _ _ h => h) (Or.inr ⟨by rfl, rfl⟩) (by assumption) ?rest7
    simp only [Act.put, List.getElem_toArray, List.getElem_cons_zero, List.getElem_cons_succ, List.setIfInBounds_toArray, List.set_cons_zero, List.set_cons_succ]
    refine wpAnyH_take (i := 8) (oi := _) (v := undef) rfl (by kernel_rfl) (by kernel_rfl) (by kernel_rfl) (fun _ _ _ h => h) (Or.inr ⟨by rfl, rfl⟩) (by assumption) ?rest8
    simp only [Act.put, List.getElem_toArray, List.getElem_cons_zero, List.getElem_cons_succ, List.setIfInBounds_toArray, List.set_cons_zero, List.set_cons_succ]
    refine wpAnyH_take (i := 9) (oi := _) (v := undef) rfl (by kernel_rfl) (by kernel_rfl) (by kernel_rfl) (fun _ _ _ h => h) (Or.inr ⟨by rfl, rfl⟩) (by assumption) ?rest9
    simp only [Act.put, List.getElem_toArray, List.getElem_cons_zero, List.getElem_cons_succ, List.setIfInBounds_toArray, List.set_cons_zero, List.set_cons_succ]
    refine wpAnyH_take (i := 10) (oi := _) (v := ?v10) rfl (by kernel_rfl) (by kernel_rfl) (by kernel_rfl) (fun _ _ _ h => h) (Or.inl ⟨by rfl, ?hy10⟩) (by assumption) ?rest10
    case hy10 => (intro wq hSw; (try dsimp only at hSw); simp only [List.getElem_toArray, List.getElem_cons_zero, List.getElem_cons_succ]; go_simp; try with_reducible rfl)
    simp only [Act.put, List.getElem_toArray, List.getElem_cons_zero, List.getElem_cons_succ, List.setIfInBounds_toArray, List.set_cons_zero, List.set_cons_succ]
    refine wpAnyH_take (i := 11) (oi := _) (v := ?v11) rfl (by kernel_rfl) (by kernel_rfl) (by kernel_rfl) (fun _ _ _ h => h) (Or.inl ⟨by rfl, ?hy11⟩) (by assumption) ?rest11
    case hy11 => (intro wq hSw; (try dsimp only at hSw); simp only [List.getElem_toArray, List.getElem_cons_zero, List.getElem_cons_succ]; go_simp; try with_reducible rfl)
    simp only [Act.put, List.getElem_toArray, List.getElem_cons_zero, List.getElem_cons_succ, List.setIfInBounds_toArray, List.set_cons_zero, List.set_cons_succ]
    refine wpAnyH_take (i := 12) (oi := _) (v := ?v12) rfl (by kernel_rfl) (by kernel_rfl) (by kernel_rfl) (fun _ _ _ h => h) (Or.inl ⟨by rfl, ?hy12⟩) (by assumption) ?rest12
    case hy12 => (intro wq hSw; (try dsimp only at hSw); simp only [List.getElem_toArray, List.getElem_cons_zero, List.getElem_cons_succ]; go_simp; try with_reducible rfl)
    simp only [Act.put, List.getElem_toArray, List.getElem_cons_zero, List.getElem_cons_succ, List.setIfInBounds_toArray, List.set_cons_zero, List.set_cons_succ]
    refine wpAnyH_take (i := 13) (oi := _) (v := ?v13) rfl (by kernel_rfl) (by kernel_rfl) (by kernel_rfl) (fun _ _ _ h => h) (Or.inl ⟨by rfl, ?hy13⟩) (by assumption) ?rest13
    case hy13 => (intro wq hSw; (try dsimp only at hSw); simp only [List.getElem_toArray, List.getElem_cons_zero, List.getElem_cons_succ]; go_simp; try with_reducible rfl)
    simp only [Act.put, List.getElem_toArray, List.getElem_cons_zero, List.getElem_cons_succ, List.setIfInBounds_toArray, List.set_cons_zero, List.set_cons_succ]
    refine wpAnyH_take (i := 14) (oi := _) (v := ?v14) rfl (by kernel_rfl) (by kernel_rfl) (by kernel_rfl) (fun _ _ _ h => h) (Or.inl ⟨by rfl, ?hy14⟩) (by assumption) ?rest14
    case hy14 => (intro wq hSw; (try dsimp only at hSw); simp only [List.getElem_toArray, List.getElem_cons_zero, List.getElem_cons_succ]; go_simp; try with_reducible rfl)
    simp only [Act.put, List.getElem_toArray, List.getElem_cons_zero, List.getElem_cons_succ, List.setIfInBounds_toArray, List.set_cons_zero, List.set_cons_succ]
    refine wpAnyH_take (i := 15) (oi := _) (v := ?v15) rfl (by kernel_rfl) (by kernel_rfl) (by kernel_rfl) (fun _ _ _ h => h) (Or.inl ⟨by rfl, ?hy15⟩) (by assumption) ?rest15
    case hy15 => (intro wq hSw; (try dsimp only at hSw); simp only [List.getElem_toArray, List.getElem_cons_zero, List.getElem_cons_succ]; go_simp; try with_reducible rfl)
    simp only [Act.put, List.getElem_toArray, List.getElem_cons_zero, List.getElem_cons_succ, List.setIfInBounds_toArray, List.set_cons_zero, List.set_cons_succ]
    refine wpAnyH_take (i := 16) (oi := _) (v := undef) rfl (by kernel_rfl) (by kernel_rfl) (by kernel_rfl) (fun _ _ _ h => h) (Or.inr ⟨by rfl, rfl⟩) (by assumption) ?rest16
    simp only [Act.put, List.getElem_toArray, List.getElem_cons_zero, List.getElem_cons_succ, List.setIfInBounds_toArray, List.set_cons_zero, List.set_cons_succ]
    refine wpAnyH_take (i := 17) (oi := _) (v := undef) rfl (by kernel_rfl) (by kernel_rfl) (by kernel_rfl) (fun _ _ _ h => h) (Or.inr ⟨by rfl, rfl⟩) (by assumption) ?rest17
    simp only [Act.put, List.getElem_toArray, List.getElem_cons_zero, List.getElem_cons_succ, List.setIfInBounds_toArray, List.set_cons_zero, List.set_cons_succ]
    refine wpAnyH_take (i := 18) (oi := _) (v := undef) rfl (by kernel_rfl) (by kernel_rfl) (by kernel_rfl) (fun _ _ _ h => h) (Or.inr ⟨by rfl, rfl⟩) (by assumption) ?rest18
    simp only [Act.put, List.getElem_toArray, List.getElem_cons_zero, List.getElem_cons_succ, List.setIfInBounds_toArray, List.set_cons_zero, List.set_cons_succ]
    refine wpAnyH_take (i := 19) (oi := _) (v := undef) rfl (by kernel_rfl) (by kernel_rfl) (by kernel_rfl) (fun _ _ _ h => h) (Or.inr ⟨by rfl, rfl⟩) (by assumption) ?rest19
    simp only [Act.put, List.getElem_toArray, List.getElem_cons_zero, List.getElem_cons_succ, List.setIfInBounds_toArray, List.set_cons_zero, List.set_cons_succ]
    refine wpAnyH_take (i := 20) (oi := _) (v := undef) rfl (by kernel_rfl) (by kernel_rfl) (by kernel_rfl) (fun _ _ _ h => h) (Or.inr ⟨by rfl, rfl⟩) (by assumption) ?rest20
    simp only [Act.put, List.getElem_toArray, List.getElem_cons_zero, List.getElem_cons_succ, List.setIfInBounds_toArray, List.set_cons_zero, List.set_cons_succ]
    refine wpAnyH_take (i := 21) (oi := _) (v := undef) rfl (by kernel_rfl) (by kernel_rfl) (by kernel_rfl) (fun _ _ _ h => h) (Or.inr ⟨by rfl, rfl⟩) (by assumption) ?rest21
    simp only [Act.put, List.getElem_toArray, List.getElem_cons_zero, List.getElem_cons_succ, List.setIfInBounds_toArray, List.set_cons_zero, List.set_cons_succ]
    refine wpAnyH_take (i := 22) (oi := _) (v := ?v22) rfl (by kernel_rfl) (by kernel_rfl) (by kernel_rfl) (fun _ _ _ h => h) (Or.inl ⟨by rfl, ?hy22⟩) (by assumption) ?rest22
    case hy22 => (intro wq hSw; (try dsimp only at hSw); simp only [List.getElem_toArray, List.getElem_cons_zero, List.getElem_cons_succ]; go_simp; try with_reducible rfl)
    simp only [Act.put, List.getElem_toArray, List.getElem_cons_zero, List.getElem_cons_succ, List.setIfInBounds_toArray, List.set_cons_zero, List.set_cons_succ]
    refine wpAnyH_take (i := 23) (oi := _) (v := ?v23) rfl (by kernel_rfl) (by kernel_rfl) (by kernel_rfl) (fun _ _ _ h => h) (Or.inl ⟨by rfl, ?hy23⟩) (by assumption) ?rest23
    case hy23 => (intro wq hSw; (try dsimp only at hSw); simp only [List.getElem_toArray, List.getElem_cons_zero, List.getElem_cons_succ]; go_simp; try with_reducible rfl)
    simp only [Act.put, List.getElem_toArray, List.getElem_cons_zero, List.getElem_cons_succ, List.setIfInBounds_toArray, List.set_cons_zero, List.set_cons_succ]
    refine wpAnyH_take (i := 24) (oi := _) (v := ?v24) rfl (by kernel_rfl) (by kernel_rfl) (by kernel_rfl) (fun _ _ _ h => h) (Or.inl ⟨by rfl, ?hy24⟩) (by assumption) ?rest24
    case hy24 => (intro wq hSw; (try dsimp only at hSw); simp only [List.getElem_toArray, List.getElem_cons_zero, List.getElem_cons_succ]; go_simp; try with_reducible rfl)
    simp only [Act.put, List.getElem_toArray, List.getElem_cons_zero, List.getElem_cons_succ, List.setIfInBounds_toArray, List.set_cons_zero, List.set_cons_succ]
    refine wpAnyH_done (by kernel_rfl) ?_ _
    go_wp2_with fail
    go_ret
    exact ⟨by first | rfl | simp, HF.out.hB.trans (HWd.out.mono HF.out.hB.size)⟩
set_option maxHeartbeats 1000000 in
theorem last_hl (n : Int) (hn0 : -9223372036854775808 ≤ n ∧ n ≤ 9223372036854775807) (hn : ¬ (0 ≤ n ∧ n < 16)) (hn1 : 0 ≤ n) (hn2 : ¬ n < 16) (m : Int) (hm0 : -9223372036854775808 ≤ m ∧ m ≤ 9223372036854775807) (hm : ¬ (0 ≤ m ∧ m < 16)) (hm1 : ¬ 0 ≤ m)
    (k1 n1 : Int) (f1 m1 : UInt8) (l1 : Int) (k2 n2 : Int) (f2 m2 : UInt8) (l2 : Int) (w : World) :
    Calls Try.prog 3 #[.int .i64 n, .int .i64 m, .agg #[.int .i64 k1, .int .i64 n1, .int .u8 f1.toNat, .int .u8 m1.toNat, .int .i64 l1], .agg #[.int .i64 k2, .int .i64 n2, .int .u8 f2.toNat, .int .u8 m2.toNat, .int .i64 l2]] w fun e w' => e = .returned (.bool true) ∧ Below w.heap.size w w' := by
  have hld1 := fun (w' : World) (h : StepAt w' w.heap.size #[.int .i64 k1, .int .i64 n1, .int .u8 f1.toNat, .int .u8 m1.toNat, .int .i64 (-1)]) => load_step w' _ _ rfl h
  have hld2 := fun (w' : World) (h : StepAt w' (w.heap.size + 1) #[.int .i64 k2, .int .i64 n2, .int .u8 f2.toNat, .int .u8 m2.toNat, .int .i64 (-1)]) => load_step w' _ _ rfl h
  go_enter Try.func3, Try.ntmps3
  go_upto_region 7 with (first | (go_at_call 9; refine (shown_any _).mono ?_; rintro e w1 ⟨rfl, hb1⟩) | (go_at_call 10; refine (new_yes 16 _ (by decide) (by decide)).mono ?_; rintro e w2 ⟨d, s, rfl, D, hb2⟩; go_must (obtain ⟨b1, b2, c1, c2, e1, e2, D3, hB3⟩ := boxes_set w hb1 hb2 D)))
  generalize (w2.setCell ⟨w.heap.size, 4, none⟩ (.int .i64 (-1))).setCell ⟨w.heap.size + 1, 4, none⟩ (.int .i64 (-1)) = w3 at *
  have H3 := Lib.hid (St.mk D3 e1 e2 hB3)
  clear hb1 hb2 D b1 b2 c1 c2 D3 hB3 e2
  have L1 : (stepBytes f1 m1 (-1)).length = 1024 := stepBytes_len _ _ _
  have L2 : (stepBytes f2 m2 (-1)).length = 1024 := stepBytes_len _ _ _
  generalize hs1 : stepBytes f1 m1 (-1) = S1 at *
  generalize hs2 : stepBytes f2 m2 (-1) = S2 at *
  go_upto_region 8 with (first | (go_at_call 12; go_must (refine (H3.out.filled _ _ _ _).mono ?_); rintro e w4 ⟨g1, rfl, q1, q2, q3, q4, q5⟩; rw [hs1] at q3) | (go_at_call 11; go_must (refine (q4.write_no n hn0 hn g1).mono ?_); rintro e w5 ⟨rfl, rfl⟩))
  have e2' := q4.e2
  have HH5 := Lib.hid q4
  clear q1 q2 q3 q5 H3 e1 q4
  go_upto_region 9 with (first | (go_at_call 12; go_must (refine (HH5.out.filled _ _ _ _).mono ?_); rintro e w6 ⟨g2, rfl, q1, q2, q3, q4, q5⟩; rw [hs2] at q3) | (go_at_call 11; go_must (refine (q4.write_no m hm0 hm g2).mono ?_); rintro e w7 ⟨rfl, rfl⟩))
  have HH7 := Lib.hid q4
  clear q1 q2 q3 q5 HH5 e2' q4
  go_upto_region 10 with (first | (go_at_call 13; go_must (refine (HH7.out.read_no n hn0 hn).mono ?_); rintro e w8 ⟨rfl, rfl⟩))
  have HH8 := HH7
  clear HH7
  go_upto_region 11 with (first | (go_at_call 13; go_must (refine (HH8.out.read_no m hm0 hm).mono ?_); rintro e w9 ⟨rfl, rfl⟩))
  have HH9 := HH8
  clear HH8
  have hij : ¬ (n = m) := by omega
  have hdn : decide (n < 16) = false := by (rw [decide_eq_false_iff_not]; omega)
  have hdm : decide (0 ≤ m) = false := by (rw [decide_eq_false_iff_not]; omega)
  have e1' := HH9.out.e1
  have e2' := HH9.out.e2
  go_upto_region 16 with (first | (go_at_call 12; go_must (refine (HH9.out.filled _ _ _ _).mono ?_); rintro e w10 ⟨gf, rfl, x1, x2, x3, x4, x5⟩; rw [hs1] at x3))
  all_goals
    have HHa := Lib.hid x4
    have FR := Lib.hid x3
    have BX := Lib.hid x5
    have e2'' := x4.e2
    clear e1' e2' x1 x2 x3 x4 x5
    go_upto_region 18 with (first | (go_at_call 12; go_must (refine (HHa.out.filled _ _ _ _).mono ?_); rintro e w11 ⟨gh, rfl, x1, x2, x3, x4, x5⟩; rw [hs2] at x3))
  all_goals
    have HF := HHa
    have hcf := fun (w' : World) (h : Hid (Below w10.heap.size w10 w')) => conv_bytes (cap := 1024) L1 (bytes_below FR.out h.out)
    have e2F := e2''
    have AX := fun (cs : List Value) (g : Nat) (h : w6.rangeAt g 0 cs) => range_below h BX.out
    obtain ⟨wf, hwf⟩ : ∃ wf, wf = w10 := ⟨_, rfl⟩
    clear HHa e2''
    have hld := fun (w' : World) (h : Hid (Below w10.heap.size w10 w')) => hld2 w' (e2F.below h.out e2F.lt)
    have HW : Hid (Below w10.heap.size w10 w10) := Below.refl _ _
    clear AX hld1 hld2 e2F hwf
    have HWd := Hid_drew HW
    refine wp_region_held_drew (S := fun w' => Hid (Below w10.heap.size w10 w')) (by kernel_rfl) HWd (fun hHeld => ?_)
    refine wpAnyH_take (i := 0) (oi := _) (v := ?v0) rfl (by kernel_rfl) (by kernel_rfl) (by kernel_rfl) (fun _ _ _ h => h) (Or.inl ⟨by rfl, ?hy0⟩) (by assumption) ?rest0
    case hy0 => (intro wq hSw; (try dsimp only at hSw); simp only [List.getElem_toArray, List.getElem_cons_zero, List.getElem_cons_succ]; go_simp; try with_reducible rfl)
    simp only [Act.put, List.getElem_toArray, List.getElem_cons_zero, List.getElem_cons_succ, List.setIfInBounds_toArray, List.set_cons_zero, List.set_cons_succ]
    refine wpAnyH_take (i := 1) (oi := _) (v := ?v1) rfl (by kernel_rfl) (by kernel_rfl) (by kernel_rfl) (fun _ _ _ h => h) (Or.inl ⟨by rfl, ?hy1⟩) (by assumption) ?rest1
    case hy1 => (intro wq hSw; (try dsimp only at hSw); simp only [List.getElem_toArray, List.getElem_cons_zero, List.getElem_cons_succ]; go_simp; try with_reducible rfl)
    simp only [Act.put, List.getElem_toArray, List.getElem_cons_zero, List.getElem_cons_succ, List.setIfInBounds_toArray, List.set_cons_zero, List.set_cons_succ]
    refine wpAnyH_take (i := 2) (oi := _) (v := ?v2) rfl (by kernel_rfl) (by kernel_rfl) (by kernel_rfl) (fun _ _ _ h => h) (Or.inl ⟨by rfl, ?hy2⟩) (by assumption) ?rest2
    case hy2 => (intro wq hSw; (try dsimp only at hSw); simp only [List.getElem_toArray, List.getElem_cons_zero, List.getElem_cons_succ]; go_simp; try with_reducible rfl)
    simp only [Act.put, List.getElem_toArray, List.getElem_cons_zero, List.getElem_cons_succ, List.setIfInBounds_toArray, List.set_cons_zero, List.set_cons_succ]
    refine wpAnyH_take (i := 3) (oi := _) (v := ?v3) rfl (by kernel_rfl) (by kernel_rfl) (by kernel_rfl) (fun _ _ _ h => h) (Or.inl ⟨by rfl, ?hy3⟩) (by assumption) ?rest3
    case hy3 => (intro wq hSw; (try dsimp only at hSw); simp only [List.getElem_toArray, List.getElem_cons_zero, List.getElem_cons_succ]; go_simp; try with_reducible rfl)
    simp only [Act.put, List.getElem_toArray, List.getElem_cons_zero, List.getElem_cons_succ, List.setIfInBounds_toArray, List.set_cons_zero, List.set_cons_succ]
    refine wpAnyH_take (i := 4) (oi := _) (v := ?v4) rfl (by kernel_rfl) (by kernel_rfl) (by kernel_rfl) (fun _ _ _ h => h) (Or.inl ⟨by rfl, ?hy4⟩) (by assumption) ?rest4
    case hy4 => (intro wq hSw; (try dsimp only at hSw); simp only [List.getElem_toArray, List.getElem_cons_zero, List.getElem_cons_succ]; go_simp; try with_reducible rfl)
    simp only [Act.put, List.getElem_toArray, List.getElem_cons_zero, List.getElem_cons_succ, List.setIfInBounds_toArray, List.set_cons_zero, List.set_cons_succ]
    refine wpAnyH_take (i := 5) (oi := _) (v := undef) rfl (by kernel_rfl) (by kernel_rfl) (by kernel_rfl) (fun _ _ _ h => h) (Or.inr ⟨by rfl, rfl⟩) (by assumption) ?rest5
    simp only [Act.put, List.getElem_toArray, List.getElem_cons_zero, List.getElem_cons_succ, List.setIfInBounds_toArray, List.set_cons_zero, List.set_cons_succ]
    refine wpAnyH_take (i := 6) (oi := _) (v := undef) rfl (by kernel_rfl) (by kernel_rfl) (by kernel_rfl) (fun _ _ _ h => h) (Or.inr ⟨by rfl, rfl⟩) (by assumption) ?rest6
    simp only [Act.put, List.getElem_toArray, List.getElem_cons_zero, List.getElem_cons_succ, List.setIfInBounds_toArray, List.set_cons_zero, List.set_cons_succ]
    refine wpAnyH_take (i := 7) (oi := _) (v := undef) rfl (by kernel_rfl) (by kernel_rfl) (by kernel_rfl) (fun _ _ _ h => h) (Or.inr ⟨by rfl, rfl⟩) (by assumption) ?rest7
    simp only [Act.put, List.getElem_toArray, List.getElem_cons_zero, List.getElem_cons_succ, List.setIfInBounds_toArray, List.set_cons_zero, List.set_cons_succ]
    refine wpAnyH_take (i := 8) (oi := _) (v := undef) rfl (by kernel_rfl) (by kernel_rfl) (by kernel_rfl) (fun _ _ _ h => h) (Or.inr ⟨by rfl, rfl⟩) (by assumption) ?rest8
    simp only [Act.put, List.getElem_toArray, List.getElem_cons_zero, List.getElem_cons_succ, List.setIfInBounds_toArray, List.set_cons_zero, List.set_cons_succ]
    refine wpAnyH_take (i := 9) (oi := _) (v := undef) rfl (by kernel_rfl) (by kernel_rfl) (by kernel_rfl) (fun _ _ _ h => h) (Or.inr ⟨by rfl, rfl⟩) (by assumption) ?rest9
    simp only [Act.put, List.getElem_toArray, List.getElem_cons_zero, List.getElem_cons_succ, List.setIfInBounds_toArray, List.set_cons_zero, List.set_cons_succ]
    refine wpAnyH_take (i := 10) (oi := _) (v := ?v10) rfl (by kernel_rfl) (by kernel_rfl) (by kernel_rfl) (fun _ _ _ h => h) (Or.inl ⟨by rfl, ?hy10⟩) (by assumption) ?rest10
    case hy10 => (intro wq hSw; (try dsimp only at hSw); simp only [List.getElem_toArray, List.getElem_cons_zero, List.getElem_cons_succ]; go_simp; try with_reducible rfl)
    simp only [Act.put, List.getElem_toArray, List.getElem_cons_zero, List.getElem_cons_succ, List.setIfInBounds_toArray, List.set_cons_zero, List.set_cons_succ]
    refine wpAnyH_take (i := 11) (oi := _) (v := ?v11) rfl (by kernel_rfl) (by kernel_rfl) (by kernel_rfl) (fun _ _ _ h => h) (Or.inl ⟨by rfl, ?hy11⟩) (by assumption) ?rest11
    case hy11 => (intro wq hSw; (try dsimp only at hSw); simp only [List.getElem_toArray, List.getElem_cons_zero, List.getElem_cons_succ]; go_simp; try with_reducible rfl)
    simp only [Act.put, List.getElem_toArray, List.getElem_cons_zero, List.getElem_cons_succ, List.setIfInBounds_toArray, List.set_cons_zero, List.set_cons_succ]
    refine wpAnyH_take (i := 12) (oi := _) (v := ?v12) rfl (by kernel_rfl) (by kernel_rfl) (by kernel_rfl) (fun _ _ _ h => h) (Or.inl ⟨by rfl, ?hy12⟩) (by assumption) ?rest12
    case hy12 => (intro wq hSw; (try dsimp only at hSw); simp only [List.getElem_toArray, List.getElem_cons_zero, List.getElem_cons_succ]; go_simp; try with_reducible rfl)
    simp only [Act.put, List.getElem_toArray, List.getElem_cons_zero, List.getElem_cons_succ, List.setIfInBounds_toArray, List.set_cons_zero, List.set_cons_succ]
    refine wpAnyH_take (i := 13) (oi := _) (v := ?v13) rfl (by kernel_rfl) (by kernel_rfl) (by kernel_rfl) (fun _ _ _ h => h) (Or.inl ⟨by rfl, ?hy13⟩) (by assumption) ?rest13
    case hy13 => (intro wq hSw; (try dsimp only at hSw); simp only [List.getElem_toArray, List.getElem_cons_zero, List.getElem_cons_succ]; go_simp; try with_reducible rfl)
    simp only [Act.put, List.getElem_toArray, List.getElem_cons_zero, List.getElem_cons_succ, List.setIfInBounds_toArray, List.set_cons_zero, List.set_cons_succ]
    refine wpAnyH_take (i := 14) (oi := _) (v := ?v14) rfl (by kernel_rfl) (by kernel_rfl) (by kernel_rfl) (fun _ _ _ h => h) (Or.inl ⟨by rfl, ?hy14⟩) (by assumption) ?rest14
    case hy14 => (intro wq hSw; (try dsimp only at hSw); simp only [List.getElem_toArray, List.getElem_cons_zero, List.getElem_cons_succ]; go_simp; try with_reducible rfl)
    simp only [Act.put, List.getElem_toArray, List.getElem_cons_zero, List.getElem_cons_succ, List.setIfInBounds_toArray, List.set_cons_zero, List.set_cons_succ]
    refine wpAnyH_take (i := 15) (oi := _) (v := ?v15) rfl (by kernel_rfl) (by kernel_rfl) (by kernel_rfl) (fun _ _ _ h => h) (Or.inl ⟨by rfl, ?hy15⟩) (by assumption) ?rest15
    case hy15 => (intro wq hSw; (try dsimp only at hSw); simp only [List.getElem_toArray, List.getElem_cons_zero, List.getElem_cons_succ]; go_simp; try with_reducible rfl)
    simp only [Act.put, List.getElem_toArray, List.getElem_cons_zero, List.getElem_cons_succ, List.setIfInBounds_toArray, List.set_cons_zero, List.set_cons_succ]
    refine wpAnyH_take (i := 16) (oi := _) (v := undef) rfl (by kernel_rfl) (by kernel_rfl) (by kernel_rfl) (fun _ _ _ h => h) (Or.inr ⟨by rfl, rfl⟩) (by assumption) ?rest16
    simp only [Act.put, List.getElem_toArray, List.getElem_cons_zero, List.getElem_cons_succ, List.setIfInBounds_toArray, List.set_cons_zero, List.set_cons_succ]
    refine wpAnyH_take (i := 17) (oi := _) (v := undef) rfl (by kernel_rfl) (by kernel_rfl) (by kernel_rfl) (fun _ _ _ h => h) (Or.inr ⟨by rfl, rfl⟩) (by assumption) ?rest17
    simp only [Act.put, List.getElem_toArray, List.getElem_cons_zero, List.getElem_cons_succ, List.setIfInBounds_toArray, List.set_cons_zero, List.set_cons_succ]
    refine wpAnyH_take (i := 18) (oi := _) (v := undef) rfl (by kernel_rfl) (by kernel_rfl) (by kernel_rfl) (fun _ _ _ h => h) (Or.inr ⟨by rfl, rfl⟩) (by assumption) ?rest18
    simp only [Act.put, List.getElem_toArray, List.getElem_cons_zero, List.getElem_cons_succ, List.setIfInBounds_toArray, List.set_cons_zero, List.set_cons_succ]
    refine wpAnyH_take (i := 19) (oi := _) (v := undef) rfl (by kernel_rfl) (by kernel_rfl) (by kernel_rfl) (fun _ _ _ h => h) (Or.inr ⟨by rfl, rfl⟩) (by assumption) ?rest19
    simp only [Act.put, List.getElem_toArray, List.getElem_cons_zero, List.getElem_cons_succ, List.setIfInBounds_toArray, List.set_cons_zero, List.set_cons_succ]
    refine wpAnyH_take (i := 20) (oi := _) (v := undef) rfl (by kernel_rfl) (by kernel_rfl) (by kernel_rfl) (fun _ _ _ h => h) (Or.inr ⟨by rfl, rfl⟩) (by assumption) ?rest20
    simp only [Act.put, List.getElem_toArray, List.getElem_cons_zero, List.getElem_cons_succ, List.setIfInBounds_toArray, List.set_cons_zero, List.set_cons_succ]
    refine wpAnyH_take (i := 21) (oi := _) (v := undef) rfl (by kernel_rfl) (by kernel_rfl) (by kernel_rfl) (fun _ _ _ h => h) (Or.inr ⟨by rfl, rfl⟩) (by assumption) ?rest21
    simp only [Act.put, List.getElem_toArray, List.getElem_cons_zero, List.getElem_cons_succ, List.setIfInBounds_toArray, List.set_cons_zero, List.set_cons_succ]
    refine wpAnyH_take (i := 22) (oi := _) (v := ?v22) rfl (by kernel_rfl) (by kernel_rfl) (by kernel_rfl) (fun _ _ _ h => h) (Or.inl ⟨by rfl, ?hy22⟩) (by assumption) ?rest22
    case hy22 => (intro wq hSw; (try dsimp only at hSw); simp only [List.getElem_toArray, List.getElem_cons_zero, List.getElem_cons_succ]; go_simp; try with_reducible rfl)
    simp only [Act.put, List.getElem_toArray, List.getElem_cons_zero, List.getElem_cons_succ, List.setIfInBounds_toArray, List.set_cons_zero, List.set_cons_succ]
    refine wpAnyH_take (i := 23) (oi := _) (v := ?v23) rfl (by kernel_rfl) (by kernel_rfl) (by kernel_rfl) (fun _ _ _ h => h) (Or.inl ⟨by rfl, ?hy23⟩) (by assumption) ?rest23
    case hy23 => (intro wq hSw; (try dsimp only at hSw); simp only [List.getElem_toArray, List.getElem_cons_zero, List.getElem_cons_succ]; go_simp; try with_reducible rfl)
    simp only [Act.put, List.getElem_toArray, List.getElem_cons_zero, List.getElem_cons_succ, List.setIfInBounds_toArray, List.set_cons_zero, List.set_cons_succ]
    refine wpAnyH_take (i := 24) (oi := _) (v := ?v24) rfl (by kernel_rfl) (by kernel_rfl) (by kernel_rfl) (fun _ _ _ h => h) (Or.inl ⟨by rfl, ?hy24⟩) (by assumption) ?rest24
    case hy24 => (intro wq hSw; (try dsimp only at hSw); simp only [List.getElem_toArray, List.getElem_cons_zero, List.getElem_cons_succ]; go_simp; try with_reducible rfl)
    simp only [Act.put, List.getElem_toArray, List.getElem_cons_zero, List.getElem_cons_succ, List.setIfInBounds_toArray, List.set_cons_zero, List.set_cons_succ]
    refine wpAnyH_done (by kernel_rfl) ?_ _
    go_wp2_with fail
    go_ret
    exact ⟨by first | rfl | simp, HF.out.hB.trans (HWd.out.mono HF.out.hB.size)⟩
set_option maxHeartbeats 1000000 in
theorem last_il (n : Nat) (hn : n < 16) (m : Int) (hm0 : -9223372036854775808 ≤ m ∧ m ≤ 9223372036854775807) (hm : ¬ (0 ≤ m ∧ m < 16)) (hm1 : ¬ 0 ≤ m)
    (k1 n1 : Int) (f1 m1 : UInt8) (l1 : Int) (k2 n2 : Int) (f2 m2 : UInt8) (l2 : Int) (w : World) :
    Calls Try.prog 3 #[.int .i64 (n : Int), .int .i64 m, .agg #[.int .i64 k1, .int .i64 n1, .int .u8 f1.toNat, .int .u8 m1.toNat, .int .i64 l1], .agg #[.int .i64 k2, .int .i64 n2, .int .u8 f2.toNat, .int .u8 m2.toNat, .int .i64 l2]] w fun e w' => e = .returned (.bool true) ∧ Below w.heap.size w w' := by
  have hld1 := fun (w' : World) (h : StepAt w' w.heap.size #[.int .i64 k1, .int .i64 n1, .int .u8 f1.toNat, .int .u8 m1.toNat, .int .i64 (-1)]) => load_step w' _ _ rfl h
  have hld2 := fun (w' : World) (h : StepAt w' (w.heap.size + 1) #[.int .i64 k2, .int .i64 n2, .int .u8 f2.toNat, .int .u8 m2.toNat, .int .i64 (-1)]) => load_step w' _ _ rfl h
  go_enter Try.func3, Try.ntmps3
  go_upto_region 7 with (first | (go_at_call 9; refine (shown_any _).mono ?_; rintro e w1 ⟨rfl, hb1⟩) | (go_at_call 10; refine (new_yes 16 _ (by decide) (by decide)).mono ?_; rintro e w2 ⟨d, s, rfl, D, hb2⟩; go_must (obtain ⟨b1, b2, c1, c2, e1, e2, D3, hB3⟩ := boxes_set w hb1 hb2 D)))
  generalize (w2.setCell ⟨w.heap.size, 4, none⟩ (.int .i64 (-1))).setCell ⟨w.heap.size + 1, 4, none⟩ (.int .i64 (-1)) = w3 at *
  have H3 := Lib.hid (St.mk D3 e1 e2 hB3)
  clear hb1 hb2 D b1 b2 c1 c2 D3 hB3 e2
  have L1 : (stepBytes f1 m1 (-1)).length = 1024 := stepBytes_len _ _ _
  have L2 : (stepBytes f2 m2 (-1)).length = 1024 := stepBytes_len _ _ _
  generalize hs1 : stepBytes f1 m1 (-1) = S1 at *
  generalize hs2 : stepBytes f2 m2 (-1) = S2 at *
  go_upto_region 8 with (first | (go_at_call 12; go_must (refine (H3.out.filled _ _ _ _).mono ?_); rintro e w4 ⟨g1, rfl, q1, q2, q3, q4, q5⟩; rw [hs1] at q3) | (go_at_call 11; go_must (refine (q4.write n hn (by simp) g1 S1 L1 q3 (.inr q2)).mono ?_); rintro e w5 ⟨rfl, v5, H5⟩))
  have e2' := H5.e2
  have HH5 := Lib.hid H5
  clear q1 q2 q3 q4 q5 H3 e1 H5
  go_upto_region 9 with (first | (go_at_call 12; go_must (refine (HH5.out.filled _ _ _ _).mono ?_); rintro e w6 ⟨g2, rfl, q1, q2, q3, q4, q5⟩; rw [hs2] at q3) | (go_at_call 11; go_must (refine (q4.write_no m hm0 hm g2).mono ?_); rintro e w7 ⟨rfl, rfl⟩))
  have HH7 := Lib.hid q4
  clear q1 q2 q3 q5 HH5 e2' q4
  go_upto_region 10 with (first | (go_at_call 13; go_must (refine (HH7.out.read n hn).mono ?_); rintro e w8 ⟨ga, rfl, pr, ps, pb⟩))
  have HH8 := Lib.hid ps
  have AR := Lib.hid pr
  clear ps pr pb HH7
  go_upto_region 11 with (first | (go_at_call 13; go_must (refine (HH8.out.read_no m hm0 hm).mono ?_); rintro e w9 ⟨rfl, rfl⟩))
  have HH9 := HH8
  have AR9 := AR
  clear AR
  clear HH8
  have hni : (n : Int) < 16 := by omega
  have hnj : (0 : Int) ≤ (n : Int) := by omega
  have hij : ¬ ((n : Int) = m) := by omega
  have hdm : decide (0 ≤ m) = false := by (rw [decide_eq_false_iff_not]; omega)
  have e1' := HH9.out.e1
  have e2' := HH9.out.e2
  go_upto_region 16 with (first | (go_at_call 12; go_must (refine (HH9.out.filled _ _ _ _).mono ?_); rintro e w10 ⟨gf, rfl, x1, x2, x3, x4, x5⟩; rw [hs1] at x3))
  all_goals
    have HHa := Lib.hid x4
    have FR := Lib.hid x3
    have BX := Lib.hid x5
    have e2'' := x4.e2
    clear e1' e2' x1 x2 x3 x4 x5
    go_upto_region 18 with (first | (go_at_call 12; go_must (refine (HHa.out.filled _ _ _ _).mono ?_); rintro e w11 ⟨gh, rfl, x1, x2, x3, x4, x5⟩; rw [hs2] at x3))
  all_goals
    have HF := HHa
    have hcf := fun (w' : World) (h : Hid (Below w10.heap.size w10 w')) => conv_bytes (cap := 1024) L1 (bytes_below FR.out h.out)
    have e2F := e2''
    have AX := fun (cs : List Value) (g : Nat) (h : w8.rangeAt g 0 cs) => range_below h BX.out
    obtain ⟨wf, hwf⟩ : ∃ wf, wf = w10 := ⟨_, rfl⟩
    clear HHa e2''
    have ha1 := AX _ ga AR9.out
    rw [show upd (fun _ => nought) n (ofL S1) n = ofL S1 from by unfold upd; simp []] at ha1
    have HA1 := Lib.hid ha1
    clear ha1
    have hca := fun (w' : World) (h : Hid (Below w10.heap.size w10 w')) => conv_range w' ga 0 1024 1024 (ofL S1) (by rw [ofL_size, L1]) (range_below HA1.out h.out)
    have hld := fun (w' : World) (h : Hid (Below w10.heap.size w10 w')) => hld2 w' (e2F.below h.out e2F.lt)
    have HW : Hid (Below w10.heap.size w10 w10) := Below.refl _ _
    clear AX hld1 hld2 e2F hwf
    have HWd := Hid_drew HW
    refine wp_region_held_drew (S := fun w' => Hid (Below w10.heap.size w10 w')) (by kernel_rfl) HWd (fun hHeld => ?_)
    refine wpAnyH_take (i := 0) (oi := _) (v := ?v0) rfl (by kernel_rfl) (by kernel_rfl) (by kernel_rfl) (fun _ _ _ h => h) (Or.inl ⟨by rfl, ?hy0⟩) (by assumption) ?rest0
    case hy0 => (intro wq hSw; (try dsimp only at hSw); simp only [List.getElem_toArray, List.getElem_cons_zero, List.getElem_cons_succ]; go_simp; try with_reducible rfl)
    simp only [Act.put, List.getElem_toArray, List.getElem_cons_zero, List.getElem_cons_succ, List.setIfInBounds_toArray, List.set_cons_zero, List.set_cons_succ]
    refine wpAnyH_take (i := 1) (oi := _) (v := ?v1) rfl (by kernel_rfl) (by kernel_rfl) (by kernel_rfl) (fun _ _ _ h => h) (Or.inl ⟨by rfl, ?hy1⟩) (by assumption) ?rest1
    case hy1 => (intro wq hSw; (try dsimp only at hSw); simp only [List.getElem_toArray, List.getElem_cons_zero, List.getElem_cons_succ]; go_simp; try with_reducible rfl)
    simp only [Act.put, List.getElem_toArray, List.getElem_cons_zero, List.getElem_cons_succ, List.setIfInBounds_toArray, List.set_cons_zero, List.set_cons_succ]
    refine wpAnyH_take (i := 2) (oi := _) (v := ?v2) rfl (by kernel_rfl) (by kernel_rfl) (by kernel_rfl) (fun _ _ _ h => h) (Or.inl ⟨by rfl, ?hy2⟩) (by assumption) ?rest2
    case hy2 => (intro wq hSw; (try dsimp only at hSw); simp only [List.getElem_toArray, List.getElem_cons_zero, List.getElem_cons_succ]; go_simp; try with_reducible rfl)
    simp only [Act.put, List.getElem_toArray, List.getElem_cons_zero, List.getElem_cons_succ, List.setIfInBounds_toArray, List.set_cons_zero, List.set_cons_succ]
    refine wpAnyH_take (i := 3) (oi := _) (v := ?v3) rfl (by kernel_rfl) (by kernel_rfl) (by kernel_rfl) (fun _ _ _ h => h) (Or.inl ⟨by rfl, ?hy3⟩) (by assumption) ?rest3
    case hy3 => (intro wq hSw; (try dsimp only at hSw); simp only [List.getElem_toArray, List.getElem_cons_zero, List.getElem_cons_succ]; go_simp; try with_reducible rfl)
    simp only [Act.put, List.getElem_toArray, List.getElem_cons_zero, List.getElem_cons_succ, List.setIfInBounds_toArray, List.set_cons_zero, List.set_cons_succ]
    refine wpAnyH_take (i := 4) (oi := _) (v := ?v4) rfl (by kernel_rfl) (by kernel_rfl) (by kernel_rfl) (fun _ _ _ h => h) (Or.inl ⟨by rfl, ?hy4⟩) (by assumption) ?rest4
    case hy4 => (intro wq hSw; (try dsimp only at hSw); simp only [List.getElem_toArray, List.getElem_cons_zero, List.getElem_cons_succ]; go_simp; try with_reducible rfl)
    simp only [Act.put, List.getElem_toArray, List.getElem_cons_zero, List.getElem_cons_succ, List.setIfInBounds_toArray, List.set_cons_zero, List.set_cons_succ]
    refine wpAnyH_take (i := 5) (oi := _) (v := ?v5) rfl (by kernel_rfl) (by kernel_rfl) (by kernel_rfl) (fun _ _ _ h => h) (Or.inl ⟨by rfl, ?hy5⟩) (by assumption) ?rest5
    case hy5 => (intro wq hSw; (try dsimp only at hSw); simp only [List.getElem_toArray, List.getElem_cons_zero, List.getElem_cons_succ]; go_simp; try with_reducible rfl)
    simp only [Act.put, List.getElem_toArray, List.getElem_cons_zero, List.getElem_cons_succ, List.setIfInBounds_toArray, List.set_cons_zero, List.set_cons_succ]
    refine wpAnyH_take (i := 6) (oi := _) (v := ?v6) rfl (by kernel_rfl) (by kernel_rfl) (by kernel_rfl) (fun _ _ _ h => h) (Or.inl ⟨by rfl, ?hy6⟩) (by assumption) ?rest6
    case hy6 => (intro wq hSw; (try dsimp only at hSw); simp only [List.getElem_toArray, List.getElem_cons_zero, List.getElem_cons_succ]; go_simp; try with_reducible rfl)
    simp only [Act.put, List.getElem_toArray, List.getElem_cons_zero, List.getElem_cons_succ, List.setIfInBounds_toArray, List.set_cons_zero, List.set_cons_succ]
    refine wpAnyH_take (i := 7) (oi := _) (v := ?v7) rfl (by kernel_rfl) (by kernel_rfl) (by kernel_rfl) (fun _ _ _ h => h) (Or.inl ⟨by rfl, ?hy7⟩) (by assumption) ?rest7
    case hy7 => (intro wq hSw; (try dsimp only at hSw); simp only [List.getElem_toArray, List.getElem_cons_zero, List.getElem_cons_succ]; go_simp; try with_reducible rfl)
    simp only [Act.put, List.getElem_toArray, List.getElem_cons_zero, List.getElem_cons_succ, List.setIfInBounds_toArray, List.set_cons_zero, List.set_cons_succ]
    refine wpAnyH_take (i := 8) (oi := _) (v := ?v8) rfl (by kernel_rfl) (by kernel_rfl) (by kernel_rfl) (fun _ _ _ h => h) (Or.inl ⟨by rfl, ?hy8⟩) (by assumption) ?rest8
    case hy8 => (intro wq hSw; (try dsimp only at hSw); simp only [List.getElem_toArray, List.getElem_cons_zero, List.getElem_cons_succ]; go_simp; try with_reducible rfl)
    simp only [Act.put, List.getElem_toArray, List.getElem_cons_zero, List.getElem_cons_succ, List.setIfInBounds_toArray, List.set_cons_zero, List.set_cons_succ]
    refine wpAnyH_take (i := 9) (oi := _) (v := ?v9) rfl (by kernel_rfl) (by kernel_rfl) (by kernel_rfl) (fun _ _ _ h => h) (Or.inl ⟨by rfl, ?hy9⟩) (by assumption) ?rest9
    case hy9 => (intro wq hSw; (try dsimp only at hSw); simp only [List.getElem_toArray, List.getElem_cons_zero, List.getElem_cons_succ]; go_simp; try with_reducible rfl)
    simp only [Act.put, List.getElem_toArray, List.getElem_cons_zero, List.getElem_cons_succ, List.setIfInBounds_toArray, List.set_cons_zero, List.set_cons_succ]
    refine wpAnyH_take (i := 10) (oi := _) (v := ?v10) rfl (by kernel_rfl) (by kernel_rfl) (by kernel_rfl) (fun _ _ _ h => h) (Or.inl ⟨by rfl, ?hy10⟩) (by assumption) ?rest10
    case hy10 => (intro wq hSw; (try dsimp only at hSw); simp only [List.getElem_toArray, List.getElem_cons_zero, List.getElem_cons_succ]; go_simp; try with_reducible rfl)
    simp only [Act.put, List.getElem_toArray, List.getElem_cons_zero, List.getElem_cons_succ, List.setIfInBounds_toArray, List.set_cons_zero, List.set_cons_succ]
    refine wpAnyH_take (i := 11) (oi := _) (v := ?v11) rfl (by kernel_rfl) (by kernel_rfl) (by kernel_rfl) (fun _ _ _ h => h) (Or.inl ⟨by rfl, ?hy11⟩) (by assumption) ?rest11
    case hy11 => (intro wq hSw; (try dsimp only at hSw); simp only [List.getElem_toArray, List.getElem_cons_zero, List.getElem_cons_succ]; go_simp; try with_reducible rfl)
    simp only [Act.put, List.getElem_toArray, List.getElem_cons_zero, List.getElem_cons_succ, List.setIfInBounds_toArray, List.set_cons_zero, List.set_cons_succ]
    refine wpAnyH_take (i := 12) (oi := _) (v := ?v12) rfl (by kernel_rfl) (by kernel_rfl) (by kernel_rfl) (fun _ _ _ h => h) (Or.inl ⟨by rfl, ?hy12⟩) (by assumption) ?rest12
    case hy12 => (intro wq hSw; (try dsimp only at hSw); simp only [List.getElem_toArray, List.getElem_cons_zero, List.getElem_cons_succ]; go_simp; try with_reducible rfl)
    simp only [Act.put, List.getElem_toArray, List.getElem_cons_zero, List.getElem_cons_succ, List.setIfInBounds_toArray, List.set_cons_zero, List.set_cons_succ]
    refine wpAnyH_take (i := 13) (oi := _) (v := ?v13) rfl (by kernel_rfl) (by kernel_rfl) (by kernel_rfl) (fun _ _ _ h => h) (Or.inl ⟨by rfl, ?hy13⟩) (by assumption) ?rest13
    case hy13 => (intro wq hSw; (try dsimp only at hSw); simp only [List.getElem_toArray, List.getElem_cons_zero, List.getElem_cons_succ]; go_simp; try with_reducible rfl)
    simp only [Act.put, List.getElem_toArray, List.getElem_cons_zero, List.getElem_cons_succ, List.setIfInBounds_toArray, List.set_cons_zero, List.set_cons_succ]
    refine wpAnyH_take (i := 14) (oi := _) (v := ?v14) rfl (by kernel_rfl) (by kernel_rfl) (by kernel_rfl) (fun _ _ _ h => h) (Or.inl ⟨by rfl, ?hy14⟩) (by assumption) ?rest14
    case hy14 => (intro wq hSw; (try dsimp only at hSw); simp only [List.getElem_toArray, List.getElem_cons_zero, List.getElem_cons_succ]; go_simp; try with_reducible rfl)
    simp only [Act.put, List.getElem_toArray, List.getElem_cons_zero, List.getElem_cons_succ, List.setIfInBounds_toArray, List.set_cons_zero, List.set_cons_succ]
    refine wpAnyH_take (i := 15) (oi := _) (v := ?v15) rfl (by kernel_rfl) (by kernel_rfl) (by kernel_rfl) (fun _ _ _ h => h) (Or.inl ⟨by rfl, ?hy15⟩) (by assumption) ?rest15
    case hy15 => (intro wq hSw; (try dsimp only at hSw); simp only [List.getElem_toArray, List.getElem_cons_zero, List.getElem_cons_succ]; go_simp; try with_reducible rfl)
    simp only [Act.put, List.getElem_toArray, List.getElem_cons_zero, List.getElem_cons_succ, List.setIfInBounds_toArray, List.set_cons_zero, List.set_cons_succ]
    refine wpAnyH_take (i := 16) (oi := _) (v := undef) rfl (by kernel_rfl) (by kernel_rfl) (by kernel_rfl) (fun _ _ _ h => h) (Or.inr ⟨by rfl, rfl⟩) (by assumption) ?rest16
    simp only [Act.put, List.getElem_toArray, List.getElem_cons_zero, List.getElem_cons_succ, List.setIfInBounds_toArray, List.set_cons_zero, List.set_cons_succ]
    refine wpAnyH_take (i := 17) (oi := _) (v := undef) rfl (by kernel_rfl) (by kernel_rfl) (by kernel_rfl) (fun _ _ _ h => h) (Or.inr ⟨by rfl, rfl⟩) (by assumption) ?rest17
    simp only [Act.put, List.getElem_toArray, List.getElem_cons_zero, List.getElem_cons_succ, List.setIfInBounds_toArray, List.set_cons_zero, List.set_cons_succ]
    refine wpAnyH_take (i := 18) (oi := _) (v := undef) rfl (by kernel_rfl) (by kernel_rfl) (by kernel_rfl) (fun _ _ _ h => h) (Or.inr ⟨by rfl, rfl⟩) (by assumption) ?rest18
    simp only [Act.put, List.getElem_toArray, List.getElem_cons_zero, List.getElem_cons_succ, List.setIfInBounds_toArray, List.set_cons_zero, List.set_cons_succ]
    refine wpAnyH_take (i := 19) (oi := _) (v := undef) rfl (by kernel_rfl) (by kernel_rfl) (by kernel_rfl) (fun _ _ _ h => h) (Or.inr ⟨by rfl, rfl⟩) (by assumption) ?rest19
    simp only [Act.put, List.getElem_toArray, List.getElem_cons_zero, List.getElem_cons_succ, List.setIfInBounds_toArray, List.set_cons_zero, List.set_cons_succ]
    refine wpAnyH_take (i := 20) (oi := _) (v := undef) rfl (by kernel_rfl) (by kernel_rfl) (by kernel_rfl) (fun _ _ _ h => h) (Or.inr ⟨by rfl, rfl⟩) (by assumption) ?rest20
    simp only [Act.put, List.getElem_toArray, List.getElem_cons_zero, List.getElem_cons_succ, List.setIfInBounds_toArray, List.set_cons_zero, List.set_cons_succ]
    refine wpAnyH_take (i := 21) (oi := _) (v := undef) rfl (by kernel_rfl) (by kernel_rfl) (by kernel_rfl) (fun _ _ _ h => h) (Or.inr ⟨by rfl, rfl⟩) (by assumption) ?rest21
    simp only [Act.put, List.getElem_toArray, List.getElem_cons_zero, List.getElem_cons_succ, List.setIfInBounds_toArray, List.set_cons_zero, List.set_cons_succ]
    refine wpAnyH_take (i := 22) (oi := _) (v := ?v22) rfl (by kernel_rfl) (by kernel_rfl) (by kernel_rfl) (fun _ _ _ h => h) (Or.inl ⟨by rfl, ?hy22⟩) (by assumption) ?rest22
    case hy22 => (intro wq hSw; (try dsimp only at hSw); simp only [List.getElem_toArray, List.getElem_cons_zero, List.getElem_cons_succ]; go_simp; try with_reducible rfl)
    simp only [Act.put, List.getElem_toArray, List.getElem_cons_zero, List.getElem_cons_succ, List.setIfInBounds_toArray, List.set_cons_zero, List.set_cons_succ]
    refine wpAnyH_take (i := 23) (oi := _) (v := ?v23) rfl (by kernel_rfl) (by kernel_rfl) (by kernel_rfl) (fun _ _ _ h => h) (Or.inl ⟨by rfl, ?hy23⟩) (by assumption) ?rest23
    case hy23 => (intro wq hSw; (try dsimp only at hSw); simp only [List.getElem_toArray, List.getElem_cons_zero, List.getElem_cons_succ]; go_simp; try with_reducible rfl)
    simp only [Act.put, List.getElem_toArray, List.getElem_cons_zero, List.getElem_cons_succ, List.setIfInBounds_toArray, List.set_cons_zero, List.set_cons_succ]
    refine wpAnyH_take (i := 24) (oi := _) (v := ?v24) rfl (by kernel_rfl) (by kernel_rfl) (by kernel_rfl) (fun _ _ _ h => h) (Or.inl ⟨by rfl, ?hy24⟩) (by assumption) ?rest24
    case hy24 => (intro wq hSw; (try dsimp only at hSw); simp only [List.getElem_toArray, List.getElem_cons_zero, List.getElem_cons_succ]; go_simp; try with_reducible rfl)
    simp only [Act.put, List.getElem_toArray, List.getElem_cons_zero, List.getElem_cons_succ, List.setIfInBounds_toArray, List.set_cons_zero, List.set_cons_succ]
    refine wpAnyH_done (by kernel_rfl) ?_ _
    go_wp2_with fail
    go_ret
    exact ⟨by first | rfl | simp, HF.out.hB.trans (HWd.out.mono HF.out.hB.size)⟩
set_option maxHeartbeats 1000000 in
theorem last_ih (n : Nat) (hn : n < 16) (m : Int) (hm0 : -9223372036854775808 ≤ m ∧ m ≤ 9223372036854775807) (hm : ¬ (0 ≤ m ∧ m < 16)) (hm1 : 0 ≤ m) (hm2 : ¬ m < 16)
    (k1 n1 : Int) (f1 m1 : UInt8) (l1 : Int) (k2 n2 : Int) (f2 m2 : UInt8) (l2 : Int) (w : World) :
    Calls Try.prog 3 #[.int .i64 (n : Int), .int .i64 m, .agg #[.int .i64 k1, .int .i64 n1, .int .u8 f1.toNat, .int .u8 m1.toNat, .int .i64 l1], .agg #[.int .i64 k2, .int .i64 n2, .int .u8 f2.toNat, .int .u8 m2.toNat, .int .i64 l2]] w fun e w' => e = .returned (.bool true) ∧ Below w.heap.size w w' := by
  have hld1 := fun (w' : World) (h : StepAt w' w.heap.size #[.int .i64 k1, .int .i64 n1, .int .u8 f1.toNat, .int .u8 m1.toNat, .int .i64 (-1)]) => load_step w' _ _ rfl h
  have hld2 := fun (w' : World) (h : StepAt w' (w.heap.size + 1) #[.int .i64 k2, .int .i64 n2, .int .u8 f2.toNat, .int .u8 m2.toNat, .int .i64 (-1)]) => load_step w' _ _ rfl h
  go_enter Try.func3, Try.ntmps3
  go_upto_region 7 with (first | (go_at_call 9; refine (shown_any _).mono ?_; rintro e w1 ⟨rfl, hb1⟩) | (go_at_call 10; refine (new_yes 16 _ (by decide) (by decide)).mono ?_; rintro e w2 ⟨d, s, rfl, D, hb2⟩; go_must (obtain ⟨b1, b2, c1, c2, e1, e2, D3, hB3⟩ := boxes_set w hb1 hb2 D)))
  generalize (w2.setCell ⟨w.heap.size, 4, none⟩ (.int .i64 (-1))).setCell ⟨w.heap.size + 1, 4, none⟩ (.int .i64 (-1)) = w3 at *
  have H3 := Lib.hid (St.mk D3 e1 e2 hB3)
  clear hb1 hb2 D b1 b2 c1 c2 D3 hB3 e2
  have L1 : (stepBytes f1 m1 (-1)).length = 1024 := stepBytes_len _ _ _
  have L2 : (stepBytes f2 m2 (-1)).length = 1024 := stepBytes_len _ _ _
  generalize hs1 : stepBytes f1 m1 (-1) = S1 at *
  generalize hs2 : stepBytes f2 m2 (-1) = S2 at *
  go_upto_region 8 with (first | (go_at_call 12; go_must (refine (H3.out.filled _ _ _ _).mono ?_); rintro e w4 ⟨g1, rfl, q1, q2, q3, q4, q5⟩; rw [hs1] at q3) | (go_at_call 11; go_must (refine (q4.write n hn (by simp) g1 S1 L1 q3 (.inr q2)).mono ?_); rintro e w5 ⟨rfl, v5, H5⟩))
  have e2' := H5.e2
  have HH5 := Lib.hid H5
  clear q1 q2 q3 q4 q5 H3 e1 H5
  go_upto_region 9 with (first | (go_at_call 12; go_must (refine (HH5.out.filled _ _ _ _).mono ?_); rintro e w6 ⟨g2, rfl, q1, q2, q3, q4, q5⟩; rw [hs2] at q3) | (go_at_call 11; go_must (refine (q4.write_no m hm0 hm g2).mono ?_); rintro e w7 ⟨rfl, rfl⟩))
  have HH7 := Lib.hid q4
  clear q1 q2 q3 q5 HH5 e2' q4
  go_upto_region 10 with (first | (go_at_call 13; go_must (refine (HH7.out.read n hn).mono ?_); rintro e w8 ⟨ga, rfl, pr, ps, pb⟩))
  have HH8 := Lib.hid ps
  have AR := Lib.hid pr
  clear ps pr pb HH7
  go_upto_region 11 with (first | (go_at_call 13; go_must (refine (HH8.out.read_no m hm0 hm).mono ?_); rintro e w9 ⟨rfl, rfl⟩))
  have HH9 := HH8
  have AR9 := AR
  clear AR
  clear HH8
  have hni : (n : Int) < 16 := by omega
  have hnj : (0 : Int) ≤ (n : Int) := by omega
  have hij : ¬ ((n : Int) = m) := by omega
  have hdm : decide (m < 16) = false := by (rw [decide_eq_false_iff_not]; omega)
  have e1' := HH9.out.e1
  have e2' := HH9.out.e2
  go_upto_region 16 with (first | (go_at_call 12; go_must (refine (HH9.out.filled _ _ _ _).mono ?_); rintro e w10 ⟨gf, rfl, x1, x2, x3, x4, x5⟩; rw [hs1] at x3))
  all_goals
    have HHa := Lib.hid x4
    have FR := Lib.hid x3
    have BX := Lib.hid x5
    have e2'' := x4.e2
    clear e1' e2' x1 x2 x3 x4 x5
    go_upto_region 18 with (first | (go_at_call 12; go_must (refine (HHa.out.filled _ _ _ _).mono ?_); rintro e w11 ⟨gh, rfl, x1, x2, x3, x4, x5⟩; rw [hs2] at x3))
  all_goals
    have HF := HHa
    have hcf := fun (w' : World) (h : Hid (Below w10.heap.size w10 w')) => conv_bytes (cap := 1024) L1 (bytes_below FR.out h.out)
    have e2F := e2''
    have AX := fun (cs : List Value) (g : Nat) (h : w8.rangeAt g 0 cs) => range_below h BX.out
    obtain ⟨wf, hwf⟩ : ∃ wf, wf = w10 := ⟨_, rfl⟩
    clear HHa e2''
    have ha1 := AX _ ga AR9.out
    rw [show upd (fun _ => nought) n (ofL S1) n = ofL S1 from by unfold upd; simp []] at ha1
    have HA1 := Lib.hid ha1
    clear ha1
    have hca := fun (w' : World) (h : Hid (Below w10.heap.size w10 w')) => conv_range w' ga 0 1024 1024 (ofL S1) (by rw [ofL_size, L1]) (range_below HA1.out h.out)
    have hld := fun (w' : World) (h : Hid (Below w10.heap.size w10 w')) => hld2 w' (e2F.below h.out e2F.lt)
    have HW : Hid (Below w10.heap.size w10 w10) := Below.refl _ _
    clear AX hld1 hld2 e2F hwf
    have HWd := Hid_drew HW
    refine wp_region_held_drew (S := fun w' => Hid (Below w10.heap.size w10 w')) (by kernel_rfl) HWd (fun hHeld => ?_)
    refine wpAnyH_take (i := 0) (oi := _) (v := ?v0) rfl (by kernel_rfl) (by kernel_rfl) (by kernel_rfl) (fun _ _ _ h => h) (Or.inl ⟨by rfl, ?hy0⟩) (by assumption) ?rest0
    case hy0 => (intro wq hSw; (try dsimp only at hSw); simp only [List.getElem_toArray, List.getElem_cons_zero, List.getElem_cons_succ]; go_simp; try with_reducible rfl)
    simp only [Act.put, List.getElem_toArray, List.getElem_cons_zero, List.getElem_cons_succ, List.setIfInBounds_toArray, List.set_cons_zero, List.set_cons_succ]
    refine wpAnyH_take (i := 1) (oi := _) (v := ?v1) rfl (by kernel_rfl) (by kernel_rfl) (by kernel_rfl) (fun _ _ _ h => h) (Or.inl ⟨by rfl, ?hy1⟩) (by assumption) ?rest1
    case hy1 => (intro wq hSw; (try dsimp only at hSw); simp only [List.getElem_toArray, List.getElem_cons_zero, List.getElem_cons_succ]; go_simp; try with_reducible rfl)
    simp only [Act.put, List.getElem_toArray, List.getElem_cons_zero, List.getElem_cons_succ, List.setIfInBounds_toArray, List.set_cons_zero, List.set_cons_succ]
    refine wpAnyH_take (i := 2) (oi := _) (v := ?v2) rfl (by kernel_rfl) (by kernel_rfl) (by kernel_rfl) (fun _ _ _ h => h) (Or.inl ⟨by rfl, ?hy2⟩) (by assumption) ?rest2
    case hy2 => (intro wq hSw; (try dsimp only at hSw); simp only [List.getElem_toArray, List.getElem_cons_zero, List.getElem_cons_succ]; go_simp; try with_reducible rfl)
    simp only [Act.put, List.getElem_toArray, List.getElem_cons_zero, List.getElem_cons_succ, List.setIfInBounds_toArray, List.set_cons_zero, List.set_cons_succ]
    refine wpAnyH_take (i := 3) (oi := _) (v := ?v3) rfl (by kernel_rfl) (by kernel_rfl) (by kernel_rfl) (fun _ _ _ h => h) (Or.inl ⟨by rfl, ?hy3⟩) (by assumption) ?rest3
    case hy3 => (intro wq hSw; (try dsimp only at hSw); simp only [List.getElem_toArray, List.getElem_cons_zero, List.getElem_cons_succ]; go_simp; try with_reducible rfl)
    simp only [Act.put, List.getElem_toArray, List.getElem_cons_zero, List.getElem_cons_succ, List.setIfInBounds_toArray, List.set_cons_zero, List.set_cons_succ]
    refine wpAnyH_take (i := 4) (oi := _) (v := ?v4) rfl (by kernel_rfl) (by kernel_rfl) (by kernel_rfl) (fun _ _ _ h => h) (Or.inl ⟨by rfl, ?hy4⟩) (by assumption) ?rest4
    case hy4 => (intro wq hSw; (try dsimp only at hSw); simp only [List.getElem_toArray, List.getElem_cons_zero, List.getElem_cons_succ]; go_simp; try with_reducible rfl)
    simp only [Act.put, List.getElem_toArray, List.getElem_cons_zero, List.getElem_cons_succ, List.setIfInBounds_toArray, List.set_cons_zero, List.set_cons_succ]
    refine wpAnyH_take (i := 5) (oi := _) (v := ?v5) rfl (by kernel_rfl) (by kernel_rfl) (by kernel_rfl) (fun _ _ _ h => h) (Or.inl ⟨by rfl, ?hy5⟩) (by assumption) ?rest5
    case hy5 => (intro wq hSw; (try dsimp only at hSw); simp only [List.getElem_toArray, List.getElem_cons_zero, List.getElem_cons_succ]; go_simp; try with_reducible rfl)
    simp only [Act.put, List.getElem_toArray, List.getElem_cons_zero, List.getElem_cons_succ, List.setIfInBounds_toArray, List.set_cons_zero, List.set_cons_succ]
    refine wpAnyH_take (i := 6) (oi := _) (v := ?v6) rfl (by kernel_rfl) (by kernel_rfl) (by kernel_rfl) (fun _ _ _ h => h) (Or.inl ⟨by rfl, ?hy6⟩) (by assumption) ?rest6
    case hy6 => (intro wq hSw; (try dsimp only at hSw); simp only [List.getElem_toArray, List.getElem_cons_zero, List.getElem_cons_succ]; go_simp; try with_reducible rfl)
    simp only [Act.put, List.getElem_toArray, List.getElem_cons_zero, List.getElem_cons_succ, List.setIfInBounds_toArray, List.set_cons_zero, List.set_cons_succ]
    refine wpAnyH_take (i := 7) (oi := _) (v := ?v7) rfl (by kernel_rfl) (by kernel_rfl) (by kernel_rfl) (fun _ _ _ h => h) (Or.inl ⟨by rfl, ?hy7⟩) (by assumption) ?rest7
    case hy7 => (intro wq hSw; (try dsimp only at hSw); simp only [List.getElem_toArray, List.getElem_cons_zero, List.getElem_cons_succ]; go_simp; try with_reducible rfl)
    simp only [Act.put, List.getElem_toArray, List.getElem_cons_zero, List.getElem_cons_succ, List.setIfInBounds_toArray, List.set_cons_zero, List.set_cons_succ]
    refine wpAnyH_take (i := 8) (oi := _) (v := ?v8) rfl (by kernel_rfl) (by kernel_rfl) (by kernel_rfl) (fun _ _ _ h => h) (Or.inl ⟨by rfl, ?hy8⟩) (by assumption) ?rest8
    case hy8 => (intro wq hSw; (try dsimp only at hSw); simp only [List.getElem_toArray, List.getElem_cons_zero, List.getElem_cons_succ]; go_simp; try with_reducible rfl)
    simp only [Act.put, List.getElem_toArray, List.getElem_cons_zero, List.getElem_cons_succ, List.setIfInBounds_toArray, List.set_cons_zero, List.set_cons_succ]
    refine wpAnyH_take (i := 9) (oi := _) (v := ?v9) rfl (by kernel_rfl) (by kernel_rfl) (by kernel_rfl) (fun _ _ _ h => h) (Or.inl ⟨by rfl, ?hy9⟩) (by assumption) ?rest9
    case hy9 => (intro wq hSw; (try dsimp only at hSw); simp only [List.getElem_toArray, List.getElem_cons_zero, List.getElem_cons_succ]; go_simp; try with_reducible rfl)
    simp only [Act.put, List.getElem_toArray, List.getElem_cons_zero, List.getElem_cons_succ, List.setIfInBounds_toArray, List.set_cons_zero, List.set_cons_succ]
    refine wpAnyH_take (i := 10) (oi := _) (v := ?v10) rfl (by kernel_rfl) (by kernel_rfl) (by kernel_rfl) (fun _ _ _ h => h) (Or.inl ⟨by rfl, ?hy10⟩) (by assumption) ?rest10
    case hy10 => (intro wq hSw; (try dsimp only at hSw); simp only [List.getElem_toArray, List.getElem_cons_zero, List.getElem_cons_succ]; go_simp; try with_reducible rfl)
    simp only [Act.put, List.getElem_toArray, List.getElem_cons_zero, List.getElem_cons_succ, List.setIfInBounds_toArray, List.set_cons_zero, List.set_cons_succ]
    refine wpAnyH_take (i := 11) (oi := _) (v := ?v11) rfl (by kernel_rfl) (by kernel_rfl) (by kernel_rfl) (fun _ _ _ h => h) (Or.inl ⟨by rfl, ?hy11⟩) (by assumption) ?rest11
    case hy11 => (intro wq hSw; (try dsimp only at hSw); simp only [List.getElem_toArray, List.getElem_cons_zero, List.getElem_cons_succ]; go_simp; try with_reducible rfl)
    simp only [Act.put, List.getElem_toArray, List.getElem_cons_zero, List.getElem_cons_succ, List.setIfInBounds_toArray, List.set_cons_zero, List.set_cons_succ]
    refine wpAnyH_take (i := 12) (oi := _) (v := ?v12) rfl (by kernel_rfl) (by kernel_rfl) (by kernel_rfl) (fun _ _ _ h => h) (Or.inl ⟨by rfl, ?hy12⟩) (by assumption) ?rest12
    case hy12 => (intro wq hSw; (try dsimp only at hSw); simp only [List.getElem_toArray, List.getElem_cons_zero, List.getElem_cons_succ]; go_simp; try with_reducible rfl)
    simp only [Act.put, List.getElem_toArray, List.getElem_cons_zero, List.getElem_cons_succ, List.setIfInBounds_toArray, List.set_cons_zero, List.set_cons_succ]
    refine wpAnyH_take (i := 13) (oi := _) (v := ?v13) rfl (by kernel_rfl) (by kernel_rfl) (by kernel_rfl) (fun _ _ _ h => h) (Or.inl ⟨by rfl, ?hy13⟩) (by assumption) ?rest13
    case hy13 => (intro wq hSw; (try dsimp only at hSw); simp only [List.getElem_toArray, List.getElem_cons_zero, List.getElem_cons_succ]; go_simp; try with_reducible rfl)
    simp only [Act.put, List.getElem_toArray, List.getElem_cons_zero, List.getElem_cons_succ, List.setIfInBounds_toArray, List.set_cons_zero, List.set_cons_succ]
    refine wpAnyH_take (i := 14) (oi := _) (v := ?v14) rfl (by kernel_rfl) (by kernel_rfl) (by kernel_rfl) (fun _ _ _ h => h) (Or.inl ⟨by rfl, ?hy14⟩) (by assumption) ?rest14
    case hy14 => (intro wq hSw; (try dsimp only at hSw); simp only [List.getElem_toArray, List.getElem_cons_zero, List.getElem_cons_succ]; go_simp; try with_reducible rfl)
    simp only [Act.put, List.getElem_toArray, List.getElem_cons_zero, List.getElem_cons_succ, List.setIfInBounds_toArray, List.set_cons_zero, List.set_cons_succ]
    refine wpAnyH_take (i := 15) (oi := _) (v := ?v15) rfl (by kernel_rfl) (by kernel_rfl) (by kernel_rfl) (fun _ _ _ h => h) (Or.inl ⟨by rfl, ?hy15⟩) (by assumption) ?rest15
    case hy15 => (intro wq hSw; (try dsimp only at hSw); simp only [List.getElem_toArray, List.getElem_cons_zero, List.getElem_cons_succ]; go_simp; try with_reducible rfl)
    simp only [Act.put, List.getElem_toArray, List.getElem_cons_zero, List.getElem_cons_succ, List.setIfInBounds_toArray, List.set_cons_zero, List.set_cons_succ]
    refine wpAnyH_take (i := 16) (oi := _) (v := undef) rfl (by kernel_rfl) (by kernel_rfl) (by kernel_rfl) (fun _ _ _ h => h) (Or.inr ⟨by rfl, rfl⟩) (by assumption) ?rest16
    simp only [Act.put, List.getElem_toArray, List.getElem_cons_zero, List.getElem_cons_succ, List.setIfInBounds_toArray, List.set_cons_zero, List.set_cons_succ]
    refine wpAnyH_take (i := 17) (oi := _) (v := undef) rfl (by kernel_rfl) (by kernel_rfl) (by kernel_rfl) (fun _ _ _ h => h) (Or.inr ⟨by rfl, rfl⟩) (by assumption) ?rest17
    simp only [Act.put, List.getElem_toArray, List.getElem_cons_zero, List.getElem_cons_succ, List.setIfInBounds_toArray, List.set_cons_zero, List.set_cons_succ]
    refine wpAnyH_take (i := 18) (oi := _) (v := undef) rfl (by kernel_rfl) (by kernel_rfl) (by kernel_rfl) (fun _ _ _ h => h) (Or.inr ⟨by rfl, rfl⟩) (by assumption) ?rest18
    simp only [Act.put, List.getElem_toArray, List.getElem_cons_zero, List.getElem_cons_succ, List.setIfInBounds_toArray, List.set_cons_zero, List.set_cons_succ]
    refine wpAnyH_take (i := 19) (oi := _) (v := undef) rfl (by kernel_rfl) (by kernel_rfl) (by kernel_rfl) (fun _ _ _ h => h) (Or.inr ⟨by rfl, rfl⟩) (by assumption) ?rest19
    simp only [Act.put, List.getElem_toArray, List.getElem_cons_zero, List.getElem_cons_succ, List.setIfInBounds_toArray, List.set_cons_zero, List.set_cons_succ]
    refine wpAnyH_take (i := 20) (oi := _) (v := undef) rfl (by kernel_rfl) (by kernel_rfl) (by kernel_rfl) (fun _ _ _ h => h) (Or.inr ⟨by rfl, rfl⟩) (by assumption) ?rest20
    simp only [Act.put, List.getElem_toArray, List.getElem_cons_zero, List.getElem_cons_succ, List.setIfInBounds_toArray, List.set_cons_zero, List.set_cons_succ]
    refine wpAnyH_take (i := 21) (oi := _) (v := undef) rfl (by kernel_rfl) (by kernel_rfl) (by kernel_rfl) (fun _ _ _ h => h) (Or.inr ⟨by rfl, rfl⟩) (by assumption) ?rest21
    simp only [Act.put, List.getElem_toArray, List.getElem_cons_zero, List.getElem_cons_succ, List.setIfInBounds_toArray, List.set_cons_zero, List.set_cons_succ]
    refine wpAnyH_take (i := 22) (oi := _) (v := ?v22) rfl (by kernel_rfl) (by kernel_rfl) (by kernel_rfl) (fun _ _ _ h => h) (Or.inl ⟨by rfl, ?hy22⟩) (by assumption) ?rest22
    case hy22 => (intro wq hSw; (try dsimp only at hSw); simp only [List.getElem_toArray, List.getElem_cons_zero, List.getElem_cons_succ]; go_simp; try with_reducible rfl)
    simp only [Act.put, List.getElem_toArray, List.getElem_cons_zero, List.getElem_cons_succ, List.setIfInBounds_toArray, List.set_cons_zero, List.set_cons_succ]
    refine wpAnyH_take (i := 23) (oi := _) (v := ?v23) rfl (by kernel_rfl) (by kernel_rfl) (by kernel_rfl) (fun _ _ _ h => h) (Or.inl ⟨by rfl, ?hy23⟩) (by assumption) ?rest23
    case hy23 => (intro wq hSw; (try dsimp only at hSw); simp only [List.getElem_toArray, List.getElem_cons_zero, List.getElem_cons_succ]; go_simp; try with_reducible rfl)
    simp only [Act.put, List.getElem_toArray, List.getElem_cons_zero, List.getElem_cons_succ, List.setIfInBounds_toArray, List.set_cons_zero, List.set_cons_succ]
    refine wpAnyH_take (i := 24) (oi := _) (v := ?v24) rfl (by kernel_rfl) (by kernel_rfl) (by kernel_rfl) (fun _ _ _ h => h) (Or.inl ⟨by rfl, ?hy24⟩) (by assumption) ?rest24
    case hy24 => (intro wq hSw; (try dsimp only at hSw); simp only [List.getElem_toArray, List.getElem_cons_zero, List.getElem_cons_succ]; go_simp; try with_reducible rfl)
    simp only [Act.put, List.getElem_toArray, List.getElem_cons_zero, List.getElem_cons_succ, List.setIfInBounds_toArray, List.set_cons_zero, List.set_cons_succ]
    refine wpAnyH_done (by kernel_rfl) ?_ _
    go_wp2_with fail
    go_ret
    exact ⟨by first | rfl | simp, HF.out.hB.trans (HWd.out.mono HF.out.hB.size)⟩
set_option maxHeartbeats 1000000 in
theorem last_li (n : Int) (hn0 : -9223372036854775808 ≤ n ∧ n ≤ 9223372036854775807) (hn : ¬ (0 ≤ n ∧ n < 16)) (hn1 : ¬ 0 ≤ n) (m : Nat) (hm : m < 16)
    (k1 n1 : Int) (f1 m1 : UInt8) (l1 : Int) (k2 n2 : Int) (f2 m2 : UInt8) (l2 : Int) (w : World) :
    Calls Try.prog 3 #[.int .i64 n, .int .i64 (m : Int), .agg #[.int .i64 k1, .int .i64 n1, .int .u8 f1.toNat, .int .u8 m1.toNat, .int .i64 l1], .agg #[.int .i64 k2, .int .i64 n2, .int .u8 f2.toNat, .int .u8 m2.toNat, .int .i64 l2]] w fun e w' => e = .returned (.bool true) ∧ Below w.heap.size w w' := by
  have hld1 := fun (w' : World) (h : StepAt w' w.heap.size #[.int .i64 k1, .int .i64 n1, .int .u8 f1.toNat, .int .u8 m1.toNat, .int .i64 (-1)]) => load_step w' _ _ rfl h
  have hld2 := fun (w' : World) (h : StepAt w' (w.heap.size + 1) #[.int .i64 k2, .int .i64 n2, .int .u8 f2.toNat, .int .u8 m2.toNat, .int .i64 (-1)]) => load_step w' _ _ rfl h
  go_enter Try.func3, Try.ntmps3
  go_upto_region 7 with (first | (go_at_call 9; refine (shown_any _).mono ?_; rintro e w1 ⟨rfl, hb1⟩) | (go_at_call 10; refine (new_yes 16 _ (by decide) (by decide)).mono ?_; rintro e w2 ⟨d, s, rfl, D, hb2⟩; go_must (obtain ⟨b1, b2, c1, c2, e1, e2, D3, hB3⟩ := boxes_set w hb1 hb2 D)))
  generalize (w2.setCell ⟨w.heap.size, 4, none⟩ (.int .i64 (-1))).setCell ⟨w.heap.size + 1, 4, none⟩ (.int .i64 (-1)) = w3 at *
  have H3 := Lib.hid (St.mk D3 e1 e2 hB3)
  clear hb1 hb2 D b1 b2 c1 c2 D3 hB3 e2
  have L1 : (stepBytes f1 m1 (-1)).length = 1024 := stepBytes_len _ _ _
  have L2 : (stepBytes f2 m2 (-1)).length = 1024 := stepBytes_len _ _ _
  generalize hs1 : stepBytes f1 m1 (-1) = S1 at *
  generalize hs2 : stepBytes f2 m2 (-1) = S2 at *
  go_upto_region 8 with (first | (go_at_call 12; go_must (refine (H3.out.filled _ _ _ _).mono ?_); rintro e w4 ⟨g1, rfl, q1, q2, q3, q4, q5⟩; rw [hs1] at q3) | (go_at_call 11; go_must (refine (q4.write_no n hn0 hn g1).mono ?_); rintro e w5 ⟨rfl, rfl⟩))
  have e2' := q4.e2
  have HH5 := Lib.hid q4
  clear q1 q2 q3 q5 H3 e1 q4
  go_upto_region 9 with (first | (go_at_call 12; go_must (refine (HH5.out.filled _ _ _ _).mono ?_); rintro e w6 ⟨g2, rfl, q1, q2, q3, q4, q5⟩; rw [hs2] at q3) | (go_at_call 11; go_must (refine (q4.write m hm (by simp) g2 S2 L2 q3 (.inr q2)).mono ?_); rintro e w7 ⟨rfl, v7, H7⟩))
  have HH7 := Lib.hid H7
  clear q1 q2 q3 q5 HH5 e2' q4 H7
  go_upto_region 10 with (first | (go_at_call 13; go_must (refine (HH7.out.read_no n hn0 hn).mono ?_); rintro e w8 ⟨rfl, rfl⟩))
  have HH8 := HH7
  clear HH7
  go_upto_region 11 with (first | (go_at_call 13; go_must (refine (HH8.out.read m hm).mono ?_); rintro e w9 ⟨gb, rfl, qr, qs, qb⟩))
  have HH9 := Lib.hid qs
  have BR := Lib.hid qr
  clear qs qr qb HH8
  have hmi : (m : Int) < 16 := by omega
  have hmj : (0 : Int) ≤ (m : Int) := by omega
  have hij : ¬ (n = (m : Int)) := by omega
  have hdn : decide (0 ≤ n) = false := by (rw [decide_eq_false_iff_not]; omega)
  have e1' := HH9.out.e1
  have e2' := HH9.out.e2
  go_upto_region 16 with (first | (go_at_call 12; go_must (refine (HH9.out.filled _ _ _ _).mono ?_); rintro e w10 ⟨gf, rfl, x1, x2, x3, x4, x5⟩; rw [hs1] at x3))
  all_goals
    have HHa := Lib.hid x4
    have FR := Lib.hid x3
    have BX := Lib.hid x5
    have e2'' := x4.e2
    clear e1' e2' x1 x2 x3 x4 x5
    go_upto_region 18 with (first | (go_at_call 12; go_must (refine (HHa.out.filled _ _ _ _).mono ?_); rintro e w11 ⟨gh, rfl, x1, x2, x3, x4, x5⟩; rw [hs2] at x3))
  all_goals
    have HF := HHa
    have hcf := fun (w' : World) (h : Hid (Below w10.heap.size w10 w')) => conv_bytes (cap := 1024) L1 (bytes_below FR.out h.out)
    have e2F := e2''
    have AX := fun (cs : List Value) (g : Nat) (h : w9.rangeAt g 0 cs) => range_below h BX.out
    obtain ⟨wf, hwf⟩ : ∃ wf, wf = w10 := ⟨_, rfl⟩
    clear HHa e2''
    have hb1 := AX _ gb BR.out
    rw [show upd (fun _ => nought) m (ofL S2) m = ofL S2 from by unfold upd; simp] at hb1
    have HB1 := Lib.hid hb1
    clear hb1
    have hcb := fun (w' : World) (h : Hid (Below w10.heap.size w10 w')) => conv_range w' gb 0 1024 1024 (ofL S2) (by rw [ofL_size, L2]) (range_below HB1.out h.out)
    have hld := fun (w' : World) (h : Hid (Below w10.heap.size w10 w')) => hld2 w' (e2F.below h.out e2F.lt)
    have HW : Hid (Below w10.heap.size w10 w10) := Below.refl _ _
    clear AX hld1 hld2 e2F hwf
    have HWd := Hid_drew HW
    refine wp_region_held_drew (S := fun w' => Hid (Below w10.heap.size w10 w')) (by kernel_rfl) HWd (fun hHeld => ?_)
    refine wpAnyH_take (i := 0) (oi := _) (v := ?v0) rfl (by kernel_rfl) (by kernel_rfl) (by kernel_rfl) (fun _ _ _ h => h) (Or.inl ⟨by rfl, ?hy0⟩) (by assumption) ?rest0
    case hy0 => (intro wq hSw; (try dsimp only at hSw); simp only [List.getElem_toArray, List.getElem_cons_zero, List.getElem_cons_succ]; go_simp; try with_reducible rfl)
    simp only [Act.put, List.getElem_toArray, List.getElem_cons_zero, List.getElem_cons_succ, List.setIfInBounds_toArray, List.set_cons_zero, List.set_cons_succ]
    refine wpAnyH_take (i := 1) (oi := _) (v := ?v1) rfl (by kernel_rfl) (by kernel_rfl) (by kernel_rfl) (fun _ _ _ h => h) (Or.inl ⟨by rfl, ?hy1⟩) (by assumption) ?rest1
    case hy1 => (intro wq hSw; (try dsimp only at hSw); simp only [List.getElem_toArray, List.getElem_cons_zero, List.getElem_cons_succ]; go_simp; try with_reducible rfl)
    simp only [Act.put, List.getElem_toArray, List.getElem_cons_zero, List.getElem_cons_succ, List.setIfInBounds_toArray, List.set_cons_zero, List.set_cons_succ]
    refine wpAnyH_take (i := 2) (oi := _) (v := ?v2) rfl (by kernel_rfl) (by kernel_rfl) (by kernel_rfl) (fun _ _ _ h => h) (Or.inl ⟨by rfl, ?hy2⟩) (by assumption) ?rest2
    case hy2 => (intro wq hSw; (try dsimp only at hSw); simp only [List.getElem_toArray, List.getElem_cons_zero, List.getElem_cons_succ]; go_simp; try with_reducible rfl)
    simp only [Act.put, List.getElem_toArray, List.getElem_cons_zero, List.getElem_cons_succ, List.setIfInBounds_toArray, List.set_cons_zero, List.set_cons_succ]
    refine wpAnyH_take (i := 3) (oi := _) (v := ?v3) rfl (by kernel_rfl) (by kernel_rfl) (by kernel_rfl) (fun _ _ _ h => h) (Or.inl ⟨by rfl, ?hy3⟩) (by assumption) ?rest3
    case hy3 => (intro wq hSw; (try dsimp only at hSw); simp only [List.getElem_toArray, List.getElem_cons_zero, List.getElem_cons_succ]; go_simp; try with_reducible rfl)
    simp only [Act.put, List.getElem_toArray, List.getElem_cons_zero, List.getElem_cons_succ, List.setIfInBounds_toArray, List.set_cons_zero, List.set_cons_succ]
    refine wpAnyH_take (i := 4) (oi := _) (v := ?v4) rfl (by kernel_rfl) (by kernel_rfl) (by kernel_rfl) (fun _ _ _ h => h) (Or.inl ⟨by rfl, ?hy4⟩) (by assumption) ?rest4
    case hy4 => (intro wq hSw; (try dsimp only at hSw); simp only [List.getElem_toArray, List.getElem_cons_zero, List.getElem_cons_succ]; go_simp; try with_reducible rfl)
    simp only [Act.put, List.getElem_toArray, List.getElem_cons_zero, List.getElem_cons_succ, List.setIfInBounds_toArray, List.set_cons_zero, List.set_cons_succ]
    refine wpAnyH_take (i := 5) (oi := _) (v := undef) rfl (by kernel_rfl) (by kernel_rfl) (by kernel_rfl) (fun _ _ _ h => h) (Or.inr ⟨by rfl, rfl⟩) (by assumption) ?rest5
    simp only [Act.put, List.getElem_toArray, List.getElem_cons_zero, List.getElem_cons_succ, List.setIfInBounds_toArray, List.set_cons_zero, List.set_cons_succ]
    refine wpAnyH_take (i := 6) (oi := _) (v := undef) rfl (by kernel_rfl) (by kernel_rfl) (by kernel_rfl) (fun _ _ _ h => h) (Or.inr ⟨by rfl, rfl⟩) (by assumption) ?rest6
    simp only [Act.put, List.getElem_toArray, List.getElem_cons_zero, List.getElem_cons_succ, List.setIfInBounds_toArray, List.set_cons_zero, List.set_cons_succ]
    refine wpAnyH_take (i := 7) (oi := _) (v := undef) rfl (by kernel_rfl) (by kernel_rfl) (by kernel_rfl) (fun _ _ _ h => h) (Or.inr ⟨by rfl, rfl⟩) (by assumption) ?rest7
    simp only [Act.put, List.getElem_toArray, List.getElem_cons_zero, List.getElem_cons_succ, List.setIfInBounds_toArray, List.set_cons_zero, List.set_cons_succ]
    refine wpAnyH_take (i := 8) (oi := _) (v := undef) rfl (by kernel_rfl) (by kernel_rfl) (by kernel_rfl) (fun _ _ _ h => h) (Or.inr ⟨by rfl, rfl⟩) (by assumption) ?rest8
    simp only [Act.put, List.getElem_toArray, List.getElem_cons_zero, List.getElem_cons_succ, List.setIfInBounds_toArray, List.set_cons_zero, List.set_cons_succ]
    refine wpAnyH_take (i := 9) (oi := _) (v := undef) rfl (by kernel_rfl) (by kernel_rfl) (by kernel_rfl) (fun _ _ _ h => h) (Or.inr ⟨by rfl, rfl⟩) (by assumption) ?rest9
    simp only [Act.put, List.getElem_toArray, List.getElem_cons_zero, List.getElem_cons_succ, List.setIfInBounds_toArray, List.set_cons_zero, List.set_cons_succ]
    refine wpAnyH_take (i := 10) (oi := _) (v := ?v10) rfl (by kernel_rfl) (by kernel_rfl) (by kernel_rfl) (fun _ _ _ h => h) (Or.inl ⟨by rfl, ?hy10⟩) (by assumption) ?rest10
    case hy10 => (intro wq hSw; (try dsimp only at hSw); simp only [List.getElem_toArray, List.getElem_cons_zero, List.getElem_cons_succ]; go_simp; try with_reducible rfl)
    simp only [Act.put, List.getElem_toArray, List.getElem_cons_zero, List.getElem_cons_succ, List.setIfInBounds_toArray, List.set_cons_zero, List.set_cons_succ]
    refine wpAnyH_take (i := 11) (oi := _) (v := ?v11) rfl (by kernel_rfl) (by kernel_rfl) (by kernel_rfl) (fun _ _ _ h => h) (Or.inl ⟨by rfl, ?hy11⟩) (by assumption) ?rest11
    case hy11 => (intro wq hSw; (try dsimp only at hSw); simp only [List.getElem_toArray, List.getElem_cons_zero, List.getElem_cons_succ]; go_simp; try with_reducible rfl)
    simp only [Act.put, List.getElem_toArray, List.getElem_cons_zero, List.getElem_cons_succ, List.setIfInBounds_toArray, List.set_cons_zero, List.set_cons_succ]
    refine wpAnyH_take (i := 12) (oi := _) (v := ?v12) rfl (by kernel_rfl) (by kernel_rfl) (by kernel_rfl) (fun _ _ _ h => h) (Or.inl ⟨by rfl, ?hy12⟩) (by assumption) ?rest12
    case hy12 => (intro wq hSw; (try dsimp only at hSw); simp only [List.getElem_toArray, List.getElem_cons_zero, List.getElem_cons_succ]; go_simp; try with_reducible rfl)
    simp only [Act.put, List.getElem_toArray, List.getElem_cons_zero, List.getElem_cons_succ, List.setIfInBounds_toArray, List.set_cons_zero, List.set_cons_succ]
    refine wpAnyH_take (i := 13) (oi := _) (v := ?v13) rfl (by kernel_rfl) (by kernel_rfl) (by kernel_rfl) (fun _ _ _ h => h) (Or.inl ⟨by rfl, ?hy13⟩) (by assumption) ?rest13
    case hy13 => (intro wq hSw; (try dsimp only at hSw); simp only [List.getElem_toArray, List.getElem_cons_zero, List.getElem_cons_succ]; go_simp; try with_reducible rfl)
    simp only [Act.put, List.getElem_toArray, List.getElem_cons_zero, List.getElem_cons_succ, List.setIfInBounds_toArray, List.set_cons_zero, List.set_cons_succ]
    refine wpAnyH_take (i := 14) (oi := _) (v := ?v14) rfl (by kernel_rfl) (by kernel_rfl) (by kernel_rfl) (fun _ _ _ h => h) (Or.inl ⟨by rfl, ?hy14⟩) (by assumption) ?rest14
    case hy14 => (intro wq hSw; (try dsimp only at hSw); simp only [List.getElem_toArray, List.getElem_cons_zero, List.getElem_cons_succ]; go_simp; try with_reducible rfl)
    simp only [Act.put, List.getElem_toArray, List.getElem_cons_zero, List.getElem_cons_succ, List.setIfInBounds_toArray, List.set_cons_zero, List.set_cons_succ]
    refine wpAnyH_take (i := 15) (oi := _) (v := ?v15) rfl (by kernel_rfl) (by kernel_rfl) (by kernel_rfl) (fun _ _ _ h => h) (Or.inl ⟨by rfl, ?hy15⟩) (by assumption) ?rest15
    case hy15 => (intro wq hSw; (try dsimp only at hSw); simp only [List.getElem_toArray, List.getElem_cons_zero, List.getElem_cons_succ]; go_simp; try with_reducible rfl)
    simp only [Act.put, List.getElem_toArray, List.getElem_cons_zero, List.getElem_cons_succ, List.setIfInBounds_toArray, List.set_cons_zero, List.set_cons_succ]
    refine wpAnyH_take (i := 16) (oi := _) (v := ?v16) rfl (by kernel_rfl) (by kernel_rfl) (by kernel_rfl) (fun _ _ _ h => h) (Or.inl ⟨by rfl, ?hy16⟩) (by assumption) ?rest16
    case hy16 => (intro wq hSw; (try dsimp only at hSw); simp only [List.getElem_toArray, List.getElem_cons_zero, List.getElem_cons_succ]; go_simp; try with_reducible rfl)
    simp only [Act.put, List.getElem_toArray, List.getElem_cons_zero, List.getElem_cons_succ, List.setIfInBounds_toArray, List.set_cons_zero, List.set_cons_succ]
    refine wpAnyH_take (i := 17) (oi := _) (v := ?v17) rfl (by kernel_rfl) (by kernel_rfl) (by kernel_rfl) (fun _ _ _ h => h) (Or.inl ⟨by rfl, ?hy17⟩) (by assumption) ?rest17
    case hy17 => (intro wq hSw; (try dsimp only at hSw); simp only [List.getElem_toArray, List.getElem_cons_zero, List.getElem_cons_succ]; go_simp; try with_reducible rfl)
    simp only [Act.put, List.getElem_toArray, List.getElem_cons_zero, List.getElem_cons_succ, List.setIfInBounds_toArray, List.set_cons_zero, List.set_cons_succ]
    refine wpAnyH_take (i := 18) (oi := _) (v := ?v18) rfl (by kernel_rfl) (by kernel_rfl) (by kernel_rfl) (fun _ _ _ h => h) (Or.inl ⟨by rfl, ?hy18⟩) (by assumption) ?rest18
    case hy18 => (intro wq hSw; (try dsimp only at hSw); simp only [List.getElem_toArray, List.getElem_cons_zero, List.getElem_cons_succ]; go_simp; try with_reducible rfl)
    simp only [Act.put, List.getElem_toArray, List.getElem_cons_zero, List.getElem_cons_succ, List.setIfInBounds_toArray, List.set_cons_zero, List.set_cons_succ]
    refine wpAnyH_ready (rs := [19]) (by kernel_rfl) (by simp) ?_
    refine AllReadyH.cons (o := _) rfl (fun K hK => ?_) AllReadyH.nil
    try simp only [List.getElem_toArray, List.getElem_cons_zero, List.getElem_cons_succ]
    go_simp
    go_at_call 12
    refine ((HF.out.below (Hid.out HWd)).filled _ _ _ _).mono ?_
    rintro e wz ⟨gz, rfl, z1, z2, z3, z4, z5⟩
    rw [hs2] at z3
    have hcz := fun (w' : World) (h : w'.heap = wz.heap) => conv_bytes (w := w') (cap := 1024) L2 (bytes_heap z3 h)
    have HZ := hid_trans HWd z5 rfl
    clear z1 z2 z3 z4 z5
    refine hK.out _ _ HZ (fun _ => ?_)
    have HZ2 : Hid (Below w10.heap.size w10 wz) ∧ wz.heap = wz.heap := ⟨HZ, rfl⟩
    refine wpAnyH_strong (S' := fun w' => Hid (Below w10.heap.size w10 w') ∧ w'.heap = wz.heap) (fun _ h => h.1) _ _ _ _ ?_
    try simp only [Act.put, List.getElem_toArray, List.getElem_cons_zero, List.getElem_cons_succ, List.setIfInBounds_toArray, List.set_cons_zero, List.set_cons_succ]
    refine wpAnyH_take (i := 20) (oi := _) (v := ?v20) rfl (by kernel_rfl) (by kernel_rfl) (by kernel_rfl) (fun _ _ _ h => h) (Or.inl ⟨by rfl, ?hy20⟩) (by assumption) ?rest20
    case hy20 => (intro wq hSw; (try dsimp only at hSw); obtain ⟨hSw, hSh⟩ := hSw; simp only [List.getElem_toArray, List.getElem_cons_zero, List.getElem_cons_succ]; go_simp; try with_reducible rfl)
    simp only [Act.put, List.getElem_toArray, List.getElem_cons_zero, List.getElem_cons_succ, List.setIfInBounds_toArray, List.set_cons_zero, List.set_cons_succ]
    refine wpAnyH_take (i := 21) (oi := _) (v := ?v21) rfl (by kernel_rfl) (by kernel_rfl) (by kernel_rfl) (fun _ _ _ h => h) (Or.inl ⟨by rfl, ?hy21⟩) (by assumption) ?rest21
    case hy21 => (intro wq hSw; (try dsimp only at hSw); obtain ⟨hSw, hSh⟩ := hSw; simp only [List.getElem_toArray, List.getElem_cons_zero, List.getElem_cons_succ]; go_simp; try with_reducible rfl)
    simp only [Act.put, List.getElem_toArray, List.getElem_cons_zero, List.getElem_cons_succ, List.setIfInBounds_toArray, List.set_cons_zero, List.set_cons_succ]
    refine wpAnyH_take (i := 22) (oi := _) (v := ?v22) rfl (by kernel_rfl) (by kernel_rfl) (by kernel_rfl) (fun _ _ _ h => h) (Or.inl ⟨by rfl, ?hy22⟩) (by assumption) ?rest22
    case hy22 => (intro wq hSw; (try dsimp only at hSw); obtain ⟨hSw, hSh⟩ := hSw; simp only [List.getElem_toArray, List.getElem_cons_zero, List.getElem_cons_succ]; go_simp; try with_reducible rfl)
    simp only [Act.put, List.getElem_toArray, List.getElem_cons_zero, List.getElem_cons_succ, List.setIfInBounds_toArray, List.set_cons_zero, List.set_cons_succ]
    refine wpAnyH_take (i := 23) (oi := _) (v := ?v23) rfl (by kernel_rfl) (by kernel_rfl) (by kernel_rfl) (fun _ _ _ h => h) (Or.inl ⟨by rfl, ?hy23⟩) (by assumption) ?rest23
    case hy23 => (intro wq hSw; (try dsimp only at hSw); obtain ⟨hSw, hSh⟩ := hSw; simp only [List.getElem_toArray, List.getElem_cons_zero, List.getElem_cons_succ]; go_simp; try with_reducible rfl)
    simp only [Act.put, List.getElem_toArray, List.getElem_cons_zero, List.getElem_cons_succ, List.setIfInBounds_toArray, List.set_cons_zero, List.set_cons_succ]
    refine wpAnyH_take (i := 24) (oi := _) (v := ?v24) rfl (by kernel_rfl) (by kernel_rfl) (by kernel_rfl) (fun _ _ _ h => h) (Or.inl ⟨by rfl, ?hy24⟩) (by assumption) ?rest24
    case hy24 => (intro wq hSw; (try dsimp only at hSw); obtain ⟨hSw, hSh⟩ := hSw; simp only [List.getElem_toArray, List.getElem_cons_zero, List.getElem_cons_succ]; go_simp; try with_reducible rfl)
    simp only [Act.put, List.getElem_toArray, List.getElem_cons_zero, List.getElem_cons_succ, List.setIfInBounds_toArray, List.set_cons_zero, List.set_cons_succ]
    refine wpAnyH_done (by kernel_rfl) ?_ _
    go_wp2_with fail
    go_ret
    exact ⟨by first | rfl | simp, HF.out.hB.trans (HZ.out.mono HF.out.hB.size)⟩
set_option maxHeartbeats 1000000 in
theorem last_hi (n : Int) (hn0 : -9223372036854775808 ≤ n ∧ n ≤ 9223372036854775807) (hn : ¬ (0 ≤ n ∧ n < 16)) (hn1 : 0 ≤ n) (hn2 : ¬ n < 16) (m : Nat) (hm : m < 16)
    (k1 n1 : Int) (f1 m1 : UInt8) (l1 : Int) (k2 n2 : Int) (f2 m2 : UInt8) (l2 : Int) (w : World) :
    Calls Try.prog 3 #[.int .i64 n, .int .i64 (m : Int), .agg #[.int .i64 k1, .int .i64 n1, .int .u8 f1.toNat, .int .u8 m1.toNat, .int .i64 l1], .agg #[.int .i64 k2, .int .i64 n2, .int .u8 f2.toNat, .int .u8 m2.toNat, .int .i64 l2]] w fun e w' => e = .returned (.bool true) ∧ Below w.heap.size w w' := by
  have hld1 := fun (w' : World) (h : StepAt w' w.heap.size #[.int .i64 k1, .int .i64 n1, .int .u8 f1.toNat, .int .u8 m1.toNat, .int .i64 (-1)]) => load_step w' _ _ rfl h
  have hld2 := fun (w' : World) (h : StepAt w' (w.heap.size + 1) #[.int .i64 k2, .int .i64 n2, .int .u8 f2.toNat, .int .u8 m2.toNat, .int .i64 (-1)]) => load_step w' _ _ rfl h
  go_enter Try.func3, Try.ntmps3
  go_upto_region 7 with (first | (go_at_call 9; refine (shown_any _).mono ?_; rintro e w1 ⟨rfl, hb1⟩) | (go_at_call 10; refine (new_yes 16 _ (by decide) (by decide)).mono ?_; rintro e w2 ⟨d, s, rfl, D, hb2⟩; go_must (obtain ⟨b1, b2, c1, c2, e1, e2, D3, hB3⟩ := boxes_set w hb1 hb2 D)))
  generalize (w2.setCell ⟨w.heap.size, 4, none⟩ (.int .i64 (-1))).setCell ⟨w.heap.size + 1, 4, none⟩ (.int .i64 (-1)) = w3 at *
  have H3 := Lib.hid (St.mk D3 e1 e2 hB3)
  clear hb1 hb2 D b1 b2 c1 c2 D3 hB3 e2
  have L1 : (stepBytes f1 m1 (-1)).length = 1024 := stepBytes_len _ _ _
  have L2 : (stepBytes f2 m2 (-1)).length = 1024 := stepBytes_len _ _ _
  generalize hs1 : stepBytes f1 m1 (-1) = S1 at *
  generalize hs2 : stepBytes f2 m2 (-1) = S2 at *
  go_upto_region 8 with (first | (go_at_call 12; go_must (refine (H3.out.filled _ _ _ _).mono ?_); rintro e w4 ⟨g1, rfl, q1, q2, q3, q4, q5⟩; rw [hs1] at q3) | (go_at_call 11; go_must (refine (q4.write_no n hn0 hn g1).mono ?_); rintro e w5 ⟨rfl, rfl⟩))
  have e2' := q4.e2
  have HH5 := Lib.hid q4
  clear q1 q2 q3 q5 H3 e1 q4
  go_upto_region 9 with (first | (go_at_call 12; go_must (refine (HH5.out.filled _ _ _ _).mono ?_); rintro e w6 ⟨g2, rfl, q1, q2, q3, q4, q5⟩; rw [hs2] at q3) | (go_at_call 11; go_must (refine (q4.write m hm (by simp) g2 S2 L2 q3 (.inr q2)).mono ?_); rintro e w7 ⟨rfl, v7, H7⟩))
  have HH7 := Lib.hid H7
  clear q1 q2 q3 q5 HH5 e2' q4 H7
  go_upto_region 10 with (first | (go_at_call 13; go_must (refine (HH7.out.read_no n hn0 hn).mono ?_); rintro e w8 ⟨rfl, rfl⟩))
  have HH8 := HH7
  clear HH7
  go_upto_region 11 with (first | (go_at_call 13; go_must (refine (HH8.out.read m hm).mono ?_); rintro e w9 ⟨gb, rfl, qr, qs, qb⟩))
  have HH9 := Lib.hid qs
  have BR := Lib.hid qr
  clear qs qr qb HH8
  have hmi : (m : Int) < 16 := by omega
  have hmj : (0 : Int) ≤ (m : Int) := by omega
  have hij : ¬ (n = (m : Int)) := by omega
  have hdn : decide (n < 16) = false := by (rw [decide_eq_false_iff_not]; omega)
  have e1' := HH9.out.e1
  have e2' := HH9.out.e2
  go_upto_region 16 with (first | (go_at_call 12; go_must (refine (HH9.out.filled _ _ _ _).mono ?_); rintro e w10 ⟨gf, rfl, x1, x2, x3, x4, x5⟩; rw [hs1] at x3))
  all_goals
    have HHa := Lib.hid x4
    have FR := Lib.hid x3
    have BX := Lib.hid x5
    have e2'' := x4.e2
    clear e1' e2' x1 x2 x3 x4 x5
    go_upto_region 18 with (first | (go_at_call 12; go_must (refine (HHa.out.filled _ _ _ _).mono ?_); rintro e w11 ⟨gh, rfl, x1, x2, x3, x4, x5⟩; rw [hs2] at x3))
  all_goals
    have HF := HHa
    have hcf := fun (w' : World) (h : Hid (Below w10.heap.size w10 w')) => conv_bytes (cap := 1024) L1 (bytes_below FR.out h.out)
    have e2F := e2''
    have AX := fun (cs : List Value) (g : Nat) (h : w9.rangeAt g 0 cs) => range_below h BX.out
    obtain ⟨wf, hwf⟩ : ∃ wf, wf = w10 := ⟨_, rfl⟩
    clear HHa e2''
    have hb1 := AX _ gb BR.out
    rw [show upd (fun _ => nought) m (ofL S2) m = ofL S2 from by unfold upd; simp] at hb1
    have HB1 := Lib.hid hb1
    clear hb1
    have hcb := fun (w' : World) (h : Hid (Below w10.heap.size w10 w')) => conv_range w' gb 0 1024 1024 (ofL S2) (by rw [ofL_size, L2]) (range_below HB1.out h.out)
    have hld := fun (w' : World) (h : Hid (Below w10.heap.size w10 w')) => hld2 w' (e2F.below h.out e2F.lt)
    have HW : Hid (Below w10.heap.size w10 w10) := Below.refl _ _
    clear AX hld1 hld2 e2F hwf
    have HWd := Hid_drew HW
    refine wp_region_held_drew (S := fun w' => Hid (Below w10.heap.size w10 w')) (by kernel_rfl) HWd (fun hHeld => ?_)
    refine wpAnyH_take (i := 0) (oi := _) (v := ?v0) rfl (by kernel_rfl) (by kernel_rfl) (by kernel_rfl) (fun _ _ _ h => h) (Or.inl ⟨by rfl, ?hy0⟩) (by assumption) ?rest0
    case hy0 => (intro wq hSw; (try dsimp only at hSw); simp only [List.getElem_toArray, List.getElem_cons_zero, List.getElem_cons_succ]; go_simp; try with_reducible rfl)
    simp only [Act.put, List.getElem_toArray, List.getElem_cons_zero, List.getElem_cons_succ, List.setIfInBounds_toArray, List.set_cons_zero, List.set_cons_succ]
    refine wpAnyH_take (i := 1) (oi := _) (v := ?v1) rfl (by kernel_rfl) (by kernel_rfl) (by kernel_rfl) (fun _ _ _ h => h) (Or.inl ⟨by rfl, ?hy1⟩) (by assumption) ?rest1
    case hy1 => (intro wq hSw; (try dsimp only at hSw); simp only [List.getElem_toArray, List.getElem_cons_zero, List.getElem_cons_succ]; go_simp; try with_reducible rfl)
    simp only [Act.put, List.getElem_toArray, List.getElem_cons_zero, List.getElem_cons_succ, List.setIfInBounds_toArray, List.set_cons_zero, List.set_cons_succ]
    refine wpAnyH_take (i := 2) (oi := _) (v := ?v2) rfl (by kernel_rfl) (by kernel_rfl) (by kernel_rfl) (fun _ _ _ h => h) (Or.inl ⟨by rfl, ?hy2⟩) (by assumption) ?rest2
    case hy2 => (intro wq hSw; (try dsimp only at hSw); simp only [List.getElem_toArray, List.getElem_cons_zero, List.getElem_cons_succ]; go_simp; try with_reducible rfl)
    simp only [Act.put, List.getElem_toArray, List.getElem_cons_zero, List.getElem_cons_succ, List.setIfInBounds_toArray, List.set_cons_zero, List.set_cons_succ]
    refine wpAnyH_take (i := 3) (oi := _) (v := ?v3) rfl (by kernel_rfl) (by kernel_rfl) (by kernel_rfl) (fun _ _ _ h => h) (Or.inl ⟨by rfl, ?hy3⟩) (by assumption) ?rest3
    case hy3 => (intro wq hSw; (try dsimp only at hSw); simp only [List.getElem_toArray, List.getElem_cons_zero, List.getElem_cons_succ]; go_simp; try with_reducible rfl)
    simp only [Act.put, List.getElem_toArray, List.getElem_cons_zero, List.getElem_cons_succ, List.setIfInBounds_toArray, List.set_cons_zero, List.set_cons_succ]
    refine wpAnyH_take (i := 4) (oi := _) (v := ?v4) rfl (by kernel_rfl) (by kernel_rfl) (by kernel_rfl) (fun _ _ _ h => h) (Or.inl ⟨by rfl, ?hy4⟩) (by assumption) ?rest4
    case hy4 => (intro wq hSw; (try dsimp only at hSw); simp only [List.getElem_toArray, List.getElem_cons_zero, List.getElem_cons_succ]; go_simp; try with_reducible rfl)
    simp only [Act.put, List.getElem_toArray, List.getElem_cons_zero, List.getElem_cons_succ, List.setIfInBounds_toArray, List.set_cons_zero, List.set_cons_succ]
    refine wpAnyH_take (i := 5) (oi := _) (v := undef) rfl (by kernel_rfl) (by kernel_rfl) (by kernel_rfl) (fun _ _ _ h => h) (Or.inr ⟨by rfl, rfl⟩) (by assumption) ?rest5
    simp only [Act.put, List.getElem_toArray, List.getElem_cons_zero, List.getElem_cons_succ, List.setIfInBounds_toArray, List.set_cons_zero, List.set_cons_succ]
    refine wpAnyH_take (i := 6) (oi := _) (v := undef) rfl (by kernel_rfl) (by kernel_rfl) (by kernel_rfl) (fun _ _ _ h => h) (Or.inr ⟨by rfl, rfl⟩) (by assumption) ?rest6
    simp only [Act.put, List.getElem_toArray, List.getElem_cons_zero, List.getElem_cons_succ, List.setIfInBounds_toArray, List.set_cons_zero, List.set_cons_succ]
    refine wpAnyH_take (i := 7) (oi := _) (v := undef) rfl (by kernel_rfl) (by kernel_rfl) (by kernel_rfl) (fun _ _ _ h => h) (Or.inr ⟨by rfl, rfl⟩) (by assumption) ?rest7
    simp only [Act.put, List.getElem_toArray, List.getElem_cons_zero, List.getElem_cons_succ, List.setIfInBounds_toArray, List.set_cons_zero, List.set_cons_succ]
    refine wpAnyH_take (i := 8) (oi := _) (v := undef) rfl (by kernel_rfl) (by kernel_rfl) (by kernel_rfl) (fun _ _ _ h => h) (Or.inr ⟨by rfl, rfl⟩) (by assumption) ?rest8
    simp only [Act.put, List.getElem_toArray, List.getElem_cons_zero, List.getElem_cons_succ, List.setIfInBounds_toArray, List.set_cons_zero, List.set_cons_succ]
    refine wpAnyH_take (i := 9) (oi := _) (v := undef) rfl (by kernel_rfl) (by kernel_rfl) (by kernel_rfl) (fun _ _ _ h => h) (Or.inr ⟨by rfl, rfl⟩) (by assumption) ?rest9
    simp only [Act.put, List.getElem_toArray, List.getElem_cons_zero, List.getElem_cons_succ, List.setIfInBounds_toArray, List.set_cons_zero, List.set_cons_succ]
    refine wpAnyH_take (i := 10) (oi := _) (v := ?v10) rfl (by kernel_rfl) (by kernel_rfl) (by kernel_rfl) (fun _ _ _ h => h) (Or.inl ⟨by rfl, ?hy10⟩) (by assumption) ?rest10
    case hy10 => (intro wq hSw; (try dsimp only at hSw); simp only [List.getElem_toArray, List.getElem_cons_zero, List.getElem_cons_succ]; go_simp; try with_reducible rfl)
    simp only [Act.put, List.getElem_toArray, List.getElem_cons_zero, List.getElem_cons_succ, List.setIfInBounds_toArray, List.set_cons_zero, List.set_cons_succ]
    refine wpAnyH_take (i := 11) (oi := _) (v := ?v11) rfl (by kernel_rfl) (by kernel_rfl) (by kernel_rfl) (fun _ _ _ h => h) (Or.inl ⟨by rfl, ?hy11⟩) (by assumption) ?rest11
    case hy11 => (intro wq hSw; (try dsimp only at hSw); simp only [List.getElem_toArray, List.getElem_cons_zero, List.getElem_cons_succ]; go_simp; try with_reducible rfl)
    simp only [Act.put, List.getElem_toArray, List.getElem_cons_zero, List.getElem_cons_succ, List.setIfInBounds_toArray, List.set_cons_zero, List.set_cons_succ]
    refine wpAnyH_take (i := 12) (oi := _) (v := ?v12) rfl (by kernel_rfl) (by kernel_rfl) (by kernel_rfl) (fun _ _ _ h => h) (Or.inl ⟨by rfl, ?hy12⟩) (by assumption) ?rest12
    case hy12 => (intro wq hSw; (try dsimp only at hSw); simp only [List.getElem_toArray, List.getElem_cons_zero, List.getElem_cons_succ]; go_simp; try with_reducible rfl)
    simp only [Act.put, List.getElem_toArray, List.getElem_cons_zero, List.getElem_cons_succ, List.setIfInBounds_toArray, List.set_cons_zero, List.set_cons_succ]
    refine wpAnyH_take (i := 13) (oi := _) (v := ?v13) rfl (by kernel_rfl) (by kernel_rfl) (by kernel_rfl) (fun _ _ _ h => h) (Or.inl ⟨by rfl, ?hy13⟩) (by assumption) ?rest13
    case hy13 => (intro wq hSw; (try dsimp only at hSw); simp only [List.getElem_toArray, List.getElem_cons_zero, List.getElem_cons_succ]; go_simp; try with_reducible rfl)
    simp only [Act.put, List.getElem_toArray, List.getElem_cons_zero, List.getElem_cons_succ, List.setIfInBounds_toArray, List.set_cons_zero, List.set_cons_succ]
    refine wpAnyH_take (i := 14) (oi := _) (v := ?v14) rfl (by kernel_rfl) (by kernel_rfl) (by kernel_rfl) (fun _ _ _ h => h) (Or.inl ⟨by rfl, ?hy14⟩) (by assumption) ?rest14
    case hy14 => (intro wq hSw; (try dsimp only at hSw); simp only [List.getElem_toArray, List.getElem_cons_zero, List.getElem_cons_succ]; go_simp; try with_reducible rfl)
    simp only [Act.put, List.getElem_toArray, List.getElem_cons_zero, List.getElem_cons_succ, List.setIfInBounds_toArray, List.set_cons_zero, List.set_cons_succ]
    refine wpAnyH_take (i := 15) (oi := _) (v := ?v15) rfl (by kernel_rfl) (by kernel_rfl) (by kernel_rfl) (fun _ _ _ h => h) (Or.inl ⟨by rfl, ?hy15⟩) (by assumption) ?rest15
    case hy15 => (intro wq hSw; (try dsimp only at hSw); simp only [List.getElem_toArray, List.getElem_cons_zero, List.getElem_cons_succ]; go_simp; try with_reducible rfl)
    simp only [Act.put, List.getElem_toArray, List.getElem_cons_zero, List.getElem_cons_succ, List.setIfInBounds_toArray, List.set_cons_zero, List.set_cons_succ]
    refine wpAnyH_take (i := 16) (oi := _) (v := ?v16) rfl (by kernel_rfl) (by kernel_rfl) (by kernel_rfl) (fun _ _ _ h => h) (Or.inl ⟨by rfl, ?hy16⟩) (by assumption) ?rest16
    case hy16 => (intro wq hSw; (try dsimp only at hSw); simp only [List.getElem_toArray, List.getElem_cons_zero, List.getElem_cons_succ]; go_simp; try with_reducible rfl)
    simp only [Act.put, List.getElem_toArray, List.getElem_cons_zero, List.getElem_cons_succ, List.setIfInBounds_toArray, List.set_cons_zero, List.set_cons_succ]
    refine wpAnyH_take (i := 17) (oi := _) (v := ?v17) rfl (by kernel_rfl) (by kernel_rfl) (by kernel_rfl) (fun _ _ _ h => h) (Or.inl ⟨by rfl, ?hy17⟩) (by assumption) ?rest17
    case hy17 => (intro wq hSw; (try dsimp only at hSw); simp only [List.getElem_toArray, List.getElem_cons_zero, List.getElem_cons_succ]; go_simp; try with_reducible rfl)
    simp only [Act.put, List.getElem_toArray, List.getElem_cons_zero, List.getElem_cons_succ, List.setIfInBounds_toArray, List.set_cons_zero, List.set_cons_succ]
    refine wpAnyH_take (i := 18) (oi := _) (v := ?v18) rfl (by kernel_rfl) (by kernel_rfl) (by kernel_rfl) (fun _ _ _ h => h) (Or.inl ⟨by rfl, ?hy18⟩) (by assumption) ?rest18
    case hy18 => (intro wq hSw; (try dsimp only at hSw); simp only [List.getElem_toArray, List.getElem_cons_zero, List.getElem_cons_succ]; go_simp; try with_reducible rfl)
    simp only [Act.put, List.getElem_toArray, List.getElem_cons_zero, List.getElem_cons_succ, List.setIfInBounds_toArray, List.set_cons_zero, List.set_cons_succ]
    refine wpAnyH_ready (rs := [19]) (by kernel_rfl) (by simp) ?_
    refine AllReadyH.cons (o := _) rfl (fun K hK => ?_) AllReadyH.nil
    try simp only [List.getElem_toArray, List.getElem_cons_zero, List.getElem_cons_succ]
    go_simp
    go_at_call 12
    refine ((HF.out.below (Hid.out HWd)).filled _ _ _ _).mono ?_
    rintro e wz ⟨gz, rfl, z1, z2, z3, z4, z5⟩
    rw [hs2] at z3
    have hcz := fun (w' : World) (h : w'.heap = wz.heap) => conv_bytes (w := w') (cap := 1024) L2 (bytes_heap z3 h)
    have HZ := hid_trans HWd z5 rfl
    clear z1 z2 z3 z4 z5
    refine hK.out _ _ HZ (fun _ => ?_)
    have HZ2 : Hid (Below w10.heap.size w10 wz) ∧ wz.heap = wz.heap := ⟨HZ, rfl⟩
    refine wpAnyH_strong (S' := fun w' => Hid (Below w10.heap.size w10 w') ∧ w'.heap = wz.heap) (fun _ h => h.1) _ _ _ _ ?_
    try simp only [Act.put, List.getElem_toArray, List.getElem_cons_zero, List.getElem_cons_succ, List.setIfInBounds_toArray, List.set_cons_zero, List.set_cons_succ]
    refine wpAnyH_take (i := 20) (oi := _) (v := ?v20) rfl (by kernel_rfl) (by kernel_rfl) (by kernel_rfl) (fun _ _ _ h => h) (Or.inl ⟨by rfl, ?hy20⟩) (by assumption) ?rest20
    case hy20 => (intro wq hSw; (try dsimp only at hSw); obtain ⟨hSw, hSh⟩ := hSw; simp only [List.getElem_toArray, List.getElem_cons_zero, List.getElem_cons_succ]; go_simp; try with_reducible rfl)
    simp only [Act.put, List.getElem_toArray, List.getElem_cons_zero, List.getElem_cons_succ, List.setIfInBounds_toArray, List.set_cons_zero, List.set_cons_succ]
    refine wpAnyH_take (i := 21) (oi := _) (v := ?v21) rfl (by kernel_rfl) (by kernel_rfl) (by kernel_rfl) (fun _ _ _ h => h) (Or.inl ⟨by rfl, ?hy21⟩) (by assumption) ?rest21
    case hy21 => (intro wq hSw; (try dsimp only at hSw); obtain ⟨hSw, hSh⟩ := hSw; simp only [List.getElem_toArray, List.getElem_cons_zero, List.getElem_cons_succ]; go_simp; try with_reducible rfl)
    simp only [Act.put, List.getElem_toArray, List.getElem_cons_zero, List.getElem_cons_succ, List.setIfInBounds_toArray, List.set_cons_zero, List.set_cons_succ]
    refine wpAnyH_take (i := 22) (oi := _) (v := ?v22) rfl (by kernel_rfl) (by kernel_rfl) (by kernel_rfl) (fun _ _ _ h => h) (Or.inl ⟨by rfl, ?hy22⟩) (by assumption) ?rest22
    case hy22 => (intro wq hSw; (try dsimp only at hSw); obtain ⟨hSw, hSh⟩ := hSw; simp only [List.getElem_toArray, List.getElem_cons_zero, List.getElem_cons_succ]; go_simp; try with_reducible rfl)
    simp only [Act.put, List.getElem_toArray, List.getElem_cons_zero, List.getElem_cons_succ, List.setIfInBounds_toArray, List.set_cons_zero, List.set_cons_succ]
    refine wpAnyH_take (i := 23) (oi := _) (v := ?v23) rfl (by kernel_rfl) (by kernel_rfl) (by kernel_rfl) (fun _ _ _ h => h) (Or.inl ⟨by rfl, ?hy23⟩) (by assumption) ?rest23
    case hy23 => (intro wq hSw; (try dsimp only at hSw); obtain ⟨hSw, hSh⟩ := hSw; simp only [List.getElem_toArray, List.getElem_cons_zero, List.getElem_cons_succ]; go_simp; try with_reducible rfl)
    simp only [Act.put, List.getElem_toArray, List.getElem_cons_zero, List.getElem_cons_succ, List.setIfInBounds_toArray, List.set_cons_zero, List.set_cons_succ]
    refine wpAnyH_take (i := 24) (oi := _) (v := ?v24) rfl (by kernel_rfl) (by kernel_rfl) (by kernel_rfl) (fun _ _ _ h => h) (Or.inl ⟨by rfl, ?hy24⟩) (by assumption) ?rest24
    case hy24 => (intro wq hSw; (try dsimp only at hSw); obtain ⟨hSw, hSh⟩ := hSw; simp only [List.getElem_toArray, List.getElem_cons_zero, List.getElem_cons_succ]; go_simp; try with_reducible rfl)
    simp only [Act.put, List.getElem_toArray, List.getElem_cons_zero, List.getElem_cons_succ, List.setIfInBounds_toArray, List.set_cons_zero, List.set_cons_succ]
    refine wpAnyH_done (by kernel_rfl) ?_ _
    go_wp2_with fail
    go_ret
    exact ⟨by first | rfl | simp, HF.out.hB.trans (HZ.out.mono HF.out.hB.size)⟩
end Go.Proofs.Ytegiabnlmngkmaa
