/- A bus answers one thing as the document's does: carrellaw04.held. -/
import Derived.Test.YtmamocdkmmkkjaaRBusL
import Derived.Test.YtmamocdkmmkkjaaBusN
import Derived.Deep.RegionHeld3
namespace Go.Proofs.Ytmamocdkmmkkjaa
open Go Go.RowKit Go.Lib Go.Proofs.Ytmamocdkmmkkjaa.Pl
set_option linter.unusedVariables false
set_option linter.unusedSimpArgs false
section
variable {w0 w w' : World} {b1 b2 : Nat} {v v' : BV} {u u' : RV} {x x' z z' : BS} {sec0 : Nat → ByteArray} {hist hist' : List (Nat × ByteArray)}
theorem Both.doP' (T : Both w0 w b1 b2 v u x z sec0 hist) {k a y l h : Int} {x1 : BS} (hq : x.act k a y = (l, h, x1)) (a0 : 0 ≤ a) (a1 : a < 4294967296) (y0 : 0 ≤ y) (y1 : y < 4294967296) :
    Calls Try.prog 10 #[.pointer (some ⟨v.b, 0, none⟩), .agg #[.int .i64 k, .int .u32 a, .int .u32 y]] w fun e w' => e = .returned (.tuple #[.int .u32 l, .int .i64 h]) ∧ ∃ v', Both w0 w' b1 b2 v' u x1 z sec0 hist ∧ Moves w w' v v' := by
  have := T.doP k a y a0 a1 y0 y1
  rw [hq] at this
  exact this
theorem Both.doR' (T : Both w0 w b1 b2 v u x z sec0 hist) {k a y l h : Int} {x1 : BS} (hq : z.act k a y = (l, h, x1)) (a0 : 0 ≤ a) (a1 : a < 4294967296) (y0 : 0 ≤ y) (y1 : y < 4294967296) :
    Calls Try.prog 34 #[.pointer (some ⟨u.b, 0, none⟩), .agg #[.int .i64 k, .int .u32 a, .int .u32 y]] w fun e w' => e = .returned (.tuple #[.int .u32 l, .int .i64 h]) ∧ ∃ u' hist', Both w0 w' b1 b2 v u' x x1 sec0 hist' ∧ RMoves w w' u u' := by
  have := T.doR k a y a0 a1 y0 y1
  rw [hq] at this
  exact this
def opA (kind ak ad y : Int) (s : ByteArray) : Array Value := #[.int .i64 kind, .int .i64 ak, .int .u32 ad, .int .u32 y, .string s]
/-- Both, under one bus. -/
structure Side2 (w0 w : World) (b1 b2 : Nat) (x : BS) (sec0 : Nat → ByteArray) (pb ub : Nat) : Prop where
  it : ∃ v u hist, Both w0 w b1 b2 v u x x sec0 hist ∧ v.b = pb ∧ u.b = ub
/-- What one thing done comes to. -/
def Held (w0 w' : World) (b1 b2 : Nat) (x : BS) (sec0 : Nat → ByteArray) (pb ub : Nat) (kind : Int) (e : Ending) : Prop :=
  e = .returned (.bool true) ∧ ∃ x', Side2 w0 w' b1 b2 x' sec0 pb ub ∧ (pickV kind 6 = 3 → x' = x)
set_option maxRecDepth 100000 in
set_option maxHeartbeats 1000000 in
theorem held_0 (T : Both w0 w b1 b2 v u x x sec0 hist) (kind ak ad y : Int) (s : ByteArray) (hk : pickV kind 6 = 0) (k0 : -9223372036854775808 ≤ kind) (k1 : kind ≤ 9223372036854775807) (a0 : 0 ≤ ad) (a1 : ad < 4294967296) (y0 : 0 ≤ y) (y1 : y < 4294967296) (hs : s.size ≤ 140737488351232) :
    Calls Try.prog 22 #[.pointer (some ⟨v.b, 0, none⟩), .pointer (some ⟨u.b, 0, none⟩), .agg (opA kind ak ad y s)] w fun e w' => Held w0 w' b1 b2 x sec0 v.b u.b kind e := by
  have hp := fun W => pick_any kind 6 (by decide) (by decide) k0 k1 W
  rw [hk] at hp
  have HP := Lib.hid hp
  have HK := Lib.hid hk
  have T0 := Lib.hid (T.step ((Below.refl _ _).alloc (Nat.le_refl _) (.cells (opA kind ak ad y s) 60)))
  have B0 := Lib.hid (BBox.new T (opA kind ak ad y s) 60)
  clear hp hk T
  simp only [opA]
  go_enter Try.func22, Try.ntmps22
  obtain ⟨q, hq⟩ : ∃ q, x.act ak ad y = q := ⟨_, rfl⟩
  obtain ⟨l, h, x1⟩ := q
  have HQ := Lib.hid hq
  clear hq
  go_upto_region 3 with (go_at_call 12; refine (HP.out _).mono ?_; rintro e w1 ⟨rfl, rfl⟩)
  generalize hg : w.heap.size = g at B0 ⊢
  generalize hW : w.alloc (.cells (opA kind ak ad y s) 60) = W at T0 B0
  simp only [opA] at hW
  rw [hW]
  clear hW hg
  have c1 : W.cell? ⟨g, 1, none⟩ = some (.int .i64 ak) := B0.out.blk.cell 1
  have c2 : W.cell? ⟨g, 2, none⟩ = some (.int .u32 ad) := B0.out.blk.cell 2
  have c3 : W.cell? ⟨g, 3, none⟩ = some (.int .u32 y) := B0.out.blk.cell 3
  go_upto_region 4 with (go_at_call 10; refine (T0.out.doP' HQ.out a0 a1 y0 y1).mono ?_; rintro e w2 ⟨rfl, v2, t, m⟩; have T2 := Lib.hid t; have B2 := Lib.hid (B0.out.opP m); have M2 := Lib.hid m; clear t m)
  clear c1 c2 c3
  have c1 : w2.cell? ⟨g, 1, none⟩ = some (.int .i64 ak) := B2.out.blk.cell 1
  have c2 : w2.cell? ⟨g, 2, none⟩ = some (.int .u32 ad) := B2.out.blk.cell 2
  have c3 : w2.cell? ⟨g, 3, none⟩ = some (.int .u32 y) := B2.out.blk.cell 3
  go_wp2_with (go_at_call 34; refine (T2.out.doR' HQ.out a0 a1 y0 y1).mono ?_; rintro e w3 ⟨rfl, u3, hist3, t, m⟩; have T3 := Lib.hid t; have M3 := Lib.hid m; clear t m)
  go_ret
  exact ⟨rfl, x1, ⟨v2, u3, hist3, T3.out, M2.out.k.1, M3.out.k.1⟩, fun h => by rw [HK.out] at h; cases h⟩
set_option maxRecDepth 100000 in
set_option maxHeartbeats 1000000 in
theorem held_2 (T : Both w0 w b1 b2 v u x x sec0 hist) (kind ak ad y : Int) (s : ByteArray) (hk : pickV kind 6 = 2) (k0 : -9223372036854775808 ≤ kind) (k1 : kind ≤ 9223372036854775807) (a0 : 0 ≤ ad) (a1 : ad < 4294967296) (y0 : 0 ≤ y) (y1 : y < 4294967296) (hs : s.size ≤ 140737488351232) :
    Calls Try.prog 22 #[.pointer (some ⟨v.b, 0, none⟩), .pointer (some ⟨u.b, 0, none⟩), .agg (opA kind ak ad y s)] w fun e w' => Held w0 w' b1 b2 x sec0 v.b u.b kind e := by
  have hp := fun W => pick_any kind 6 (by decide) (by decide) k0 k1 W
  rw [hk] at hp
  have HP := Lib.hid hp
  have HK := Lib.hid hk
  have T0 := Lib.hid (T.step ((Below.refl _ _).alloc (Nat.le_refl _) (.cells (opA kind ak ad y s) 60)))
  have B0 := Lib.hid (BBox.new T (opA kind ak ad y s) 60)
  clear hp hk T
  simp only [opA]
  go_enter Try.func22, Try.ntmps22
  go_upto_region 9 with (go_at_call 12; refine (HP.out _).mono ?_; rintro e w1 ⟨rfl, rfl⟩)
  generalize hg : w.heap.size = g at B0 ⊢
  generalize hW : w.alloc (.cells (opA kind ak ad y s) 60) = W at T0 B0
  simp only [opA] at hW
  rw [hW]
  clear hW hg
  have c3 : W.cell? ⟨g, 3, none⟩ = some (.int .u32 y) := B0.out.blk.cell 3
  go_upto_region 10 with (go_at_call 31; refine (T0.out.tickP y y0 y1).mono ?_; rintro e w2 ⟨rfl, t, m⟩; have T2 := Lib.hid t; have B2 := Lib.hid (B0.out.opP m); clear t m)
  clear c3
  have c3 : w2.cell? ⟨g, 3, none⟩ = some (.int .u32 y) := B2.out.blk.cell 3
  go_wp2_with (go_at_call 36; refine (T2.out.tickR y y0 y1).mono ?_; rintro e w3 ⟨rfl, t, m⟩; have T3 := Lib.hid t; clear t m)
  go_ret
  exact ⟨rfl, _, ⟨v, u, hist, T3.out, rfl, rfl⟩, fun h => by rw [HK.out] at h; cases h⟩
set_option maxRecDepth 100000 in
set_option maxHeartbeats 1000000 in
theorem held_3 (T : Both w0 w b1 b2 v u x x sec0 hist) (kind ak ad y : Int) (s : ByteArray) (hk : pickV kind 6 = 3) (k0 : -9223372036854775808 ≤ kind) (k1 : kind ≤ 9223372036854775807) (a0 : 0 ≤ ad) (a1 : ad < 4294967296) (y0 : 0 ≤ y) (y1 : y < 4294967296) (hs : s.size ≤ 140737488351232) :
    Calls Try.prog 22 #[.pointer (some ⟨v.b, 0, none⟩), .pointer (some ⟨u.b, 0, none⟩), .agg (opA kind ak ad y s)] w fun e w' => Held w0 w' b1 b2 x sec0 v.b u.b kind e := by
  have hp := fun W => pick_any kind 6 (by decide) (by decide) k0 k1 W
  rw [hk] at hp
  have HP := Lib.hid hp
  have HK := Lib.hid hk
  have T0 := Lib.hid (T.step ((Below.refl _ _).alloc (Nat.le_refl _) (.cells (opA kind ak ad y s) 60)))
  have B0 := Lib.hid (BBox.new T (opA kind ak ad y s) 60)
  clear hp hk T
  simp only [opA]
  go_enter Try.func22, Try.ntmps22
  go_upto_region 13 with (go_at_call 12; refine (HP.out _).mono ?_; rintro e w1 ⟨rfl, rfl⟩)
  generalize hg : w.heap.size = g at B0 ⊢
  generalize hW : w.alloc (.cells (opA kind ak ad y s) 60) = W at T0 B0
  simp only [opA] at hW
  rw [hW]
  clear hW hg
  go_wp2_with (first | (go_at_call 18; refine (bwaiting_any T0.out.p).mono ?_; rintro e w2 ⟨rfl, rfl⟩) | (go_at_call 37; refine (rwaiting_any T0.out.r).mono ?_; rintro e w2 ⟨rfl, rfl⟩) | (go_at_call 19; refine (bout_any T0.out.p).mono ?_; rintro e w2 ⟨rfl, rfl⟩) | (go_at_call 38; refine (rout_any T0.out.r).mono ?_; rintro e w2 ⟨rfl, rfl⟩))
  go_ret
  exact ⟨rfl, x, ⟨v, u, hist, T0.out, rfl, rfl⟩, fun _ => rfl⟩
set_option maxRecDepth 100000 in
set_option maxHeartbeats 1000000 in
theorem held_4 (T : Both w0 w b1 b2 v u x x sec0 hist) (kind ak ad y : Int) (s : ByteArray) (hk : pickV kind 6 = 4) (k0 : -9223372036854775808 ≤ kind) (k1 : kind ≤ 9223372036854775807) (a0 : 0 ≤ ad) (a1 : ad < 4294967296) (y0 : 0 ≤ y) (y1 : y < 4294967296) (hs : s.size ≤ 140737488351232) :
    Calls Try.prog 22 #[.pointer (some ⟨v.b, 0, none⟩), .pointer (some ⟨u.b, 0, none⟩), .agg (opA kind ak ad y s)] w fun e w' => Held w0 w' b1 b2 x sec0 v.b u.b kind e := by
  have hp := fun W => pick_any kind 6 (by decide) (by decide) k0 k1 W
  rw [hk] at hp
  have HP := Lib.hid hp
  have HK := Lib.hid hk
  have T0 := Lib.hid (T.step ((Below.refl _ _).alloc (Nat.le_refl _) (.cells (opA kind ak ad y s) 60)))
  have B0 := Lib.hid (BBox.new T (opA kind ak ad y s) 60)
  clear hp hk T
  simp only [opA]
  go_enter Try.func22, Try.ntmps22
  have HWP := Lib.hid (T0.out.wordP ad a0 a1)
  have HWR := Lib.hid (T0.out.wordR ad a0 a1)
  generalize wordV x ad = wv at HWP HWR
  generalize wordOk ad = wk at HWP HWR
  go_upto_region 15 with (go_at_call 12; refine (HP.out _).mono ?_; rintro e w1 ⟨rfl, rfl⟩)
  generalize hg : w.heap.size = g at B0 ⊢
  generalize hW : w.alloc (.cells (opA kind ak ad y s) 60) = W at T0 B0 HWP HWR
  simp only [opA] at hW
  rw [hW]
  clear hW hg
  have c2 : W.cell? ⟨g, 2, none⟩ = some (.int .u32 ad) := B0.out.blk.cell 2
  go_wp2_with (first | (go_at_call 11; refine HWP.out.mono ?_; rintro e w2 ⟨rfl, rfl⟩) | (go_at_call 39; refine HWR.out.mono ?_; rintro e w2 ⟨rfl, rfl⟩))
  go_ret
  exact ⟨rfl, x, ⟨v, u, hist, T0.out, rfl, rfl⟩, fun _ => rfl⟩
set_option maxRecDepth 100000 in
set_option maxHeartbeats 1000000 in
theorem held_1 (T : Both w0 w b1 b2 v u x x sec0 hist) (kind ak ad y : Int) (s : ByteArray) (hk : pickV kind 6 = 1) (k0 : -9223372036854775808 ≤ kind) (k1 : kind ≤ 9223372036854775807) (a0 : 0 ≤ ad) (a1 : ad < 4294967296) (y0 : 0 ≤ y) (y1 : y < 4294967296) (hs : s.size ≤ 140737488351232) :
    Calls Try.prog 22 #[.pointer (some ⟨v.b, 0, none⟩), .pointer (some ⟨u.b, 0, none⟩), .agg (opA kind ak ad y s)] w fun e w' => Held w0 w' b1 b2 x sec0 v.b u.b kind e := by
  have hp := fun W => pick_any kind 6 (by decide) (by decide) k0 k1 W
  rw [hk] at hp
  have HP := Lib.hid hp
  have HK := Lib.hid hk
  have T0 := Lib.hid (T.step ((Below.refl _ _).alloc (Nat.le_refl _) (.cells (opA kind ak ad y s) 60)))
  have B0 := Lib.hid (BBox.new T (opA kind ak ad y s) 60)
  clear hp hk T
  simp only [opA]
  go_enter Try.func22, Try.ntmps22
  go_upto_region 7 with (go_at_call 12; refine (HP.out _).mono ?_; rintro e w1 ⟨rfl, rfl⟩)
  generalize hg : w.heap.size = g at B0 ⊢
  generalize hW : w.alloc (.cells (opA kind ak ad y s) 60) = W at T0 B0
  simp only [opA] at hW
  rw [hW]
  clear hW hg
  have KD := Lib.hid (show Both w0 W.drew b1 b2 v u x x sec0 hist from T0.out.step ((Below.refl _ _).drew))
  have BD := Lib.hid (show BBox W.drew v u g (opA kind ak ad y s) 60 from ⟨B0.out.blk.step ((Below.refl _ _).drew), B0.out.fa, B0.out.fb⟩)
  have JK : Hid (Blk W.drew g (opA kind ak ad y s) 60) := Lib.hid (BD.out.blk)
  have JZ : Hid (w0.heap.size ≤ W.drew.heap.size) := Lib.hid (KD.out.below.size)
  have TD := Lib.hid KD.out
  have XD := Lib.hid BD.out
  refine wp_region_held_drew (S := (fun w' => Hid (Blk w' g (opA kind ak ad y s) 60) ∧ Hid (w0.heap.size ≤ w'.heap.size))) (by kernel_rfl) ⟨JK, JZ⟩ (fun hHeld => ?_)
  clear hHeld
  generalize W.drew = wd at JK JZ TD XD ⊢
  have hHeld : ((fun w' => Hid (Blk w' g (opA kind ak ad y s) 60) ∧ Hid (w0.heap.size ≤ w'.heap.size)) wd) := ⟨JK, JZ⟩
  refine wpAnyH_take (i := 0) (oi := _) (v := ?v0_1) rfl (by kernel_rfl) (by kernel_rfl) (by kernel_rfl) (fun _ _ _ h => h) (Or.inl ⟨by first | kernel_rfl | rfl, ?hy0_1⟩) (by assumption) ?rest0_1
  case hy0_1 => (intro wq hSw; (try dsimp only at hSw); obtain ⟨qK, qZ⟩ := hSw; clear qK qZ; simp only [List.getElem_toArray, List.getElem_cons_zero, List.getElem_cons_succ]; go_simp; try with_reducible rfl)
  simp only [List.getElem_toArray, List.getElem_cons_zero, List.getElem_cons_succ]
  refine wpAnyH_take (i := 1) (oi := _) (v := ?v1_2) rfl (by kernel_rfl) (by kernel_rfl) (by kernel_rfl) (fun _ _ _ h => h) (Or.inl ⟨by first | kernel_rfl | rfl, ?hy1_2⟩) (by assumption) ?rest1_2
  case hy1_2 => (intro wq hSw; (try dsimp only at hSw); obtain ⟨qK, qZ⟩ := hSw; clear qK qZ; simp only [List.getElem_toArray, List.getElem_cons_zero, List.getElem_cons_succ]; go_simp; try with_reducible rfl)
  simp only [List.getElem_toArray, List.getElem_cons_zero, List.getElem_cons_succ]
  refine wpAnyH_take (i := 2) (oi := _) (v := ?v2_3) rfl (by kernel_rfl) (by kernel_rfl) (by kernel_rfl) (fun _ _ _ h => h) (Or.inl ⟨by first | kernel_rfl | rfl, ?hy2_3⟩) (by assumption) ?rest2_3
  case hy2_3 => (intro wq hSw; (try dsimp only at hSw); obtain ⟨qK, qZ⟩ := hSw; have z0 : wq.cell? ⟨g, 4, none⟩ = some (.string s) := qK.out.cell 4; clear qK qZ; simp only [List.getElem_toArray, List.getElem_cons_zero, List.getElem_cons_succ]; go_simp; try with_reducible rfl)
  simp only [List.getElem_toArray, List.getElem_cons_zero, List.getElem_cons_succ]
  refine wpAnyH_take (i := 4) (oi := _) (v := ?v4_4) rfl (by kernel_rfl) (by kernel_rfl) (by kernel_rfl) (fun _ _ _ h => h) (Or.inl ⟨by first | kernel_rfl | rfl, ?hy4_4⟩) (by assumption) ?rest4_4
  case hy4_4 => (intro wq hSw; (try dsimp only at hSw); obtain ⟨qK, qZ⟩ := hSw; clear qK qZ; simp only [List.getElem_toArray, List.getElem_cons_zero, List.getElem_cons_succ]; go_simp; try with_reducible rfl)
  simp only [List.getElem_toArray, List.getElem_cons_zero, List.getElem_cons_succ]
  refine wpAnyH_take (i := 5) (oi := _) (v := ?v5_5) rfl (by kernel_rfl) (by kernel_rfl) (by kernel_rfl) (fun _ _ _ h => h) (Or.inl ⟨by first | kernel_rfl | rfl, ?hy5_5⟩) (by assumption) ?rest5_5
  case hy5_5 => (intro wq hSw; (try dsimp only at hSw); obtain ⟨qK, qZ⟩ := hSw; clear qK qZ; simp only [List.getElem_toArray, List.getElem_cons_zero, List.getElem_cons_succ]; go_simp; try with_reducible rfl)
  simp only [List.getElem_toArray, List.getElem_cons_zero, List.getElem_cons_succ]
  refine wpAnyH_take (i := 6) (oi := _) (v := ?v6_6) rfl (by kernel_rfl) (by kernel_rfl) (by kernel_rfl) (fun _ _ _ h => h) (Or.inl ⟨by first | kernel_rfl | rfl, ?hy6_6⟩) (by assumption) ?rest6_6
  case hy6_6 => (intro wq hSw; (try dsimp only at hSw); obtain ⟨qK, qZ⟩ := hSw; have z0 : wq.cell? ⟨g, 4, none⟩ = some (.string s) := qK.out.cell 4; clear qK qZ; simp only [List.getElem_toArray, List.getElem_cons_zero, List.getElem_cons_succ]; go_simp; try with_reducible rfl)
  simp only [List.getElem_toArray, List.getElem_cons_zero, List.getElem_cons_succ]
  clear hHeld
  refine wpAnyH_ready (rs := [3]) (by kernel_rfl) (by simp) ?_
  refine (AllReadyH.cons (o := _) rfl (fun K hK => ?_) AllReadyH.nil)
  try simp only [List.getElem_toArray, List.getElem_cons_zero, List.getElem_cons_succ]
  go_simp
  go_at_call 17
  refine (TD.out.feedP s hs).mono ?_
  rintro e w2 ⟨rfl, v2, t, m⟩
  have T2 := Lib.hid t
  have X2 := Lib.hid (XD.out.opP m)
  have M2 := Lib.hid m
  clear t m
  refine hK.out _ _ ⟨Lib.hid X2.out.blk, Lib.hid T2.out.below.size⟩ (fun _ => ?_)
  try simp only [List.getElem_toArray, List.getElem_cons_zero, List.getElem_cons_succ]
  have hHeld2 : ((fun w' => Hid (Blk w' g (opA kind ak ad y s) 60) ∧ Hid (w0.heap.size ≤ w'.heap.size)) _) := ⟨Lib.hid X2.out.blk, Lib.hid T2.out.below.size⟩
  clear hHeld2
  refine wpAnyH_ready (rs := [7]) (by kernel_rfl) (by simp) ?_
  refine (AllReadyH.cons (o := _) rfl (fun K hK => ?_) AllReadyH.nil)
  try simp only [List.getElem_toArray, List.getElem_cons_zero, List.getElem_cons_succ]
  go_simp
  go_at_call 35
  refine (T2.out.feedR s hs).mono ?_
  rintro e w3 ⟨rfl, u3, hist3, t, m⟩
  have T3 := Lib.hid t
  have X3 := Lib.hid (X2.out.opR m)
  have M3 := Lib.hid m
  clear t m
  refine hK.out _ _ ⟨Lib.hid X3.out.blk, Lib.hid T3.out.below.size⟩ (fun _ => ?_)
  try simp only [List.getElem_toArray, List.getElem_cons_zero, List.getElem_cons_succ]
  have hHeld3 : ((fun w' => Hid (Blk w' g (opA kind ak ad y s) 60) ∧ Hid (w0.heap.size ≤ w'.heap.size)) w3) := ⟨Lib.hid X3.out.blk, Lib.hid T3.out.below.size⟩
  refine wpAnyH_take (i := 8) (oi := _) (v := ?v8_7) rfl (by kernel_rfl) (by kernel_rfl) (by kernel_rfl) (fun _ _ _ h => h) (Or.inl ⟨by first | kernel_rfl | rfl, ?hy8_7⟩) (by assumption) ?rest8_7
  case hy8_7 => (intro wq hSw; (try dsimp only at hSw); obtain ⟨qK, qZ⟩ := hSw; clear qK qZ; simp only [List.getElem_toArray, List.getElem_cons_zero, List.getElem_cons_succ]; go_simp; try with_reducible rfl)
  simp only [List.getElem_toArray, List.getElem_cons_zero, List.getElem_cons_succ]
  refine wpAnyH_take (i := 9) (oi := _) (v := ?v9_8) rfl (by kernel_rfl) (by kernel_rfl) (by kernel_rfl) (fun _ _ _ h => h) (Or.inl ⟨by first | kernel_rfl | rfl, ?hy9_8⟩) (by assumption) ?rest9_8
  case hy9_8 => (intro wq hSw; (try dsimp only at hSw); obtain ⟨qK, qZ⟩ := hSw; clear qK qZ; simp only [List.getElem_toArray, List.getElem_cons_zero, List.getElem_cons_succ]; go_simp; try with_reducible rfl)
  simp only [List.getElem_toArray, List.getElem_cons_zero, List.getElem_cons_succ]
  refine wpAnyH_done (by kernel_rfl) ?_ _
  go_wp2_with fail
  go_ret
  exact ⟨rfl, _, ⟨v2, u3, hist3, T3.out, M2.out.k.1, M3.out.k.1⟩, fun h => by rw [HK.out] at h; cases h⟩
set_option maxRecDepth 100000 in
set_option maxHeartbeats 1000000 in
theorem held_5 (T : Both w0 w b1 b2 v u x x sec0 hist) (kind ak ad y : Int) (s : ByteArray) (hk : pickV kind 6 = 5) (k0 : -9223372036854775808 ≤ kind) (k1 : kind ≤ 9223372036854775807) (a0 : 0 ≤ ad) (a1 : ad < 4294967296) (y0 : 0 ≤ y) (y1 : y < 4294967296) (hs : s.size ≤ 140737488351232) :
    Calls Try.prog 22 #[.pointer (some ⟨v.b, 0, none⟩), .pointer (some ⟨u.b, 0, none⟩), .agg (opA kind ak ad y s)] w fun e w' => Held w0 w' b1 b2 x sec0 v.b u.b kind e := by
  have hp := fun W => pick_any kind 6 (by decide) (by decide) k0 k1 W
  rw [hk] at hp
  have HP := Lib.hid hp
  have HK := Lib.hid hk
  have T0 := Lib.hid (T.step ((Below.refl _ _).alloc (Nat.le_refl _) (.cells (opA kind ak ad y s) 60)))
  have B0 := Lib.hid (BBox.new T (opA kind ak ad y s) 60)
  clear hp hk T
  simp only [opA]
  go_enter Try.func22, Try.ntmps22
  go_upto_region 18 with (go_at_call 12; refine (HP.out _).mono ?_; rintro e w1 ⟨rfl, rfl⟩)
  generalize hg : w.heap.size = g at B0 ⊢
  generalize hW : w.alloc (.cells (opA kind ak ad y s) 60) = W at T0 B0
  simp only [opA] at hW
  rw [hW]
  clear hW hg
  have KD := Lib.hid (show Both w0 W.drew b1 b2 v u x x sec0 hist from T0.out.step ((Below.refl _ _).drew))
  have BD := Lib.hid (show BBox W.drew v u g (opA kind ak ad y s) 60 from ⟨B0.out.blk.step ((Below.refl _ _).drew), B0.out.fa, B0.out.fb⟩)
  have JK : Hid (Blk W.drew g (opA kind ak ad y s) 60) := Lib.hid (BD.out.blk)
  have JZ : Hid (w0.heap.size ≤ W.drew.heap.size) := Lib.hid (KD.out.below.size)
  have TD := Lib.hid KD.out
  have XD := Lib.hid BD.out
  refine wp_region_held_drew (S := (fun w' => Hid (Blk w' g (opA kind ak ad y s) 60) ∧ Hid (w0.heap.size ≤ w'.heap.size))) (by kernel_rfl) ⟨JK, JZ⟩ (fun hHeld => ?_)
  clear hHeld
  generalize W.drew = wd at JK JZ TD XD ⊢
  have hHeld : ((fun w' => Hid (Blk w' g (opA kind ak ad y s) 60) ∧ Hid (w0.heap.size ≤ w'.heap.size)) wd) := ⟨JK, JZ⟩
  refine wpAnyH_take (i := 0) (oi := _) (v := ?v0_9) rfl (by kernel_rfl) (by kernel_rfl) (by kernel_rfl) (fun _ _ _ h => h) (Or.inl ⟨by first | kernel_rfl | rfl, ?hy0_9⟩) (by assumption) ?rest0_9
  case hy0_9 => (intro wq hSw; (try dsimp only at hSw); obtain ⟨qK, qZ⟩ := hSw; clear qK qZ; simp only [List.getElem_toArray, List.getElem_cons_zero, List.getElem_cons_succ]; go_simp; try with_reducible rfl)
  simp only [List.getElem_toArray, List.getElem_cons_zero, List.getElem_cons_succ]
  refine wpAnyH_take (i := 1) (oi := _) (v := ?v1_10) rfl (by kernel_rfl) (by kernel_rfl) (by kernel_rfl) (fun _ _ _ h => h) (Or.inl ⟨by first | kernel_rfl | rfl, ?hy1_10⟩) (by assumption) ?rest1_10
  case hy1_10 => (intro wq hSw; (try dsimp only at hSw); obtain ⟨qK, qZ⟩ := hSw; clear qK qZ; simp only [List.getElem_toArray, List.getElem_cons_zero, List.getElem_cons_succ]; go_simp; try with_reducible rfl)
  simp only [List.getElem_toArray, List.getElem_cons_zero, List.getElem_cons_succ]
  refine wpAnyH_take (i := 2) (oi := _) (v := ?v2_11) rfl (by kernel_rfl) (by kernel_rfl) (by kernel_rfl) (fun _ _ _ h => h) (Or.inl ⟨by first | kernel_rfl | rfl, ?hy2_11⟩) (by assumption) ?rest2_11
  case hy2_11 => (intro wq hSw; (try dsimp only at hSw); obtain ⟨qK, qZ⟩ := hSw; clear qK qZ; simp only [List.getElem_toArray, List.getElem_cons_zero, List.getElem_cons_succ]; go_simp; try with_reducible rfl)
  simp only [List.getElem_toArray, List.getElem_cons_zero, List.getElem_cons_succ]
  refine wpAnyH_take (i := 3) (oi := _) (v := ?v3_12) rfl (by kernel_rfl) (by kernel_rfl) (by kernel_rfl) (fun _ _ _ h => h) (Or.inl ⟨by first | kernel_rfl | rfl, ?hy3_12⟩) (by assumption) ?rest3_12
  case hy3_12 => (intro wq hSw; (try dsimp only at hSw); obtain ⟨qK, qZ⟩ := hSw; have z0 : wq.cell? ⟨g, 2, none⟩ = some (.int .u32 ad) := qK.out.cell 2; clear qK qZ; simp only [List.getElem_toArray, List.getElem_cons_zero, List.getElem_cons_succ]; go_simp; try with_reducible rfl)
  simp only [List.getElem_toArray, List.getElem_cons_zero, List.getElem_cons_succ]
  refine wpAnyH_take (i := 4) (oi := _) (v := ?v4_13) rfl (by kernel_rfl) (by kernel_rfl) (by kernel_rfl) (fun _ _ _ h => h) (Or.inl ⟨by first | kernel_rfl | rfl, ?hy4_13⟩) (by assumption) ?rest4_13
  case hy4_13 => (intro wq hSw; (try dsimp only at hSw); obtain ⟨qK, qZ⟩ := hSw; clear qK qZ; simp only [List.getElem_toArray, List.getElem_cons_zero, List.getElem_cons_succ]; go_simp; try with_reducible rfl)
  simp only [List.getElem_toArray, List.getElem_cons_zero, List.getElem_cons_succ]
  refine wpAnyH_take (i := 5) (oi := _) (v := ?v5_14) rfl (by kernel_rfl) (by kernel_rfl) (by kernel_rfl) (fun _ _ _ h => h) (Or.inl ⟨by first | kernel_rfl | rfl, ?hy5_14⟩) (by assumption) ?rest5_14
  case hy5_14 => (intro wq hSw; (try dsimp only at hSw); obtain ⟨qK, qZ⟩ := hSw; clear qK qZ; simp only [List.getElem_toArray, List.getElem_cons_zero, List.getElem_cons_succ]; go_simp; try with_reducible rfl)
  simp only [List.getElem_toArray, List.getElem_cons_zero, List.getElem_cons_succ]
  refine wpAnyH_take (i := 6) (oi := _) (v := ?v6_15) rfl (by kernel_rfl) (by kernel_rfl) (by kernel_rfl) (fun _ _ _ h => h) (Or.inl ⟨by first | kernel_rfl | rfl, ?hy6_15⟩) (by assumption) ?rest6_15
  case hy6_15 => (intro wq hSw; (try dsimp only at hSw); obtain ⟨qK, qZ⟩ := hSw; have z0 : wq.cell? ⟨g, 3, none⟩ = some (.int .u32 y) := qK.out.cell 3; clear qK qZ; simp only [List.getElem_toArray, List.getElem_cons_zero, List.getElem_cons_succ]; go_simp; try with_reducible rfl)
  simp only [List.getElem_toArray, List.getElem_cons_zero, List.getElem_cons_succ]
  refine wpAnyH_take (i := 8) (oi := _) (v := ?v8_16) rfl (by kernel_rfl) (by kernel_rfl) (by kernel_rfl) (fun _ _ _ h => h) (Or.inl ⟨by first | kernel_rfl | rfl, ?hy8_16⟩) (by assumption) ?rest8_16
  case hy8_16 => (intro wq hSw; (try dsimp only at hSw); obtain ⟨qK, qZ⟩ := hSw; clear qK qZ; simp only [List.getElem_toArray, List.getElem_cons_zero, List.getElem_cons_succ]; go_simp; try with_reducible rfl)
  simp only [List.getElem_toArray, List.getElem_cons_zero, List.getElem_cons_succ]
  refine wpAnyH_take (i := 9) (oi := _) (v := ?v9_17) rfl (by kernel_rfl) (by kernel_rfl) (by kernel_rfl) (fun _ _ _ h => h) (Or.inl ⟨by first | kernel_rfl | rfl, ?hy9_17⟩) (by assumption) ?rest9_17
  case hy9_17 => (intro wq hSw; (try dsimp only at hSw); obtain ⟨qK, qZ⟩ := hSw; clear qK qZ; simp only [List.getElem_toArray, List.getElem_cons_zero, List.getElem_cons_succ]; go_simp; try with_reducible rfl)
  simp only [List.getElem_toArray, List.getElem_cons_zero, List.getElem_cons_succ]
  refine wpAnyH_take (i := 10) (oi := _) (v := ?v10_18) rfl (by kernel_rfl) (by kernel_rfl) (by kernel_rfl) (fun _ _ _ h => h) (Or.inl ⟨by first | kernel_rfl | rfl, ?hy10_18⟩) (by assumption) ?rest10_18
  case hy10_18 => (intro wq hSw; (try dsimp only at hSw); obtain ⟨qK, qZ⟩ := hSw; clear qK qZ; simp only [List.getElem_toArray, List.getElem_cons_zero, List.getElem_cons_succ]; go_simp; try with_reducible rfl)
  simp only [List.getElem_toArray, List.getElem_cons_zero, List.getElem_cons_succ]
  refine wpAnyH_take (i := 11) (oi := _) (v := ?v11_19) rfl (by kernel_rfl) (by kernel_rfl) (by kernel_rfl) (fun _ _ _ h => h) (Or.inl ⟨by first | kernel_rfl | rfl, ?hy11_19⟩) (by assumption) ?rest11_19
  case hy11_19 => (intro wq hSw; (try dsimp only at hSw); obtain ⟨qK, qZ⟩ := hSw; have z0 : wq.cell? ⟨g, 2, none⟩ = some (.int .u32 ad) := qK.out.cell 2; clear qK qZ; simp only [List.getElem_toArray, List.getElem_cons_zero, List.getElem_cons_succ]; go_simp; try with_reducible rfl)
  simp only [List.getElem_toArray, List.getElem_cons_zero, List.getElem_cons_succ]
  refine wpAnyH_take (i := 12) (oi := _) (v := ?v12_20) rfl (by kernel_rfl) (by kernel_rfl) (by kernel_rfl) (fun _ _ _ h => h) (Or.inl ⟨by first | kernel_rfl | rfl, ?hy12_20⟩) (by assumption) ?rest12_20
  case hy12_20 => (intro wq hSw; (try dsimp only at hSw); obtain ⟨qK, qZ⟩ := hSw; clear qK qZ; simp only [List.getElem_toArray, List.getElem_cons_zero, List.getElem_cons_succ]; go_simp; try with_reducible rfl)
  simp only [List.getElem_toArray, List.getElem_cons_zero, List.getElem_cons_succ]
  refine wpAnyH_take (i := 13) (oi := _) (v := ?v13_21) rfl (by kernel_rfl) (by kernel_rfl) (by kernel_rfl) (fun _ _ _ h => h) (Or.inl ⟨by first | kernel_rfl | rfl, ?hy13_21⟩) (by assumption) ?rest13_21
  case hy13_21 => (intro wq hSw; (try dsimp only at hSw); obtain ⟨qK, qZ⟩ := hSw; clear qK qZ; simp only [List.getElem_toArray, List.getElem_cons_zero, List.getElem_cons_succ]; go_simp; try with_reducible rfl)
  simp only [List.getElem_toArray, List.getElem_cons_zero, List.getElem_cons_succ]
  refine wpAnyH_take (i := 14) (oi := _) (v := ?v14_22) rfl (by kernel_rfl) (by kernel_rfl) (by kernel_rfl) (fun _ _ _ h => h) (Or.inl ⟨by first | kernel_rfl | rfl, ?hy14_22⟩) (by assumption) ?rest14_22
  case hy14_22 => (intro wq hSw; (try dsimp only at hSw); obtain ⟨qK, qZ⟩ := hSw; have z0 : wq.cell? ⟨g, 3, none⟩ = some (.int .u32 y) := qK.out.cell 3; clear qK qZ; simp only [List.getElem_toArray, List.getElem_cons_zero, List.getElem_cons_succ]; go_simp; try with_reducible rfl)
  simp only [List.getElem_toArray, List.getElem_cons_zero, List.getElem_cons_succ]
  clear hHeld
  refine wpAnyH_ready (rs := [7]) (by kernel_rfl) (by simp) ?_
  refine (AllReadyH.cons (o := _) rfl (fun K hK => ?_) AllReadyH.nil)
  try simp only [List.getElem_toArray, List.getElem_cons_zero, List.getElem_cons_succ]
  go_simp
  go_at_call 13
  refine (TD.out.pokeP ad y a0 a1 y0 y1).mono ?_
  rintro e w2 ⟨rfl, t, m⟩
  have T2 := Lib.hid t
  have X2 := Lib.hid (XD.out.opP m)
  have M2 := Lib.hid m
  clear t m
  refine hK.out _ _ ⟨Lib.hid X2.out.blk, Lib.hid T2.out.below.size⟩ (fun _ => ?_)
  try simp only [List.getElem_toArray, List.getElem_cons_zero, List.getElem_cons_succ]
  have hHeld2 : ((fun w' => Hid (Blk w' g (opA kind ak ad y s) 60) ∧ Hid (w0.heap.size ≤ w'.heap.size)) _) := ⟨Lib.hid X2.out.blk, Lib.hid T2.out.below.size⟩
  clear hHeld2
  refine wpAnyH_ready (rs := [15]) (by kernel_rfl) (by simp) ?_
  refine (AllReadyH.cons (o := _) rfl (fun K hK => ?_) AllReadyH.nil)
  try simp only [List.getElem_toArray, List.getElem_cons_zero, List.getElem_cons_succ]
  go_simp
  go_at_call 40
  refine (T2.out.pokeR ad y a0 a1 y0 y1).mono ?_
  rintro e w3 ⟨rfl, t, m⟩
  have T3 := Lib.hid t
  have X3 := Lib.hid (X2.out.opR m)
  have M3 := Lib.hid m
  clear t m
  refine hK.out _ _ ⟨Lib.hid X3.out.blk, Lib.hid T3.out.below.size⟩ (fun _ => ?_)
  try simp only [List.getElem_toArray, List.getElem_cons_zero, List.getElem_cons_succ]
  have hHeld3 : ((fun w' => Hid (Blk w' g (opA kind ak ad y s) 60) ∧ Hid (w0.heap.size ≤ w'.heap.size)) w3) := ⟨Lib.hid X3.out.blk, Lib.hid T3.out.below.size⟩
  refine wpAnyH_take (i := 16) (oi := _) (v := ?v16_23) rfl (by kernel_rfl) (by kernel_rfl) (by kernel_rfl) (fun _ _ _ h => h) (Or.inl ⟨by first | kernel_rfl | rfl, ?hy16_23⟩) (by assumption) ?rest16_23
  case hy16_23 => (intro wq hSw; (try dsimp only at hSw); obtain ⟨qK, qZ⟩ := hSw; clear qK qZ; simp only [List.getElem_toArray, List.getElem_cons_zero, List.getElem_cons_succ]; go_simp; try with_reducible rfl)
  simp only [List.getElem_toArray, List.getElem_cons_zero, List.getElem_cons_succ]
  refine wpAnyH_take (i := 17) (oi := _) (v := ?v17_24) rfl (by kernel_rfl) (by kernel_rfl) (by kernel_rfl) (fun _ _ _ h => h) (Or.inl ⟨by first | kernel_rfl | rfl, ?hy17_24⟩) (by assumption) ?rest17_24
  case hy17_24 => (intro wq hSw; (try dsimp only at hSw); obtain ⟨qK, qZ⟩ := hSw; clear qK qZ; simp only [List.getElem_toArray, List.getElem_cons_zero, List.getElem_cons_succ]; go_simp; try with_reducible rfl)
  simp only [List.getElem_toArray, List.getElem_cons_zero, List.getElem_cons_succ]
  refine wpAnyH_done (by kernel_rfl) ?_ _
  go_wp2_with fail
  go_ret
  exact ⟨rfl, _, ⟨v, u, hist, T3.out, rfl, rfl⟩, fun h => by rw [HK.out] at h; cases h⟩
theorem held_any (T : Both w0 w b1 b2 v u x x sec0 hist) (kind ak ad y : Int) (s : ByteArray) (k0 : -9223372036854775808 ≤ kind) (k1 : kind ≤ 9223372036854775807) (a0 : 0 ≤ ad) (a1 : ad < 4294967296) (y0 : 0 ≤ y) (y1 : y < 4294967296) (hs : s.size ≤ 140737488351232) :
    Calls Try.prog 22 #[.pointer (some ⟨v.b, 0, none⟩), .pointer (some ⟨u.b, 0, none⟩), .agg (opA kind ak ad y s)] w fun e w' => Held w0 w' b1 b2 x sec0 v.b u.b kind e := by
  have hl : pickV kind 6 < 6 := Nat.mod_lt _ (by decide)
  have hh : pickV kind 6 = 0 ∨ pickV kind 6 = 1 ∨ pickV kind 6 = 2 ∨ pickV kind 6 = 3 ∨ pickV kind 6 = 4 ∨ pickV kind 6 = 5 := by omega
  rcases hh with h | h | h | h | h | h
  · exact held_0 T kind ak ad y s h k0 k1 a0 a1 y0 y1 hs
  · exact held_1 T kind ak ad y s h k0 k1 a0 a1 y0 y1 hs
  · exact held_2 T kind ak ad y s h k0 k1 a0 a1 y0 y1 hs
  · exact held_3 T kind ak ad y s h k0 k1 a0 a1 y0 y1 hs
  · exact held_4 T kind ak ad y s h k0 k1 a0 a1 y0 y1 hs
  · exact held_5 T kind ak ad y s h k0 k1 a0 a1 y0 y1 hs
end
end Go.Proofs.Ytmamocdkmmkkjaa
