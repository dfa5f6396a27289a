/- A step's bytes; shown. -/
import Derived.Test.YtegiabnlmngkmaaDiskD
import Derived.Laws.OwnMore
namespace Go.Proofs.Ytegiabnlmngkmaa
open Go Go.RowKit Go.Lib
set_option linter.unusedVariables false
def ofL (l : List UInt8) : ByteArray := ⟨l.toArray⟩
theorem strCells_ofL (l : List UInt8) : strCells (ofL l) = l.map fun b => Value.int .u8 b.toNat := by simp [strCells, ofL]
theorem ofL_size (l : List UInt8) : (ofL l).size = l.length := by show l.toArray.size = _; simp
/-- A block that is a text's bytes. -/
def BytesAt (w : World) (g : Nat) (l : List UInt8) : Prop := w.heap[g]? = some (.cells (strCells (ofL l)).toArray 5 (0, 0))
theorem BytesAt.range {w : World} {g : Nat} {l : List UInt8} (h : BytesAt w g l) : w.rangeAt g 0 (strCells (ofL l)) := fun j v hj => by
  rw [Nat.zero_add, cell_of_row w g j _ _ _ h]; simpa using hj
theorem BytesAt.lt {w : World} {g : Nat} {l : List UInt8} (h : BytesAt w g l) : g < w.heap.size := (Array.getElem?_eq_some_iff.1 h).1
theorem BytesAt.cell {w : World} {g : Nat} {l : List UInt8} (h : BytesAt w g l) {j : Nat} (hj : j < l.length) : w.cell? ⟨g, j, none⟩ = some (.int .u8 (l[j]'hj).toNat) := by
  rw [cell_of_row w g j _ _ _ h, strCells_ofL]; simp [hj]
theorem BytesAt.frozen {w : World} {g : Nat} {l : List UInt8} (h : BytesAt w g l) (j : Nat) : w.frozen? ⟨g, j, none⟩ = false := by
  unfold BytesAt at h; simp [World.frozen?, h]
theorem BytesAt.set {w : World} {g : Nat} {l : List UInt8} (h : BytesAt w g l) (j : Nat) (x : UInt8) : BytesAt (w.setCell ⟨g, j, none⟩ (.int .u8 x.toNat)) g (l.set j x) := by
  unfold BytesAt at h ⊢
  simp only [World.setCell, Array.getElem?_modify, if_true, h, Option.map_some]
  congr 2
  rw [strCells_ofL, strCells_ofL]
  simp [List.map_set]
theorem BytesAt.touch {w w' : World} {r : List Nat} {g : Nat} {l : List UInt8} (h : BytesAt w g l) (T : Touch w w' r) (hg : g ∉ r) : BytesAt w' g l := by
  unfold BytesAt at h ⊢; rw [T.block g (Array.getElem?_eq_some_iff.1 h).1 hg]; exact h
theorem BytesAt.below {w w' : World} {g : Nat} {l : List UInt8} (h : BytesAt w g l) {B : Nat} (hb : Below B w w') (hg : g < B) : BytesAt w' g l := by
  unfold BytesAt at h ⊢; rw [hb.block g hg]; exact h
theorem made_bytes (w : World) (g n : Nat) (h : w.heap[g]? = some (.cells (madeCells #[Value.int .u8 0] n) 5 (0, 0))) : BytesAt w g (List.replicate n 0) := by
  unfold BytesAt
  rw [h, strCells_ofL]
  congr 2
  apply Array.toList_inj.1
  rw [toList_madeCells_one]
  simp
/-- How many bytes a step has. -/
def stepLong (long : Int) : Nat := if 0 ≤ long ∧ long < 2000 then long.toNat else 1024
def stepBytes (fill mark : UInt8) (long : Int) : List UInt8 := (List.replicate (stepLong long) fill).set 0 mark
theorem info_u8 : (Try.prog.info? 5).map (fun i => (i.zero, i.size, i.bytes)) = some (some (.int .u8 0), 1, 1) := by kernel_rfl
theorem fill_step (n j : Nat) (f : UInt8) (h : j < n) : (List.replicate j f ++ List.replicate (n - j) (0 : UInt8)).set j f = List.replicate (j + 1) f ++ List.replicate (n - (j + 1)) 0 := by
  rw [List.set_append_right _ _ (by simp), List.length_replicate, Nat.sub_self, show n - j = (n - (j + 1)) + 1 from by omega, List.replicate_succ, List.set_cons_zero, List.replicate_succ', List.append_assoc]
  rfl
theorem filled_short (kind n : Int) (fill mark : UInt8) (k : Nat) (hk : k < 2000) (w : World) :
    Calls Try.prog 12 #[.agg #[.int .i64 kind, .int .i64 n, .int .u8 fill.toNat, .int .u8 mark.toNat, .int .i64 (k : Int)]] w fun e w' =>
      ∃ g, e = .returned (.slice (some ⟨g, 0, none⟩) k k) ∧ w.heap.size ≤ g ∧ BytesAt w' g ((List.replicate k fill).set 0 mark) ∧ Below w.heap.size w w' := by
  obtain ⟨i0, hi, hz0, hz1, hz2⟩ := info_parts info_u8
  have h0 : (0 : Int) ≤ (k : Int) := by omega
  have h1 : (k : Int) < 2000 := by omega
  go_enter Try.func12, Try.ntmps12
  go_wp2_with (first | (at_make; refine wpList_make_full _ rfl _ _ 30 rfl w.heap.size 5 i0 _ 1 Try.underlying30 hi hz0 hz1 .i64 .i64 (k : Int) (k : Int) k rfl rfl rfl rfl ?m3 ?m4 (by simp) ?_))
  case m3 => first | omega | (rw [hz2]; omega)
  case m4 => unfold maxLen; first | omega | (rw [hz2]; omega)
  intro w1 hown hgrow
  have hblk := made_block (C := madeCells #[Value.int .u8 0] k) hown (by rw [Nat.mul_one]; exact size_madeCells _ _)
  have hb := made_bytes w1 _ _ hblk
  have hb1 : Below w.heap.size w w1 := ((Below.refl w.heap.size w).alloc (Nat.le_refl _) _).grown hgrow (by simp) (fun _ h => by cases h)
  have hbox := hgrow.block w.heap.size (by simp) (by intro h; cases h)
  rw [heap_alloc_new] at hbox
  have hc2 : w1.cell? ⟨w.heap.size, 2, none⟩ = some (.int .u8 fill.toNat) := by rw [World.cell?, hbox]; rfl
  have hc3 : w1.cell? ⟨w.heap.size, 3, none⟩ = some (.int .u8 mark.toNat) := by rw [World.cell?, hbox]; rfl
  have hne : w.heap.size ≠ w.heap.size + 1 := by omega
  have hb0 : BytesAt w1 (w.heap.size + 1) (List.replicate 0 fill ++ List.replicate (k - 0) 0) := hb
  clear hown hgrow hblk hbox hb
  have hbh := Lib.hid hb0
  have hBh := Lib.hid hb1
  clear hb0 hb1
  go_wp2_with fail
  go_loopw [5] (fun i wr => ∃ j : Nat, j ≤ k ∧ i = .int .i64 j ∧ wr.cell? ⟨w.heap.size, 2, none⟩ = some (.int .u8 fill.toNat) ∧ wr.cell? ⟨w.heap.size, 3, none⟩ = some (.int .u8 mark.toNat) ∧ Hid (BytesAt wr (w.heap.size + 1) (List.replicate j fill ++ List.replicate (k - j) 0)) ∧ Hid (Below w.heap.size w wr)) (fun i _ => k - (intOf i).toNat)
  case atStart => exact ⟨0, by omega, rfl, hc2, hc3, hbh.out, hBh.out⟩
  case round =>
    obtain ⟨j, hj, rfl, k2, k3, HB, HW⟩ := hrel
    by_cases hlt : j < k
    · obtain ⟨u, hcl⟩ : ∃ u, wr.cell? ⟨w.heap.size + 1, j, none⟩ = some u := ⟨_, HB.out.cell (j := j) (by simp; omega)⟩
      have hl2 : (j : Int) < (k : Int) := by omega
      have hfr := HB.out.frozen j
      have HS := Lib.hid (HB.out.set j fill)
      go_wp2_with fail
      go_roundw
      case rel =>
        refine ⟨j + 1, by omega, by go_num, ?_, ?_, ?_, HW.out.setCell (by simp) _⟩
        · exact (Touch.set _ _ _).cell k2 (by simp)
        · exact (Touch.set _ _ _).cell k3 (by simp)
        · have := HS.out
          rw [fill_step k j fill hlt] at this
          exact this
      case measure => simp [intOf]; omega
    · obtain rfl : j = k := by omega
      have hl2 : ¬ (j : Int) < (j : Int) := by omega
      have hb2 := HB.out
      rw [Nat.sub_self, List.replicate_zero, List.append_nil] at hb2
      by_cases hpos : 0 < j
      · obtain ⟨u, hcl⟩ : ∃ u, wr.cell? ⟨w.heap.size + 1, 0, none⟩ = some u := ⟨_, hb2.cell (j := 0) (by simp; omega)⟩
        have hps : (0 : Int) < (j : Int) := by omega
        have HQ := Lib.hid hb2
        have hfr := hb2.frozen 0
        have HS := Lib.hid (hb2.set 0 mark)
        clear hb2
        go_wp2_with fail
        go_ret
        exact ⟨_, rfl, by omega, HS.out, HW.out.setCell (by simp) _⟩
      · obtain rfl : j = 0 := by omega
        go_wp2_with fail
        go_ret
        exact ⟨_, rfl, by omega, hb2, HW.out⟩
theorem filled_neg (kind n : Int) (fill mark : UInt8) (long : Int) (h0 : long < 0) (k : Nat) (hk : (k : Int) = 1024) (w : World) :
    Calls Try.prog 12 #[.agg #[.int .i64 kind, .int .i64 n, .int .u8 fill.toNat, .int .u8 mark.toNat, .int .i64 long]] w fun e w' =>
      ∃ g, e = .returned (.slice (some ⟨g, 0, none⟩) k k) ∧ w.heap.size ≤ g ∧ BytesAt w' g ((List.replicate k fill).set 0 mark) ∧ Below w.heap.size w w' := by
  obtain ⟨i0, hi, hz0, hz1, hz2⟩ := info_parts info_u8
  have HK := Lib.hid hk
  clear hk
  go_enter Try.func12, Try.ntmps12
  go_wp2_with (first | (at_make; refine wpList_make_full _ rfl _ _ 30 rfl w.heap.size 5 i0 _ 1 Try.underlying30 hi hz0 hz1 .i64 .i64 1024 1024 k rfl rfl (by have := HK.out; omega) (by have := HK.out; omega) ?m3 ?m4 (by simp) ?_))
  case m3 => have := HK.out; first | omega | (rw [hz2]; omega)
  case m4 => have := HK.out; unfold maxLen; first | omega | (rw [hz2]; omega)
  intro w1 hown hgrow
  have hblk := made_block (C := madeCells #[Value.int .u8 0] k) hown (by rw [Nat.mul_one]; exact size_madeCells _ _)
  have hb := made_bytes w1 _ _ hblk
  have hb1 : Below w.heap.size w w1 := ((Below.refl w.heap.size w).alloc (Nat.le_refl _) _).grown hgrow (by simp) (fun _ h => by cases h)
  have hbox := hgrow.block w.heap.size (by simp) (by intro h; cases h)
  rw [heap_alloc_new] at hbox
  have hc2 : w1.cell? ⟨w.heap.size, 2, none⟩ = some (.int .u8 fill.toNat) := by rw [World.cell?, hbox]; rfl
  have hc3 : w1.cell? ⟨w.heap.size, 3, none⟩ = some (.int .u8 mark.toNat) := by rw [World.cell?, hbox]; rfl
  have hne : w.heap.size ≠ w.heap.size + 1 := by omega
  have hb0 : BytesAt w1 (w.heap.size + 1) (List.replicate 0 fill ++ List.replicate (k - 0) 0) := hb
  clear hown hgrow hblk hbox hb
  have hbh := Lib.hid hb0
  have hBh := Lib.hid hb1
  clear hb0 hb1
  go_wp2_with fail
  go_loopw [5] (fun i wr => ∃ j : Nat, j ≤ k ∧ i = .int .i64 j ∧ wr.cell? ⟨w.heap.size, 2, none⟩ = some (.int .u8 fill.toNat) ∧ wr.cell? ⟨w.heap.size, 3, none⟩ = some (.int .u8 mark.toNat) ∧ Hid (BytesAt wr (w.heap.size + 1) (List.replicate j fill ++ List.replicate (k - j) 0)) ∧ Hid (Below w.heap.size w wr)) (fun i _ => k - (intOf i).toNat)
  case atStart => exact ⟨0, by omega, rfl, hc2, hc3, hbh.out, hBh.out⟩
  case round =>
    obtain ⟨j, hj, rfl, k2, k3, HB, HW⟩ := hrel
    by_cases hlt : j < k
    · obtain ⟨u, hcl⟩ : ∃ u, wr.cell? ⟨w.heap.size + 1, j, none⟩ = some u := ⟨_, HB.out.cell (j := j) (by simp; omega)⟩
      have hl2 : (j : Int) < 1024 := by have := HK.out; omega
      have hfr := HB.out.frozen j
      have HS := Lib.hid (HB.out.set j fill)
      go_wp2_with fail
      go_roundw
      case rel =>
        refine ⟨j + 1, by omega, by go_num, ?_, ?_, ?_, HW.out.setCell (by simp) _⟩
        · exact (Touch.set _ _ _).cell k2 (by simp)
        · exact (Touch.set _ _ _).cell k3 (by simp)
        · have := HS.out
          rw [fill_step k j fill hlt] at this
          exact this
      case measure => simp [intOf]; omega
    · obtain rfl : j = k := by omega
      have hl2 : ¬ (j : Int) < 1024 := by have := HK.out; omega
      have hb2 := HB.out
      rw [Nat.sub_self, List.replicate_zero, List.append_nil] at hb2
      by_cases hpos : 0 < j
      · obtain ⟨u, hcl⟩ : ∃ u, wr.cell? ⟨w.heap.size + 1, 0, none⟩ = some u := ⟨_, hb2.cell (j := 0) (by simp; omega)⟩
        have hps : (0 : Int) < 1024 := by have := HK.out; omega
        have HQ := Lib.hid hb2
        have hfr := hb2.frozen 0
        have HS := Lib.hid (hb2.set 0 mark)
        clear hb2
        go_wp2_with fail
        go_ret
        exact ⟨_, (by rw [show j = 1024 from by have := HK.out; omega]; rfl), by omega, HS.out, HW.out.setCell (by simp) _⟩
      · obtain rfl : j = 0 := by omega
        exfalso; have := HK.out; omega
theorem filled_big (kind n : Int) (fill mark : UInt8) (long : Int) (h00 : 0 ≤ long) (h0 : 2000 ≤ long) (k : Nat) (hk : (k : Int) = 1024) (w : World) :
    Calls Try.prog 12 #[.agg #[.int .i64 kind, .int .i64 n, .int .u8 fill.toNat, .int .u8 mark.toNat, .int .i64 long]] w fun e w' =>
      ∃ g, e = .returned (.slice (some ⟨g, 0, none⟩) k k) ∧ w.heap.size ≤ g ∧ BytesAt w' g ((List.replicate k fill).set 0 mark) ∧ Below w.heap.size w w' := by
  obtain ⟨i0, hi, hz0, hz1, hz2⟩ := info_parts info_u8
  have HK := Lib.hid hk
  clear hk
  go_enter Try.func12, Try.ntmps12
  go_wp2_with (first | (at_make; refine wpList_make_full _ rfl _ _ 30 rfl w.heap.size 5 i0 _ 1 Try.underlying30 hi hz0 hz1 .i64 .i64 1024 1024 k rfl rfl (by have := HK.out; omega) (by have := HK.out; omega) ?m3 ?m4 (by simp) ?_))
  case m3 => have := HK.out; first | omega | (rw [hz2]; omega)
  case m4 => have := HK.out; unfold maxLen; first | omega | (rw [hz2]; omega)
  intro w1 hown hgrow
  have hblk := made_block (C := madeCells #[Value.int .u8 0] k) hown (by rw [Nat.mul_one]; exact size_madeCells _ _)
  have hb := made_bytes w1 _ _ hblk
  have hb1 : Below w.heap.size w w1 := ((Below.refl w.heap.size w).alloc (Nat.le_refl _) _).grown hgrow (by simp) (fun _ h => by cases h)
  have hbox := hgrow.block w.heap.size (by simp) (by intro h; cases h)
  rw [heap_alloc_new] at hbox
  have hc2 : w1.cell? ⟨w.heap.size, 2, none⟩ = some (.int .u8 fill.toNat) := by rw [World.cell?, hbox]; rfl
  have hc3 : w1.cell? ⟨w.heap.size, 3, none⟩ = some (.int .u8 mark.toNat) := by rw [World.cell?, hbox]; rfl
  have hne : w.heap.size ≠ w.heap.size + 1 := by omega
  have hb0 : BytesAt w1 (w.heap.size + 1) (List.replicate 0 fill ++ List.replicate (k - 0) 0) := hb
  clear hown hgrow hblk hbox hb
  have hbh := Lib.hid hb0
  have hBh := Lib.hid hb1
  clear hb0 hb1
  go_wp2_with fail
  go_loopw [5] (fun i wr => ∃ j : Nat, j ≤ k ∧ i = .int .i64 j ∧ wr.cell? ⟨w.heap.size, 2, none⟩ = some (.int .u8 fill.toNat) ∧ wr.cell? ⟨w.heap.size, 3, none⟩ = some (.int .u8 mark.toNat) ∧ Hid (BytesAt wr (w.heap.size + 1) (List.replicate j fill ++ List.replicate (k - j) 0)) ∧ Hid (Below w.heap.size w wr)) (fun i _ => k - (intOf i).toNat)
  case atStart => exact ⟨0, by omega, rfl, hc2, hc3, hbh.out, hBh.out⟩
  case round =>
    obtain ⟨j, hj, rfl, k2, k3, HB, HW⟩ := hrel
    by_cases hlt : j < k
    · obtain ⟨u, hcl⟩ : ∃ u, wr.cell? ⟨w.heap.size + 1, j, none⟩ = some u := ⟨_, HB.out.cell (j := j) (by simp; omega)⟩
      have hl2 : (j : Int) < 1024 := by have := HK.out; omega
      have hfr := HB.out.frozen j
      have HS := Lib.hid (HB.out.set j fill)
      go_wp2_with fail
      go_roundw
      case rel =>
        refine ⟨j + 1, by omega, by go_num, ?_, ?_, ?_, HW.out.setCell (by simp) _⟩
        · exact (Touch.set _ _ _).cell k2 (by simp)
        · exact (Touch.set _ _ _).cell k3 (by simp)
        · have := HS.out
          rw [fill_step k j fill hlt] at this
          exact this
      case measure => simp [intOf]; omega
    · obtain rfl : j = k := by omega
      have hl2 : ¬ (j : Int) < 1024 := by have := HK.out; omega
      have hb2 := HB.out
      rw [Nat.sub_self, List.replicate_zero, List.append_nil] at hb2
      by_cases hpos : 0 < j
      · obtain ⟨u, hcl⟩ : ∃ u, wr.cell? ⟨w.heap.size + 1, 0, none⟩ = some u := ⟨_, hb2.cell (j := 0) (by simp; omega)⟩
        have hps : (0 : Int) < 1024 := by have := HK.out; omega
        have HQ := Lib.hid hb2
        have hfr := hb2.frozen 0
        have HS := Lib.hid (hb2.set 0 mark)
        clear hb2
        go_wp2_with fail
        go_ret
        exact ⟨_, (by rw [show j = 1024 from by have := HK.out; omega]; rfl), by omega, HS.out, HW.out.setCell (by simp) _⟩
      · obtain rfl : j = 0 := by omega
        exfalso; have := HK.out; omega
theorem filled_any (kind n : Int) (fill mark : UInt8) (long : Int) (w : World) :
    Calls Try.prog 12 #[.agg #[.int .i64 kind, .int .i64 n, .int .u8 fill.toNat, .int .u8 mark.toNat, .int .i64 long]] w fun e w' =>
      ∃ g, e = .returned (.slice (some ⟨g, 0, none⟩) (stepLong long) (stepLong long)) ∧ w.heap.size ≤ g ∧ BytesAt w' g (stepBytes fill mark long) ∧ Below w.heap.size w w' := by
  unfold stepBytes
  by_cases h : 0 ≤ long ∧ long < 2000
  · obtain ⟨k, rfl⟩ := Int.eq_ofNat_of_zero_le h.1
    have : stepLong (k : Int) = k := by unfold stepLong; rw [if_pos h]; rfl
    rw [this]
    exact filled_short kind n fill mark k (by omega) w
  · have : stepLong long = 1024 := by unfold stepLong; rw [if_neg h]
    rw [this]
    by_cases h0 : long < 0
    · exact filled_neg kind n fill mark long h0 1024 rfl w
    · exact filled_big kind n fill mark long (by omega) (by omega) 1024 rfl w
end Go.Proofs.Ytegiabnlmngkmaa
