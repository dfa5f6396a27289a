/- Word, Poke, Tick, Waiting, Disk. -/
import Derived.Test.YtmamocdkmmkkjaaBusS
import Derived.Test.YtmamocdkmmkkjaaWGP
namespace Go.Proofs.Ytmamocdkmmkkjaa
open Go Go.RowKit Go.Lib Go.Proofs.Ytmamocdkmmkkjaa.Pl
set_option linter.unusedVariables false
section
variable {w : World} {base : Nat} {v : BV} {x : BS}
theorem BusAt.rd (B : BusAt w base v x) : RdI .u8 w (some ⟨v.m, 0, none⟩) 1048576 x.M := B.mem.rd (Nat.le_refl _)
theorem bword_yes (B : BusAt w base v x) (a : Int) (h0 : 0 ≤ a) (h1 : a < 1048576) (h4 : a % 4 = 0) :
    Calls Try.prog 11 #[.pointer (some ⟨v.b, 0, none⟩), .int .u32 a] w fun e w' => e = .returned (.tuple #[.int .u32 (getV x.M a.toNat), .bool true]) ∧ w = w' := by
  obtain ⟨c0, -⟩ := B.cells
  have hg := get_any (some ⟨v.m, 0, none⟩) 1048576 1048576 x.M a w (by decide) (Nat.le_refl _) B.mb B.rd
  rw [show getOk 1048576 a = true from getOk_yes h0 (by omega), show getR 1048576 x.M a = getV x.M a.toNat from by unfold getR; rw [getOk_yes h0 (by omega), if_pos rfl]] at hg
  have HG := Lib.hid hg
  clear hg
  go_enter Try.func11, Try.ntmps11
  go_wp2_with (go_at_call 29; refine HG.out.mono ?_; rintro e w' ⟨rfl, rfl⟩)
  go_ret2
  exact ⟨rfl, rfl⟩
theorem bword_no (B : BusAt w base v x) (a : Int) (h0 : 0 ≤ a) (h1 : a < 4294967296) (h4 : ¬ (a < 1048576 ∧ a % 4 = 0)) :
    Calls Try.prog 11 #[.pointer (some ⟨v.b, 0, none⟩), .int .u32 a] w fun e w' => e = .returned (.tuple #[.int .u32 0, .bool false]) ∧ w = w' := by
  obtain ⟨c0, -⟩ := B.cells
  by_cases hm : a % 4 = 0
  · have hh : ¬ a < 1048576 := fun h => h4 ⟨h, hm⟩
    clear h4
    go_enter Try.func11, Try.ntmps11
    go_wp2_with fail
    go_ret2
    exact ⟨rfl, rfl⟩
  · clear h4
    go_enter Try.func11, Try.ntmps11
    go_wp2_with fail
    go_ret2
    exact ⟨rfl, rfl⟩
theorem BusAt.setM (B : BusAt w base v x) {w' : World} {M : Nat → Int} (t : Touch w w' [v.m]) (h : OwnI .u8 w' v.m 1048576 5 M) (hb : ∀ i, 0 ≤ M i ∧ M i ≤ 255) : BusAt w' base v { x with M := M } := by
  have nd := B.nd
  simp only [brow, List.nodup_cons, List.mem_cons, List.mem_append, not_or, Option.mem_toList] at nd
  obtain ⟨⟨n1, n2, n3, n4, n5, n6⟩, ⟨n7, n8, n9, n10, n11⟩, -⟩ := nd
  exact { B with
    row := (t.block v.b B.row.lt (by simpa using n1)).trans B.row
    mem := h
    mb := hb
    inn := B.inn.touch t (fun g hg hm => n9 (by simp at hm; rw [← hm]; exact hg))
    out := t.owns B.out (fun g hg hm => n10 (by simp at hm; rw [← hm]; exact hg))
    disk := B.disk.touch t (by simp; exact fun e => n7 e.symm) (by simp; exact fun e => n8 e.symm) (fun g hg hm => n11 (by simp at hm; rw [← hm]; exact hg)) }
theorem laid4_bd {M : Nat → Int} (hb : ∀ i, 0 ≤ M i ∧ M i ≤ 255) (i : Nat) (y : Int) : ∀ j, 0 ≤ laid4 M i y j ∧ laid4 M i y j ≤ 255 := fun j => by
  unfold laid4
  split
  · exact wbyte_bd _ _
  · exact hb j
theorem put4_touch (w : World) (g i : Nat) (y : Int) : Touch w (put4 w g i y) [g] :=
  (((Touch.set w ⟨g, i, none⟩ _).trans (Touch.set _ ⟨g, i + 1, none⟩ _) (fun k h _ => h)).trans (Touch.set _ ⟨g, i + 2, none⟩ _) (fun k h _ => h)).trans (Touch.set _ ⟨g, i + 3, none⟩ _) (fun k h _ => h)
theorem BusAt.poke (B : BusAt w base v x) (a : Nat) (y : Int) (hy : 0 ≤ y) (hy' : y < 4294967296) : BusAt (put4 w v.m a y) base v { x with M := laid4 x.M a y } :=
  B.setM (put4_touch _ _ _ _) (put4_own B.mem a y hy hy') (laid4_bd B.mb a y)
theorem mem_m (v : BV) : v.m ∈ brow v := by simp [brow]
theorem bpoke_yes (B : BusAt w base v x) (a y : Int) (h0 : 0 ≤ a) (h1 : a < 1048576) (h4 : a % 4 = 0) (hy : 0 ≤ y) (hy' : y < 4294967296) :
    Calls Try.prog 13 #[.pointer (some ⟨v.b, 0, none⟩), .int .u32 a, .int .u32 y] w fun e w' => e = .returned (.bool true) ∧ BusAt w' base v { x with M := laid4 x.M a.toNat y } ∧ Moves w w' v v := by
  obtain ⟨c0, -⟩ := B.cells
  have hg := put_any v.m 0 1048576 1048576 1048576 5 x.M a y w (by decide) hy hy' B.mem (by decide)
  rw [show getOk 1048576 a = true from getOk_yes h0 (by omega), show putW w v.m 0 1048576 a y = put4 w v.m a.toNat y from by unfold putW; rw [getOk_yes h0 (by omega), if_pos rfl, Nat.zero_add]] at hg
  have HG := Lib.hid hg
  clear hg
  go_enter Try.func13, Try.ntmps13
  go_wp2_with (go_at_call 27; refine HG.out.mono ?_; rintro e w' ⟨rfl, rfl⟩)
  go_ret
  exact ⟨rfl, B.poke _ _ hy hy', (put4_touch _ _ _ _).mono (by simp [mem_m]), fun g h => .inl h, ⟨rfl, rfl, rfl, rfl⟩⟩
theorem bpoke_no (B : BusAt w base v x) (a y : Int) (h0 : 0 ≤ a) (h1 : a < 4294967296) (h4 : ¬ (a < 1048576 ∧ a % 4 = 0)) :
    Calls Try.prog 13 #[.pointer (some ⟨v.b, 0, none⟩), .int .u32 a, .int .u32 y] w fun e w' => e = .returned (.bool false) ∧ w = w' := by
  obtain ⟨c0, -⟩ := B.cells
  by_cases hm : a % 4 = 0
  · have hh : ¬ a < 1048576 := fun h => h4 ⟨h, hm⟩
    clear h4
    go_enter Try.func13, Try.ntmps13
    go_wp2_with fail
    go_ret
    exact ⟨rfl, rfl⟩
  · clear h4
    go_enter Try.func13, Try.ntmps13
    go_wp2_with fail
    go_ret
    exact ⟨rfl, rfl⟩
theorem BusAt.setRow (B : BusAt w base v x) {w' : World} {x' : BS} (t : Touch w w' [v.b]) (h : Blk w' v.b (busRow v x') 74) (hx : x' = { x with tk := x'.tk, se := x'.se, ad := x'.ad, fl := x'.fl })
    (h1 : 0 ≤ x'.tk ∧ x'.tk < 4294967296) (h2 : 0 ≤ x'.se ∧ x'.se < 4294967296) (h3 : 0 ≤ x'.ad ∧ x'.ad < 4294967296) (h4 : 0 ≤ x'.fl ∧ x'.fl < 4294967296) : BusAt w' base v x' := by
  have nd := B.nd
  simp only [brow, List.nodup_cons, List.mem_cons, List.mem_append, not_or, Option.mem_toList] at nd
  obtain ⟨⟨n1, n2, n3, n4, n5, n6⟩, ⟨n7, n8, n9, n10, n11⟩, -⟩ := nd
  have e : ∀ g, g ≠ v.b → g < w.heap.size → w'.heap[g]? = w.heap[g]? := fun g hg hl => t.block g hl (by simpa using hg)
  have B' : BusAt w' base v { x' with tk := x'.tk } := by
    rw [hx] at h ⊢
    exact { B with
      row := h
      tkb := h1
      seb := h2
      adb := h3
      flb := h4
      mem := by obtain ⟨cs, k1, k2⟩ := B.mem; exact ⟨cs, (e v.m (fun h => n1 h.symm) (Array.getElem?_eq_some_iff.1 k1).1).trans k1, k2⟩
      inn := B.inn.touch t (fun g hg hm => n4 (by simp at hm; rw [← hm]; exact hg))
      out := t.owns B.out (fun g hg hm => n5 (by simp at hm; rw [← hm]; exact hg))
      disk := B.disk.touch t (by simp; exact fun e => n2 e.symm) (by simp; exact fun e => n3 e.symm) (fun g hg hm => n6 (by simp at hm; rw [← hm]; exact hg)) }
  exact B'
theorem mem_b (v : BV) : v.b ∈ brow v := by simp [brow]
theorem btick_any (B : BusAt w base v x) (n : Int) (h0 : 0 ≤ n) (h1 : n < 4294967296) :
    Calls Try.prog 31 #[.pointer (some ⟨v.b, 0, none⟩), .int .u32 n] w fun e w' => e = .returned (.tuple #[]) ∧ BusAt w' base v { x with tk := (x.tk + n) % 4294967296 } ∧ Moves w w' v v := by
  obtain ⟨-, -, -, -, c4, -⟩ := B.cells
  have f4 := B.row.frozen 4
  go_enter Try.func31, Try.ntmps31
  go_wp2_with fail
  go_end0
  refine ⟨rfl, B.setRow (Touch.set _ ⟨v.b, 4, none⟩ _) (B.row.set 4 _) rfl ⟨by simp only; omega, by simp only; omega⟩ B.seb B.adb B.flb, (Touch.set _ ⟨v.b, 4, none⟩ _).mono (by simp [mem_b]), fun g h => .inl h, ⟨rfl, rfl, rfl, rfl⟩⟩
theorem bdisk_any (B : BusAt w base v x) :
    Calls Try.prog 25 #[.pointer (some ⟨v.b, 0, none⟩)] w fun e w' => e = .returned (.pointer (some ⟨v.d, 0, none⟩)) ∧ w = w' := by
  obtain ⟨-, c1, -⟩ := B.cells
  go_enter Try.func25, Try.ntmps25
  go_wp2_with fail
  go_ret
  exact ⟨rfl, rfl⟩
end
end Go.Proofs.Ytmamocdkmmkkjaa
