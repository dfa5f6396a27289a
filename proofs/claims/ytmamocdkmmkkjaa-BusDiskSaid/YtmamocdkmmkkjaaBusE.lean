/- put, Out; the closures; the device at an address. -/
import Derived.Test.YtmamocdkmmkkjaaBusD
import Derived.Laws.EntriesVeiled
import Derived.Laws.BytesArg
import Derived.Lib.ConvBytes
namespace Go.Proofs.Ytmamocdkmmkkjaa
open Go Go.RowKit Go.Lib Go.Proofs.Ytmamocdkmmkkjaa.Pl
set_option linter.unusedVariables false
theorem strOf_self (s : ByteArray) : strOfNums (s.data.toList.map fun b => (b.toNat : Int)) = s := by
  unfold strOfNums
  cases s with
  | mk d =>
    congr 1
    apply Array.toList_inj.1
    simp only [List.map_map]
    rw [show ((fun x : Int => UInt8.ofNat x.toNat) ∘ fun b : UInt8 => (b.toNat : Int)) = id from by funext b; simp]
    simp
theorem bconv_range (w : World) (b o n cap : Nat) (s : ByteArray) (hs : s.size = n) (h : w.rangeAt b o (strCells s)) :
    (convert 44 9 (.slice (some ⟨b, o, none⟩) n cap)).run Try.prog w = .ok (.string s) w := by
  have := run_convert_bytes_arg (P := Try.prog) w 44 5 Try.underlying44 Try.underlying5 b o n cap (s.data.toList.map fun b => (b.toNat : Int)) (by simpa using hs) (fun i hi => by
    refine h i _ ?_
    have hi2 : i < s.data.size := by have : s.data.size = s.size := rfl; omega
    simp [strCells, List.getD, Array.getElem?_eq_getElem hi2]) 9 Try.underlying9
  rw [strOf_self] at this
  exact this
theorem bconv_zero (w : World) (p : Option Addr) (c : Nat) : (convert 44 9 (.slice p 0 c)).run Try.prog w = .ok (.string (ofBs [])) w := by
  rw [run_convert_bytes_string w 44 9 5 _ 0 c Try.underlying44 Try.underlying5 Try.underlying9]
  cases p <;> simp [Conv.bytesToString, loadCells]
  all_goals rfl
section
variable {w : World} {base : Nat} {v : BV} {x : BS}
theorem BusAt.oform (B : BusAt w base v x) : ∃ a c, v.vo = .slice a x.o.length c := by
  rcases B.out.2 with ⟨h1, h2⟩ | ⟨g, cap, cur, h1, _⟩
  · exact ⟨none, 0, by rw [h1, h2]⟩
  · exact ⟨_, _, h1⟩
theorem bput_full (B : BusAt w base v x) (y : Int) (h : ¬ x.o.length < 65536) :
    Calls Try.prog 44 #[.pointer (some ⟨v.b, 0, none⟩), .int .u32 y] w fun e w' => e = .returned (.tuple #[]) ∧ w = w' := by
  obtain ⟨-, -, -, c3, -⟩ := B.cells
  obtain ⟨a, c, hv⟩ := B.oform
  have hl := B.ol
  have he : x.o.length = 65536 := by omega
  rw [hv, he] at c3
  go_enter Try.func44, Try.ntmps44
  go_wp2_with fail
  go_end0
  exact ⟨rfl, rfl⟩
theorem bput_yes (B : BusAt w base v x) (y : Int) (h0 : 0 ≤ y) (h1 : y < 4294967296) (h : x.o.length < 65536) :
    Calls Try.prog 44 #[.pointer (some ⟨v.b, 0, none⟩), .int .u32 y] w fun e w' => e = .returned (.tuple #[]) ∧ ∃ v', BusAt w' base v' { x with o := x.o ++ [u8Of y] } ∧ Moves w w' v v' := by
  obtain ⟨-, -, -, c3, -⟩ := B.cells
  have f3 := B.row.frozen 3
  obtain ⟨a, c, hv⟩ := B.oform
  obtain ⟨i0, hi, hz0, hz1, hz2⟩ := u8_info
  have hbl : (⟨v.b, 3, none⟩ : Addr).block ∉ v.vo.ownBlock.toList := fun hm => (B.ap.ob v.b (by simpa using hm)).1 rfl
  have HBL := Lib.hid hbl
  have HB := Lib.hid B
  have HV := Lib.hid hv
  have hbb := B.base_le
  rw [hv] at c3
  clear hbl hv
  have h2 : (x.o.length : Int) < 65536 := by omega
  have hs : (⟨v.b, 3, none⟩ : Addr).block < w.heap.size := B.row.lt
  have c3a : ∀ o, (w.alloc o).cell? ⟨v.b, 3, none⟩ = some (.slice a x.o.length c) := fun o => by rw [World.cell?_alloc_lt _ _ _ hs]; exact c3
  go_enter Try.func44, Try.ntmps44
  go_wp2_with (at_builtin; refine wpList_append_lies _ rfl _ _ 44 rfl base 5 i0 (.int .u8 0) 1 1 Try.underlying44 hi hz0 hz1 hz2 rfl (by decide) v.vo x.o.length (bcells x.o) (by rw [HV.out]; rfl) (HB.out.out.alloc _) ⟨w.heap.size, 0, none⟩ 1 1 [.int .u8 (y % 256)] rfl rfl (World.news_of_block (heap_alloc_new _ _)) ?c2 (by decide) ?c3 ?c4 ?c5 (w.heap.size + 1) (by simp) ?_)
  case c2 => simp [Value.oneCell']
  case c3 => unfold maxLen; omega
  case c4 => omega
  case c5 => first | omega | (simp; omega)
  intro g cap w1 hown1 hgrow hat1 hlt1
  have T1 := touch_app (w := w) hgrow (by go_grown)
  have c1' := T1.cell c3 HBL.out
  have f1' := (T1.frozen c3 HBL.out).trans f3
  have HO := Lib.hid hown1
  have HT := Lib.hid T1
  clear hown1 hgrow T1
  go_wp2_with fail
  go_end0
  have hbc : bcells (x.o ++ [u8Of y]) = bcells x.o ++ [.int .u8 (y % 256)] := by
    rw [bcells_append, show bcells [u8Of y] = [Value.int .u8 ((u8Of y).toNat : Int)] from rfl, u8Of_toNat]
  have hl : (x.o ++ [u8Of y]).length = x.o.length + 1 := by simp
  have k := B.newOut (u := .slice (some ⟨g, 0, none⟩) (x.o.length + 1) cap) (q := x.o ++ [u8Of y]) HT.out (by rw [hbc, hl]; exact HO.out) (by rw [hl]; omega) (fun g' hg' => by
    obtain rfl : g = g' := by simpa [Value.ownBlock] using hg'
    exact hat1.imp id (fun h => by omega))
  exact ⟨rfl, _, k⟩
theorem bout_any (B : BusAt w base v x) :
    Calls Try.prog 19 #[.pointer (some ⟨v.b, 0, none⟩)] w fun e w' => e = .returned (.string (ofBs x.o)) ∧ w = w' := by
  obtain ⟨-, -, -, c3, -⟩ := B.cells
  obtain ⟨a, c, hv⟩ := B.oform
  have hcv : (convert 44 9 (.slice a x.o.length c)).run Try.prog w = .ok (.string (ofBs x.o)) w := by
    rcases B.out.2 with ⟨h1, h2⟩ | ⟨g, cap, cur, h1, h2, h3, h4, h5, h6, h7⟩
    · rw [hv] at h1
      simp only [Value.slice.injEq] at h1
      obtain ⟨rfl, -, rfl⟩ := h1
      have : x.o = [] := List.eq_nil_of_length_eq_zero h2
      rw [this]
      exact bconv_zero w none 0
    · rw [hv] at h1
      simp only [Value.slice.injEq] at h1
      obtain ⟨rfl, -, rfl⟩ := h1
      refine bconv_range w g 0 x.o.length c (ofBs x.o) (ofBs_size _) (fun j u hj => ?_)
      rw [Nat.zero_add, cell_of_row w g j cur _ (0, 0) h3]
      rw [ofBs_cells, ← h7, Nat.mul_one, List.getElem?_take] at hj
      split at hj
      · rw [← hj, Array.getElem?_toList]
      · cases hj
  rw [hv] at c3
  go_enter Try.func19, Try.ntmps19
  go_wp2_with fail
  go_ret
  exact ⟨rfl, rfl⟩
/-! The closures. -/
theorem bfine_any (y : Int) (h0 : 0 ≤ y) (h1 : y < 4294967296) :
    Calls Try.prog 42 #[.int .u32 y] w fun e w' => e = .returned (.func (.func 56) #[] #[.pointer (some ⟨w.heap.size, 0, none⟩)]) ∧ w' = w.alloc (.cells #[.int .u32 y] 22) := by
  have hmf : ∀ (fn : Fn) (first cap : Array Value) (w : World), (Instr.makeFunc fn first cap).run Try.prog w = .ok (.func fn first cap) w := fun _ _ _ _ => rfl
  go_enter Try.func42, Try.ntmps42
  go_wp2_with fail
  go_ret
  exact ⟨rfl, rfl⟩
theorem bfine1_any (g : Nat) (y : Int) (hc : w.cell? ⟨g, 0, none⟩ = some (.int .u32 y)) :
    Calls Try.prog 56 #[.pointer (some ⟨g, 0, none⟩)] w fun e w' => e = .returned (.tuple #[.int .u32 y, .int .i64 0]) ∧ w = w' := by
  go_enter Try.func56, Try.ntmps56
  go_wp2_with fail
  go_ret2
  exact ⟨rfl, rfl⟩
theorem bdev1_any (B : BusAt w base v x) (g : Nat) (y : Int) (h0 : 0 ≤ y) (h1 : y < 4294967296) (hc : w.cell? ⟨g, 0, none⟩ = some (.pointer (some ⟨v.b, 0, none⟩))) :
    Calls Try.prog 45 #[.int .u32 y, .pointer (some ⟨g, 0, none⟩)] w fun e w' => e = .returned (.tuple #[]) ∧ BusAt w' base v { x with se := y } ∧ Moves w w' v v := by
  obtain ⟨-, -, -, -, -, c5, -⟩ := B.cells
  have f5 := B.row.frozen 5
  go_enter Try.func45, Try.ntmps45
  go_wp2_with fail
  go_end0
  exact ⟨rfl, B.setRow (Touch.set _ ⟨v.b, 5, none⟩ _) (B.row.set 5 _) rfl B.tkb ⟨h0, h1⟩ B.adb B.flb, (Touch.set _ ⟨v.b, 5, none⟩ _).mono (by simp [mem_b]), fun g h => .inl h, ⟨rfl, rfl, rfl, rfl⟩⟩
theorem bdev2_any (B : BusAt w base v x) (g : Nat) (y : Int) (h0 : 0 ≤ y) (h1 : y < 4294967296) (hc : w.cell? ⟨g, 0, none⟩ = some (.pointer (some ⟨v.b, 0, none⟩))) :
    Calls Try.prog 46 #[.int .u32 y, .pointer (some ⟨g, 0, none⟩)] w fun e w' => e = .returned (.tuple #[]) ∧ BusAt w' base v { x with ad := y } ∧ Moves w w' v v := by
  obtain ⟨-, -, -, -, -, -, c6, -⟩ := B.cells
  have f6 := B.row.frozen 6
  go_enter Try.func46, Try.ntmps46
  go_wp2_with fail
  go_end0
  exact ⟨rfl, B.setRow (Touch.set _ ⟨v.b, 6, none⟩ _) (B.row.set 6 _) rfl B.tkb B.seb ⟨h0, h1⟩ B.flb, (Touch.set _ ⟨v.b, 6, none⟩ _).mono (by simp [mem_b]), fun g h => .inl h, ⟨rfl, rfl, rfl, rfl⟩⟩
end
end Go.Proofs.Ytmamocdkmmkkjaa
