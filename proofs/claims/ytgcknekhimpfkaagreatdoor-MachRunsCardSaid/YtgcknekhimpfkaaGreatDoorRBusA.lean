/- The document's bus: a new one. -/
import Derived.Test.YtgcknekhimpfkaaGreatDoorBusK
import Derived.Test.YtgcknekhimpfkaaGreatDoorQR
namespace Go.Proofs.YtgcknekhimpfkaaGreatDoor
open Go Go.RowKit Go.Lib Go.Proofs.YtgcknekhimpfkaaGreatDoor.Pl
set_option linter.unusedVariables false
set_option linter.unusedSimpArgs false
theorem u32_info : ∃ i : TypeInfo, Tryz.prog.info? 23 = some i ∧ i.zero = some (.int .u32 0) ∧ i.size = 1 ∧ i.bytes = 4 := by
 have h : (Tryz.prog.info? 23).map (fun i => (i.zero, i.size, i.bytes)) = some (some (.int .u32 0), 1, 4) := by kernel_rfl
 obtain ⟨i, hi, hz⟩ := Option.map_eq_some_iff.1 h
 simp only [Prod.mk.injEq] at hz
 exact ⟨i, hi, hz.1, hz.2.1, hz.2.2⟩
theorem u32_one : (Tryz.prog.info? 23).map (·.size) = some 1 := by kernel_rfl
theorem made_u32 (n i : Nat) (hi : i < n) : (madeCells #[Value.int .u32 0] n)[i]? = some (.int .u32 0) := by
 have h := toList_madeCells_one (Value.int .u32 0) n
 rw [← Array.getElem?_toList, h, List.getElem?_replicate, if_pos hi]
def icells (f : Nat → Int) (n : Nat) : List Value := (List.range n).map fun i => Value.int .u32 (f i)
theorem icells_length (f : Nat → Int) (n : Nat) : (icells f n).length = n := by simp [icells]
theorem icells_get (f : Nat → Int) (n i : Nat) (h : i < n) : (icells f n)[i]? = some (.int .u32 (f i)) := by
 unfold icells
 rw [List.getElem?_map, List.getElem?_range h]
 rfl
theorem icells_one (f : Nat → Int) (n : Nat) : ∀ u ∈ icells f n, u.oneCell' = true := fun u hu => by
 obtain ⟨b, _, rfl⟩ := List.mem_map.1 hu
 rfl
def rbRow (mm r : Nat) (s : ByteArray) (vo : Value) (tk se ad cm : Int) : Array Value := #[.slice (some ⟨mm, 0, none⟩) 262144 262144, .pointer (some ⟨r, 0, none⟩), .string s, vo, .int .u32 tk, .int .u32 se, .int .u32 ad, .int .u32 cm]
theorem rmem_made {w1 : World} {g k0 : Nat} {t : TypeId} (h : OwnI .u32 w1 g k0 t (fun _ => 0)) (f : Nat → Int) (n : Nat) (hn : n ≤ k0) : OwnI .u32 (w1.setCells g 0 (icells f n)) g k0 t (fun i => if i < n then f i else 0) := by
 obtain ⟨cs, h1, h2, h3⟩ := h
 obtain ⟨X, k1, k2, k3⟩ : ∃ X, (w1.setCells g 0 (icells f n)).heap[g]? = some (.cells X t (0, 0)) ∧ X.size = cs.size ∧ ∀ j, X[j]? = if j < n then (icells f n)[j]? else cs[j]? := by
  have key : ∀ (vs : List Value) (o : Nat) (w : World) (X : Array Value), w.heap[g]? = some (.cells X t (0, 0)) → o + vs.length ≤ X.size →
   ∃ X', (w.setCells g o vs).heap[g]? = some (.cells X' t (0, 0)) ∧ X'.size = X.size ∧ ∀ j, X'[j]? = if o ≤ j ∧ j < o + vs.length then vs[j - o]? else X[j]? := by
   intro vs
   induction vs with
   | nil => exact fun o w X h _ => ⟨X, h, rfl, fun j => by rw [if_neg (by simp only [List.length_nil]; omega)]⟩
   | cons v vs ih =>
    intro o w X h hl
    simp only [List.length_cons] at hl
    obtain ⟨X', h1, h2, h3⟩ := ih (o + 1) (w.setCell ⟨g, o, none⟩ v) (X.setIfInBounds o v) (heap_setCell_same w g o X t v h) (by simp; omega)
    refine ⟨X', h1, by rw [h2]; simp, fun j => ?_⟩
    rw [h3 j]
    by_cases hj : o + 1 ≤ j ∧ j < o + 1 + vs.length
    ·rw [if_pos hj, if_pos (by simp; omega), show j - o = (j - (o + 1)) + 1 from by omega, List.getElem?_cons_succ]
    ·rw [if_neg hj]
     by_cases hj2 : j = o
     ·subst hj2
      rw [if_pos (by simp), Nat.sub_self, List.getElem?_cons_zero, Array.getElem?_setIfInBounds_self_of_lt (by omega)]
     ·rw [if_neg (by simp; omega), Array.getElem?_setIfInBounds_ne (by omega)]
  obtain ⟨X', h4, h5, h6⟩ := key (icells f n) 0 w1 cs h1 (by rw [icells_length]; omega)
  refine ⟨X', h4, h5, fun j => ?_⟩
  rw [h6 j, icells_length]
  by_cases hj : j < n
  ·rw [if_pos (by omega), if_pos hj, Nat.sub_zero]
  ·rw [if_neg (by omega), if_neg hj]
 refine ⟨X, k1, by omega, fun i hi => ?_⟩
 rw [k3 i]
 by_cases hj : i < n
 ·rw [if_pos hj, icells_get f n i hj]; simp [hj]
 ·rw [if_neg hj, h3 i hi]; simp [hj]
set_option maxRecDepth 20000 in
set_option maxHeartbeats 1000000 in
theorem rbnew_yes (A : Option Addr) (n c : Nat) (f : Nat → Int) (w : World) (r : Nat) (hn : n ≤ 262144) (hr : RdI .u32 w A n f) :
 Calls Tryz.prog 41 #[.slice A n c, .pointer (some ⟨r, 0, none⟩)] w fun e w' => ∃ b mm, e = .returned (.tuple #[.pointer (some ⟨b, 0, none⟩), .int .i64 0]) ∧ Blk w' b (rbRow mm r ByteArray.empty (.slice none 0 0) 0 0 0 0) 71 ∧ OwnI .u32 w' mm 262144 23 (fun i => if i < n then f i else 0) ∧ Below w.heap.size w w' ∧ w.heap.size ≤ mm ∧ mm < b := by
 obtain ⟨i0, hi, hz0, hz1, hz2⟩ := u32_info
 obtain ⟨k0, hk⟩ : ∃ k : Nat, (k : Int) = 262144 := ⟨262144, rfl⟩
 have HK := hid hk
 clear hk
 have HR := hid hr
 have HN := hid hn
 have hn2 : decide ((262144 : Int) < n) = false := decide_eq_false (by omega)
 clear hr hn
 go_enter Tryz.func41, Tryz.ntmps41
 go_upto_region 5 with fail
 go_wp2_with (at_make; refine wpList_make_full _ rfl _ _ 22 rfl w.heap.size 23 i0 _ 1 Tryz.underlying22 hi hz0 hz1 .i64 .i64 262144 262144 k0 rfl rfl ?m1 ?m2 ?m3 ?m4 (Nat.le_refl _) ?_)
 case m1 => have := HK.out; omega
 case m2 => have := HK.out; omega
 case m3 => have := HK.out; rw [hz2]; omega
 case m4 => have := HK.out; unfold maxLen; omega
 intro w1 hown hgrow
 have hblk := made_own hown
 have hO : OwnI .u32 w1 w.heap.size k0 23 (fun _ => 0) := ⟨_, hblk, by rw [Array.toArray_toList, size_madeCells], fun i hi => by rw [Array.toArray_toList]; have h9 := made_u32 k0 i hi; exact h9⟩
 have hb1 : Below w.heap.size w w1 := (Below.refl w.heap.size w).grown hgrow (Nat.le_refl _) (fun _ h => by cases h)
 have hlt : w.heap.size < w1.heap.size := hO.lt
 obtain rfl : k0 = 262144 := by have := HK.out; omega
 clear hown hgrow hblk HK hi hz0 hz1 hz2
 have HO := hid hO
 have HB := hid hb1
 clear hO hb1
 by_cases hn0 : 0 < n
 ·obtain ⟨b, off, rfl, hlb, hc⟩ := HR.out hn0
  have hadd : ∀ j, (⟨b, off, none⟩ : Addr).add j = ⟨b, off + j, none⟩ := fun j => by unfold Addr.add; split <;> simp_all
  have hsrc : ∀ j u, (icells f n)[j]? = some u → w1.cell? ((⟨b, off, none⟩ : Addr).add j) = some u := fun j u hj => by
   have hl : j < n := by have := (List.getElem?_eq_some_iff.1 hj).1; rwa [icells_length] at this
   rw [hadd, ← hj, icells_get f n j hl]
   exact (HB.out.cell (p := ⟨b, off + j, none⟩) hlb).trans (hc j hl)
  have hmin : (icells f n).length = Nat.min n 262144 := by rw [icells_length]; exact (Nat.min_eq_left HN.out).symm
  have hth : w1.there w.heap.size 0 (icells f n).length := fun j hj => by
   rw [icells_length] at hj
   have hj2 : 0 + j < 262144 := by have := HN.out; omega
   rw [HO.out.cell hj2]
   exact ⟨rfl, HO.out.frozen _⟩
  have hcp := run_copy_cells (P := Tryz.prog) w1 22 22 3 23 w.heap.size 0 262144 262144 ⟨b, off, none⟩ n c (icells f n) Tryz.underlying22 u32_one hmin hsrc (fun j hj => (hth j hj).1) (fun j hj => (hth j hj).2) (icells_one f n)
  have HO2 := hid (rmem_made HO.out f n HN.out)
  have HB2 := hid (HB.out.trans ((Touch.setCells w.heap.size (icells f n) 0 w1).below HB.out.size (fun g hg => by rw [show g = w.heap.size from by simpa using hg]; exact Nat.le_refl _)))
  generalize w1.setCells w.heap.size 0 (icells f n) = w2 at HO2 HB2 hcp
  generalize goInt (icells f n).length = vl at hcp
  clear hsrc hmin hth hadd hc
  go_wp2_with fail
  go_ret2
  have hl2 := HO2.out.lt
  have hal : Below w2.heap.size w2 (w2.alloc (.cells (rbRow w.heap.size r ByteArray.empty (.slice none 0 0) 0 0 0 0) 71)) := (Below.refl _ _).alloc (Nat.le_refl _) _
  exact ⟨w2.heap.size, w.heap.size, rfl, Blk.new w2 _ _, HO2.out.below hal hl2, HB2.out.trans (hal.mono HB2.out.size), Nat.le_refl _, hl2⟩
 ·obtain rfl : n = 0 := by omega
  have hO2 : OwnI .u32 w1 w.heap.size 262144 23 (fun i => if i < 0 then f i else 0) := HO.out.congr fun i _ => by simp
  have HO2 := hid hO2
  have hcp := run_copy_none (P := Tryz.prog) w1 22 22 3 23 (some ⟨w.heap.size, 0, none⟩) A 262144 262144 0 c Tryz.underlying22 u32_one (Nat.zero_min _)
  clear hO2 HO
  go_wp2_with fail
  go_ret2
  have hl2 := HO2.out.lt
  have hal : Below w1.heap.size w1 (w1.alloc (.cells (rbRow w.heap.size r ByteArray.empty (.slice none 0 0) 0 0 0 0) 71)) := (Below.refl _ _).alloc (Nat.le_refl _) _
  exact ⟨w1.heap.size, w.heap.size, rfl, Blk.new w1 _ _, HO2.out.below hal hl2, HB.out.trans (hal.mono HB.out.size), Nat.le_refl _, hl2⟩
end Go.Proofs.YtgcknekhimpfkaaGreatDoor
