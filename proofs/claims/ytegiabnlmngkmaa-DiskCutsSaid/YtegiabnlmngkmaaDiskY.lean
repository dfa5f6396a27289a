/- Cut, walked. -/
import Derived.Test.YtegiabnlmngkmaaDiskX
import Derived.Deep.Cut
import Derived.WalkSpells
import Derived.Deep.RegionLaw
import Derived.Deep.DrawnRows
import Derived.BigRegion
namespace Go.Proofs.Ytegiabnlmngkmaa
open Go Go.RowKit Go.Lib
set_option linter.unusedVariables false
set_option linter.unusedSimpArgs false
attribute [local go_sem ↓] exec_load_sector exec_store_sector exec_alloc_sector exec_load_write exec_store_write exec_alloc_write
attribute [local go_sem ↓] Go.wp_at_zero Go.wp_at_succ
/-- The sectors as they were behind the first k writes. -/
def back (sec : Nat → ByteArray) (ws : List (Nat × ByteArray)) (k : Nat) : Nat → ByteArray := secOf sec (ws.drop k).reverse
theorem back_all (sec : Nat → ByteArray) (ws : List (Nat × ByteArray)) : back sec ws ws.length = sec := by unfold back; rw [List.drop_length]; rfl
theorem back_step (sec : Nat → ByteArray) (ws : List (Nat × ByteArray)) (k : Nat) (p : Nat × ByteArray) (hp : ws[k]? = some p) : back sec ws k = upd (back sec ws (k + 1)) p.1 p.2 := by
  unfold back
  have hk : k < ws.length := (List.getElem?_eq_some_iff.1 hp).1
  have : ws.drop k = p :: ws.drop (k + 1) := by
    rw [List.drop_eq_getElem_cons hk]; congr 1; exact (List.getElem?_eq_some_iff.1 hp).2
  rw [this, List.reverse_cons, secOf_snoc]
theorem back_olds_snoc (sec0 : Nat → ByteArray) (h : List (Nat × ByteArray)) (p : Nat × ByteArray) (ih : ∀ k, k ≤ h.length → back (secOf sec0 h) (olds sec0 h) k = secOf sec0 (h.take k)) (k : Nat) (hk : k ≤ (h ++ [p]).length) : back (secOf sec0 (h ++ [p])) (olds sec0 (h ++ [p])) k = secOf sec0 ((h ++ [p]).take k) := by
  by_cases hkl : k = (h ++ [p]).length
  · rw [hkl, List.take_length]
    have := back_all (secOf sec0 (h ++ [p])) (olds sec0 (h ++ [p]))
    rw [olds_length] at this
    exact this
  · have hk2 : k ≤ h.length := by simp at hk hkl; omega
    rw [List.take_append_of_le_length hk2, ← ih k hk2]
    unfold back
    rw [olds_snoc, List.drop_append_of_le_length (by rw [olds_length]; exact hk2), List.reverse_append, secOf_snoc]
    have e : upd (upd (secOf sec0 h) p.1 p.2) p.1 (secOf sec0 h p.1) = secOf sec0 h := by
      funext i
      unfold upd
      by_cases hi : i = p.1
      · rw [if_pos hi, hi]
      · rw [if_neg hi, if_neg hi]
    show secOf (upd (upd (secOf sec0 h) p.1 p.2) p.1 (secOf sec0 h p.1)) (List.drop k (olds sec0 h)).reverse = _
    rw [e]
theorem back_olds (sec0 : Nat → ByteArray) : ∀ (n : Nat) (h : List (Nat × ByteArray)), h.length = n → ∀ k, k ≤ h.length → back (secOf sec0 h) (olds sec0 h) k = secOf sec0 (h.take k)
  | 0, h, hn, k, hk => by
    obtain rfl : h = [] := List.length_eq_zero_iff.1 hn
    obtain rfl : k = 0 := by simpa using hk
    rfl
  | n + 1, h, hn, k, hk => by
    rcases List.eq_nil_or_concat h with rfl | ⟨l, p, rfl⟩
    · simp at hn
    · rw [List.concat_eq_append] at hn hk ⊢
      exact back_olds_snoc sec0 l p (back_olds sec0 n l (by simp at hn; omega)) k hk
/-- All cells of the sectors. -/
def allCells (sec : Nat → ByteArray) (N : Nat) : List Value := (List.range N).flatMap fun i => strCells (sec i)
theorem allCells_length (sec : Nat → ByteArray) (N : Nat) (h : ∀ i, i < N → (sec i).size = 1024) : (allCells sec N).length = N * 1024 := by
  induction N with
  | zero => rfl
  | succ N ih =>
    unfold allCells at ih ⊢
    rw [List.range_succ, List.flatMap_append, List.length_append, ih (fun i hi => h i (by omega))]
    simp [strCells_length, h N (by omega)]; omega
theorem allCells_get (sec : Nat → ByteArray) (N : Nat) (h : ∀ i, i < N → (sec i).size = 1024) (i j : Nat) (hi : i < N) (u : Value) (hj : (strCells (sec i))[j]? = some u) : (allCells sec N)[i * 1024 + j]? = some u := by
  induction N with
  | zero => omega
  | succ N ih =>
    have hl := allCells_length sec N (fun i hi => h i (by omega))
    have hj2 : j < 1024 := by have := (List.getElem?_eq_some_iff.1 hj).1; rw [strCells_length, h i hi] at this; exact this
    unfold allCells at hl ih ⊢
    rw [List.range_succ, List.flatMap_append]
    by_cases hiN : i < N
    · rw [List.getElem?_append_left (by rw [hl]; omega)]
      exact ih (fun i hi => h i (by omega)) hiN
    · obtain rfl : i = N := by omega
      rw [List.getElem?_append_right (by rw [hl]; omega), hl]
      simpa using hj
theorem allCells_one (sec : Nat → ByteArray) (N : Nat) : ∀ u ∈ allCells sec N, u.oneCell' = true := fun u hu => by
  unfold allCells at hu
  obtain ⟨i, _, h⟩ := List.mem_flatMap.1 hu
  exact strCells_oneCell _ u h
theorem allCells_inv (sec : Nat → ByteArray) (N : Nat) (h : ∀ i, i < N → (sec i).size = 1024) (x : Nat) (u : Value) (hu : (allCells sec N)[x]? = some u) : ∃ i j, i < N ∧ x = i * 1024 + j ∧ (strCells (sec i))[j]? = some u := by
  have hl := allCells_length sec N h
  have hx : x < N * 1024 := by have := (List.getElem?_eq_some_iff.1 hu).1; omega
  refine ⟨x / 1024, x % 1024, by omega, by omega, ?_⟩
  have hs : x / 1024 < N := by omega
  have hlen : (strCells (sec (x / 1024))).length = 1024 := by rw [strCells_length, h _ hs]
  have hj : x % 1024 < (strCells (sec (x / 1024))).length := by omega
  have := allCells_get sec N h (x / 1024) (x % 1024) hs _ (List.getElem?_eq_getElem hj)
  rw [show x / 1024 * 1024 + x % 1024 = x from by omega, hu] at this
  rw [this]; exact List.getElem?_eq_getElem hj
section
variable {w : World} {base d s : Nat} {v : Value} {N : Nat} {sec : Nat → ByteArray} {ws : List (Nat × ByteArray)}
theorem cut_no (D : DiskAt w base d s v N sec ws) (k : Int) (hk : k < 0 ∨ (ws.length : Int) < k) (h0 : k ≤ 9223372036854775807) :
    Calls Try.prog 23 #[.pointer (some ⟨d, 0, none⟩), .int .i64 k] w fun e w' => e = .returned (.tuple #[.pointer none, .int .i64 2]) ∧ w = w' := by
  have c1 := D.c1
  obtain ⟨q, c, rfl, _⟩ := D.vform
  rcases hk with hk | hk
  · go_enter Try.func23, Try.ntmps23
    go_wp2_with fail
    go_ret2
    exact ⟨rfl, rfl⟩
  · go_enter Try.func23, Try.ntmps23
    go_wp2_with fail
    all_goals
      go_ret2
      exact ⟨rfl, rfl⟩
theorem info_sector_parts : ∃ (i : TypeInfo) (z : Value), Try.prog.info? 63 = some i ∧ i.zero = some z ∧ i.size = 1024 ∧ i.bytes = 1024 ∧ z.cells.size = 1024 := by
  obtain ⟨i0, hi, hz0, hz1, hz2⟩ := info_parts info_sector
  exact ⟨i0, _, hi, hz0, hz1, hz2, Array.size_replicate⟩
set_option maxHeartbeats 2000000 in
theorem cut_yes (D : DiskAt w base d s v N sec ws) (k : Nat) (hk : k ≤ ws.length) :
    Calls Try.prog 23 #[.pointer (some ⟨d, 0, none⟩), .int .i64 (k : Int)] w fun e w' => ∃ c sc, e = .returned (.tuple #[.pointer (some ⟨c, 0, none⟩), .int .i64 0]) ∧ DiskAt w' w.heap.size c sc (.slice none 0 0) N (back sec ws k) [] ∧ Below w.heap.size w w' := by
  obtain ⟨i0, z0, hi, hz0, hz1, hz2, hz3⟩ := info_sector_parts
  obtain ⟨Zw, hZw, hzw⟩ := alloc_write
  obtain ⟨capS, c0⟩ := D.c0
  have c1 := D.c1
  obtain ⟨q, c, rfl, hv⟩ := D.vform
  have hN8 := D.le
  have hN1 := D.ge
  have hsl := D.slen
  have hnl : (allCells sec N).length = N * 1024 := allCells_length sec N hsl
  have hcells : ∀ j u, (allCells sec N)[j]? = some u → w.cell? ((⟨s, 0, none⟩ : Addr).add j) = some u := fun j u hu => by
    obtain ⟨i, j', hi, rfl, hj⟩ := allCells_inv sec N hsl j u hu
    have := D.secs i hi j' u hj
    rw [Addr.add_mid, Nat.zero_add]; exact this
  have hk2 : (k : Int) ≤ (ws.length : Int) := by omega
  have hk3 : (0 : Int) ≤ (k : Int) := by omega
  have hk4 : decide (ws.length < k) = false := by simpa using hk
  have HD := Lib.hid D
  have HNL := Lib.hid hnl
  have HCE := Lib.hid hcells
  have HI := Lib.hid hi
  have HZ := Lib.hid hz0
  have HK := Lib.hid hk
  have HN1 := Lib.hid hN1
  have HN8 := Lib.hid hN8
  have HV := Lib.hid hv
  have HSL := Lib.hid hsl
  have few := D.few
  have HF := Lib.hid few
  clear D hnl hcells hi hz0 hk hN1 hN8 hv hsl few
  go_enter Try.func23, Try.ntmps23
  go_wp2_with (at_builtin; go_must (refine wpList_append_own _ rfl _ _ 57 rfl w.heap.size 63 i0 z0 1024 1024 Try.underlying57 HI.out HZ.out hz1 hz2 hz3 (by decide) _ _ [] rfl ⟨rfl, .inl ⟨rfl, rfl⟩⟩ ⟨s, 0, none⟩ N capS (allCells sec N) rfl HNL.out HCE.out ?c2 ?c3 ?c4 ?c5 ?_))
  case c2 => exact allCells_one sec N
  case c3 => have := HN1.out; unfold maxLen; omega
  case c4 => have := HN1.out; omega
  case c5 => exact Nat.le_refl _
  intro v' w1 hown' hgrow _
  obtain ⟨g, cap, cur, rfl, hg1, hg2, hg3, hg4, hg5, hg6⟩ : ∃ g cap cur, v' = .slice (some ⟨g, 0, none⟩) N cap ∧ w.heap.size ≤ g ∧ w1.heap[g]? = some (.cells cur 63 (0, 0)) ∧ N ≤ cap ∧ cap ≤ maxLen ∧ cur.size = cap * 1024 ∧ cur.toList.take (N * 1024) = allCells sec N := by
    rcases hown'.2 with ⟨h1, h2⟩ | h
    · have := HN8.out; omega
    · exact h
  have hb1 : Below w.heap.size w w1 := (Below.refl w.heap.size w).grown hgrow (Nat.le_refl _) (fun _ h => by cases h)
  have hD1 : DiskAt (w1.alloc (.cells #[.slice (some ⟨g, 0, none⟩) N cap, .slice none 0 0] 60 (0, 0))) w.heap.size w1.heap.size g (.slice none 0 0) N sec [] := by
    have hgl : g < w1.heap.size := (Array.getElem?_eq_some_iff.1 hg2).1
    have hblk : (w1.alloc (.cells #[.slice (some ⟨g, 0, none⟩) N cap, .slice none 0 0] 60 (0, 0))).heap[g]? = some (.cells cur 63 (0, 0)) := by
      rw [((Below.refl w1.heap.size w1).alloc (Nat.le_refl _) _).block g hgl]; exact hg2
    exact {
      c0 := ⟨cap, by rw [cell_of_row _ _ 0 _ _ _ (heap_alloc_new w1 _)]; rfl⟩
      c1 := by rw [cell_of_row _ _ 1 _ _ _ (heap_alloc_new w1 _)]; rfl
      f1 := by unfold World.frozen?; rw [heap_alloc_new]; rfl
      secs := fun i hi j u hj => by
        rw [cell_of_row _ g _ cur _ _ hblk]
        have h1 := allCells_get sec N HSL.out i j hi u hj
        rw [← hg6, List.getElem?_take] at h1
        split at h1
        · simpa using h1
        · cases h1
      there := fun i hi => made_there 1024 cap _ g _ cur hblk hg5 i (by omega)
      slen := HSL.out
      wlen := fun p hp => by cases hp
      win := fun p hp => by cases hp
      writes := ⟨rfl, .inl ⟨rfl, rfl⟩⟩
      few := Nat.zero_le _
      le := HN8.out
      ge := HN1.out
      ds := by omega
      vd := by simp [Value.ownBlock]
      vs := by simp [Value.ownBlock]
      bd := hb1.size
      bs := hg1 }
  have hb2 : Below w.heap.size w (w1.alloc (.cells #[.slice (some ⟨g, 0, none⟩) N cap, .slice none 0 0] 60 (0, 0))) := hb1.alloc hb1.size _
  have HD1 := Lib.hid hD1
  have HB2 := Lib.hid hb2
  have c1x : (w1.alloc (.cells #[.slice (some ⟨g, 0, none⟩) N cap, .slice none 0 0] 60 (0, 0))).cell? ⟨d, 1, none⟩ = some (.slice q ws.length c) := (Touch.of_below hb2 []).cell c1 (by simp)
  have c1w := (Touch.of_below hb1 []).cell c1 (by simp)
  have hlw : IntKind.i64.wrap ((ws.length : Int) - 1) = (ws.length : Int) - 1 := IntWalk.i64_in _ (by have := HF.out; omega)
  clear hown' hgrow hg1 hg2 hg3 hg4 hg5 hg6 hb1 hb2 hD1
  try rw [Nat.zero_add]
  go_wp2_with fail
  go_loopw [7] (fun i wr => ∃ j : Nat, i = .int .i64 ((j : Int) - 1) ∧ Hid (k ≤ j ∧ j ≤ ws.length ∧ DiskAt wr w.heap.size w1.heap.size g (.slice none 0 0) N (back sec ws j) [] ∧ Below w.heap.size w wr)) (fun i _ => (intOf i + 1).toNat)
  case atStart =>
    refine ⟨ws.length, rfl, HK.out, Nat.le_refl _, ?_, HB2.out⟩
    rw [back_all]; exact HD1.out
  case round =>
    obtain ⟨j, rfl, HX⟩ := hrel
    obtain ⟨hj1, hj2, C, hB⟩ := HX.out
    clear HX
    have c1r := (Touch.of_below hB []).cell c1 (by simp)
    by_cases hlt : k < j
    · obtain ⟨i, rfl⟩ : ∃ i, j = i + 1 := ⟨j - 1, by omega⟩
      have hil : i < ws.length := by omega
      obtain ⟨p, hp⟩ : ∃ p, ws[i]? = some p := ⟨ws[i], List.getElem?_eq_getElem hil⟩
      have hpm := List.mem_of_getElem? hp
      have hpN := HD.out.win p hpm
      have hps := HD.out.wlen p hpm
      obtain ⟨gw, rfl, hr⟩ := HV.out i p hp
      have hrr := (Touch.of_below hB []).range hr (by simp)
      have hl := (show (Value.int .i64 p.1 :: strCells p.2).length = 1025 by rw [List.length_cons, strCells_length, hps])
      have hld := load_write wr gw (i * 1025) _ hl hrr
      have hst := store_new_write wr Zw hZw _ hl (wone p.1 p.2)
      have hbs := back_step sec ws i p hp
      have hbkl := C.slen p.1 hpN
      have hi1 : ((i + 1 : Nat) : Int) - 1 = (i : Int) := by omega
      have hi0 : (0 : Int) ≤ (i : Int) := by omega
      have hi2 : (i : Int) < (ws.length : Int) := by omega
      have hi3 : (k : Int) ≤ (i : Int) := by omega
      have hiw : IntKind.i64.wrap ((i : Int) - 1) = (i : Int) - 1 := IntWalk.i64_in _ (by have := HF.out; omega)
      have hnN : (p.1 : Int) < (N : Int) := by omega
      have hn0 : (0 : Int) ≤ (p.1 : Int) := by omega
      have hbl := hB.size
      have hbx : Below wr.heap.size wr (wr.alloc (.cells (Value.int .i64 p.1 :: strCells p.2).toArray 65 (0, 0))) := (Below.refl _ _).alloc (Nat.le_refl _) _
      have C2 := C.below hbx
      have hB2 := hB.trans (hbx.mono hbl)
      have hn1 := new_cell wr p.1 (strCells p.2) 65
      have hn2 : (wr.alloc (.cells (Value.int .i64 p.1 :: strCells p.2).toArray 65 (0, 0))).rangeAt wr.heap.size 1 (strCells p.2) := fun x u hx => by
        rw [cell_of_row _ wr.heap.size _ _ _ _ (heap_alloc_new wr _), Nat.add_comm]; simpa using hx
      have HC2 := Lib.hid C2
      have HB2' := Lib.hid hB2
      have HN1' := Lib.hid hn1
      have HN2' := Lib.hid hn2
      have HBS := Lib.hid hbs
      have HBKL := Lib.hid hbkl
      have HPS := Lib.hid hps
      have HPN := Lib.hid hpN
      have HLT := Lib.hid (show k ≤ i ∧ i ≤ ws.length by omega)
      clear C hB hj1 hj2 hrr hr hl hbs hbkl hps hpN hbx C2 hB2 hn1 hn2 hlt hil hpm hp
      rw [hi1]
      go_upto_region 10 with fail
      generalize wr.alloc (.cells (Value.int .i64 p.1 :: strCells p.2).toArray 65) = wx at *
      obtain ⟨capC, hcc⟩ := HC2.out.c0
      have hq := (eq_sector (back sec ws (i + 1) p.1) p.2 HBKL.out HPS.out)
      have hgd := guard_sector
      have r1 : ∀ (w' : World), Hid (w'.heap = wx.heap) → w'.cell? ⟨w1.heap.size, 0, none⟩ = some (.slice (some ⟨g, 0, none⟩) N capC) := fun w' h => (World.cell?_of_block (w := wx) (by rw [h.out])).trans hcc
      have r2 : ∀ (w' : World), Hid (w'.heap = wx.heap) → w'.cell? ⟨wr.heap.size, 0, none⟩ = some (.int .i64 p.1) := fun w' h => (World.cell?_of_block (w := wx) (by rw [h.out])).trans HN1'.out
      have rr : ∀ (w' : World) b o cs, Hid (w'.heap = wx.heap) → wx.rangeAt b o cs → w'.rangeAt b o cs := fun w' b o cs h hr x u hx => (World.cell?_of_block (w := wx) (by rw [h.out])).trans (hr x u hx)
      have l1 : (strCells (back sec ws (i + 1) p.1)).length = 1024 := by rw [strCells_length, HBKL.out]
      have l2 : (strCells p.2).length = 1024 := by rw [strCells_length, HPS.out]
      have r3 := fun (w' : World) (h : Hid (w'.heap = wx.heap)) => load_sector w' g (p.1 * 1024) _ l1 (rr w' _ _ _ h (HC2.out.secs p.1 HPN.out))
      have r4 := fun (w' : World) (h : Hid (w'.heap = wx.heap)) => load_sector w' wr.heap.size 1 _ l2 (rr w' _ _ _ h HN2'.out)
      have HS0 : Hid (wx.drew.heap = wx.heap) := rfl
      have HL1 := Lib.hid l1
      have HL2 := Lib.hid l2
      clear rr l1 l2 hcc
      by_cases hsame : back sec ws (i + 1) p.1 = p.2
      · have hqt : ∀ w', (Op.equalIn 10000 63 (.agg (strCells (back sec ws (i + 1) p.1)).toArray) (.agg (strCells p.2).toArray)).run Try.prog w' = .ok true w' := fun w' => by rw [hq w', decide_eq_true hsame]
        have HSM := Lib.hid hsame
        clear hq hsame
        refine wp_region_held_drew (S := fun w' => Hid (w'.heap = wx.heap)) (by kernel_rfl) HS0 (fun hHeld => ?_)
        refine wpAnyH_take (i := 0) (oi := _) (v := ?v0_1) rfl (by kernel_rfl) (by kernel_rfl) (by kernel_rfl) (fun _ _ _ h => h) (Or.inl ⟨by rfl, ?hy0_1⟩) (by assumption) ?rest0_1
        case hy0_1 => (intro wq hSw; (try dsimp only at hSw); simp only [List.getElem_toArray, List.getElem_cons_zero, List.getElem_cons_succ]; go_simp; try with_reducible rfl)
        simp only [Act.put, List.getElem_toArray, List.getElem_cons_zero, List.getElem_cons_succ, List.setIfInBounds_toArray, List.set_cons_zero, List.set_cons_succ]
        refine wpAnyH_take (i := 1) (oi := _) (v := ?v1_2) rfl (by kernel_rfl) (by kernel_rfl) (by kernel_rfl) (fun _ _ _ h => h) (Or.inl ⟨by rfl, ?hy1_2⟩) (by assumption) ?rest1_2
        case hy1_2 => (intro wq hSw; (try dsimp only at hSw); simp only [List.getElem_toArray, List.getElem_cons_zero, List.getElem_cons_succ]; go_simp; try with_reducible rfl)
        simp only [Act.put, List.getElem_toArray, List.getElem_cons_zero, List.getElem_cons_succ, List.setIfInBounds_toArray, List.set_cons_zero, List.set_cons_succ]
        refine wpAnyH_take (i := 2) (oi := _) (v := ?v2_3) rfl (by kernel_rfl) (by kernel_rfl) (by kernel_rfl) (fun _ _ _ h => h) (Or.inl ⟨by rfl, ?hy2_3⟩) (by assumption) ?rest2_3
        case hy2_3 => (intro wq hSw; (try dsimp only at hSw); simp only [List.getElem_toArray, List.getElem_cons_zero, List.getElem_cons_succ]; go_simp; try with_reducible rfl)
        simp only [Act.put, List.getElem_toArray, List.getElem_cons_zero, List.getElem_cons_succ, List.setIfInBounds_toArray, List.set_cons_zero, List.set_cons_succ]
        refine wpAnyH_take (i := 3) (oi := _) (v := ?v3_4) rfl (by kernel_rfl) (by kernel_rfl) (by kernel_rfl) (fun _ _ _ h => h) (Or.inl ⟨by rfl, ?hy3_4⟩) (by assumption) ?rest3_4
        case hy3_4 => (intro wq hSw; (try dsimp only at hSw); simp only [List.getElem_toArray, List.getElem_cons_zero, List.getElem_cons_succ]; go_simp; try with_reducible rfl)
        simp only [Act.put, List.getElem_toArray, List.getElem_cons_zero, List.getElem_cons_succ, List.setIfInBounds_toArray, List.set_cons_zero, List.set_cons_succ]
        refine wpAnyH_take (i := 4) (oi := _) (v := ?v4_5) rfl (by kernel_rfl) (by kernel_rfl) (by kernel_rfl) (fun _ _ _ h => h) (Or.inl ⟨by rfl, ?hy4_5⟩) (by assumption) ?rest4_5
        case hy4_5 => (intro wq hSw; (try dsimp only at hSw); simp only [List.getElem_toArray, List.getElem_cons_zero, List.getElem_cons_succ]; go_simp; try with_reducible rfl)
        simp only [Act.put, List.getElem_toArray, List.getElem_cons_zero, List.getElem_cons_succ, List.setIfInBounds_toArray, List.set_cons_zero, List.set_cons_succ]
        refine wpAnyH_take (i := 5) (oi := _) (v := ?v5_6) rfl (by kernel_rfl) (by kernel_rfl) (by kernel_rfl) (fun _ _ _ h => h) (Or.inl ⟨by rfl, ?hy5_6⟩) (by assumption) ?rest5_6
        case hy5_6 => (intro wq hSw; (try dsimp only at hSw); simp only [List.getElem_toArray, List.getElem_cons_zero, List.getElem_cons_succ]; go_simp; try with_reducible rfl)
        simp only [Act.put, List.getElem_toArray, List.getElem_cons_zero, List.getElem_cons_succ, List.setIfInBounds_toArray, List.set_cons_zero, List.set_cons_succ]
        refine wpAnyH_take (i := 6) (oi := _) (v := ?v6_7) rfl (by kernel_rfl) (by kernel_rfl) (by kernel_rfl) (fun _ _ _ h => h) (Or.inl ⟨by rfl, ?hy6_7⟩) (by assumption) ?rest6_7
        case hy6_7 => (intro wq hSw; (try dsimp only at hSw); simp only [List.getElem_toArray, List.getElem_cons_zero, List.getElem_cons_succ]; go_simp; try with_reducible rfl)
        simp only [Act.put, List.getElem_toArray, List.getElem_cons_zero, List.getElem_cons_succ, List.setIfInBounds_toArray, List.set_cons_zero, List.set_cons_succ]
        refine wpAnyH_take (i := 7) (oi := _) (v := ?v7_8) rfl (by kernel_rfl) (by kernel_rfl) (by kernel_rfl) (fun _ _ _ h => h) (Or.inl ⟨by rfl, ?hy7_8⟩) (by assumption) ?rest7_8
        case hy7_8 => (intro wq hSw; (try dsimp only at hSw); simp only [List.getElem_toArray, List.getElem_cons_zero, List.getElem_cons_succ]; go_simp; try with_reducible rfl)
        simp only [Act.put, List.getElem_toArray, List.getElem_cons_zero, List.getElem_cons_succ, List.setIfInBounds_toArray, List.set_cons_zero, List.set_cons_succ]
        refine wpAnyH_take (i := 8) (oi := _) (v := ?v8_9) rfl (by kernel_rfl) (by kernel_rfl) (by kernel_rfl) (fun _ _ _ h => h) (Or.inl ⟨by rfl, ?hy8_9⟩) (by assumption) ?rest8_9
        case hy8_9 => (intro wq hSw; (try dsimp only at hSw); simp only [List.getElem_toArray, List.getElem_cons_zero, List.getElem_cons_succ]; go_simp; try with_reducible rfl)
        simp only [Act.put, List.getElem_toArray, List.getElem_cons_zero, List.getElem_cons_succ, List.setIfInBounds_toArray, List.set_cons_zero, List.set_cons_succ]
        refine wpAnyH_take (i := 9) (oi := _) (v := ?v9_10) rfl (by kernel_rfl) (by kernel_rfl) (by kernel_rfl) (fun _ _ _ h => h) (Or.inl ⟨by rfl, ?hy9_10⟩) (by assumption) ?rest9_10
        case hy9_10 => (intro wq hSw; (try dsimp only at hSw); simp only [List.getElem_toArray, List.getElem_cons_zero, List.getElem_cons_succ]; go_simp; try with_reducible rfl)
        simp only [Act.put, List.getElem_toArray, List.getElem_cons_zero, List.getElem_cons_succ, List.setIfInBounds_toArray, List.set_cons_zero, List.set_cons_succ]
        refine wpAnyH_take (i := 10) (oi := _) (v := ?v10_11) rfl (by kernel_rfl) (by kernel_rfl) (by kernel_rfl) (fun _ _ _ h => h) (Or.inl ⟨by rfl, ?hy10_11⟩) (by assumption) ?rest10_11
        case hy10_11 => (intro wq hSw; (try dsimp only at hSw); simp only [List.getElem_toArray, List.getElem_cons_zero, List.getElem_cons_succ]; go_simp; try with_reducible rfl)
        simp only [Act.put, List.getElem_toArray, List.getElem_cons_zero, List.getElem_cons_succ, List.setIfInBounds_toArray, List.set_cons_zero, List.set_cons_succ]
        refine wpAnyH_done (by kernel_rfl) ?_ _
        clear r1 r2 r3 r4 hqt
        go_wp2_with fail
        go_roundw
        case rel =>
          refine ⟨i, rfl, HLT.out.1, HLT.out.2, ?_, HB2'.out.drew⟩
          have e : back sec ws i = back sec ws (i + 1) := by
            rw [HBS.out]; funext x; unfold upd
            by_cases hx : x = p.1
            · rw [if_pos hx, hx, HSM.out]
            · rw [if_neg hx]
          rw [e]
          exact HC2.out.below (below_drew wx)
        case measure => simp [intOf]
      · have hqt : ∀ w', (Op.equalIn 10000 63 (.agg (strCells (back sec ws (i + 1) p.1)).toArray) (.agg (strCells p.2).toArray)).run Try.prog w' = .ok false w' := fun w' => by rw [hq w', decide_eq_false hsame]
        clear hq hsame
        refine wp_region_held_drew (S := fun w' => Hid (w'.heap = wx.heap)) (by kernel_rfl) HS0 (fun hHeld => ?_)
        refine wpAnyH_take (i := 0) (oi := _) (v := ?v0_12) rfl (by kernel_rfl) (by kernel_rfl) (by kernel_rfl) (fun _ _ _ h => h) (Or.inl ⟨by rfl, ?hy0_12⟩) (by assumption) ?rest0_12
        case hy0_12 => (intro wq hSw; (try dsimp only at hSw); simp only [List.getElem_toArray, List.getElem_cons_zero, List.getElem_cons_succ]; go_simp; try with_reducible rfl)
        simp only [Act.put, List.getElem_toArray, List.getElem_cons_zero, List.getElem_cons_succ, List.setIfInBounds_toArray, List.set_cons_zero, List.set_cons_succ]
        refine wpAnyH_take (i := 1) (oi := _) (v := ?v1_13) rfl (by kernel_rfl) (by kernel_rfl) (by kernel_rfl) (fun _ _ _ h => h) (Or.inl ⟨by rfl, ?hy1_13⟩) (by assumption) ?rest1_13
        case hy1_13 => (intro wq hSw; (try dsimp only at hSw); simp only [List.getElem_toArray, List.getElem_cons_zero, List.getElem_cons_succ]; go_simp; try with_reducible rfl)
        simp only [Act.put, List.getElem_toArray, List.getElem_cons_zero, List.getElem_cons_succ, List.setIfInBounds_toArray, List.set_cons_zero, List.set_cons_succ]
        refine wpAnyH_take (i := 2) (oi := _) (v := ?v2_14) rfl (by kernel_rfl) (by kernel_rfl) (by kernel_rfl) (fun _ _ _ h => h) (Or.inl ⟨by rfl, ?hy2_14⟩) (by assumption) ?rest2_14
        case hy2_14 => (intro wq hSw; (try dsimp only at hSw); simp only [List.getElem_toArray, List.getElem_cons_zero, List.getElem_cons_succ]; go_simp; try with_reducible rfl)
        simp only [Act.put, List.getElem_toArray, List.getElem_cons_zero, List.getElem_cons_succ, List.setIfInBounds_toArray, List.set_cons_zero, List.set_cons_succ]
        refine wpAnyH_take (i := 3) (oi := _) (v := ?v3_15) rfl (by kernel_rfl) (by kernel_rfl) (by kernel_rfl) (fun _ _ _ h => h) (Or.inl ⟨by rfl, ?hy3_15⟩) (by assumption) ?rest3_15
        case hy3_15 => (intro wq hSw; (try dsimp only at hSw); simp only [List.getElem_toArray, List.getElem_cons_zero, List.getElem_cons_succ]; go_simp; try with_reducible rfl)
        simp only [Act.put, List.getElem_toArray, List.getElem_cons_zero, List.getElem_cons_succ, List.setIfInBounds_toArray, List.set_cons_zero, List.set_cons_succ]
        refine wpAnyH_take (i := 4) (oi := _) (v := ?v4_16) rfl (by kernel_rfl) (by kernel_rfl) (by kernel_rfl) (fun _ _ _ h => h) (Or.inl ⟨by rfl, ?hy4_16⟩) (by assumption) ?rest4_16
        case hy4_16 => (intro wq hSw; (try dsimp only at hSw); simp only [List.getElem_toArray, List.getElem_cons_zero, List.getElem_cons_succ]; go_simp; try with_reducible rfl)
        simp only [Act.put, List.getElem_toArray, List.getElem_cons_zero, List.getElem_cons_succ, List.setIfInBounds_toArray, List.set_cons_zero, List.set_cons_succ]
        refine wpAnyH_take (i := 5) (oi := _) (v := ?v5_17) rfl (by kernel_rfl) (by kernel_rfl) (by kernel_rfl) (fun _ _ _ h => h) (Or.inl ⟨by rfl, ?hy5_17⟩) (by assumption) ?rest5_17
        case hy5_17 => (intro wq hSw; (try dsimp only at hSw); simp only [List.getElem_toArray, List.getElem_cons_zero, List.getElem_cons_succ]; go_simp; try with_reducible rfl)
        simp only [Act.put, List.getElem_toArray, List.getElem_cons_zero, List.getElem_cons_succ, List.setIfInBounds_toArray, List.set_cons_zero, List.set_cons_succ]
        refine wpAnyH_take (i := 6) (oi := _) (v := ?v6_18) rfl (by kernel_rfl) (by kernel_rfl) (by kernel_rfl) (fun _ _ _ h => h) (Or.inl ⟨by rfl, ?hy6_18⟩) (by assumption) ?rest6_18
        case hy6_18 => (intro wq hSw; (try dsimp only at hSw); simp only [List.getElem_toArray, List.getElem_cons_zero, List.getElem_cons_succ]; go_simp; try with_reducible rfl)
        simp only [Act.put, List.getElem_toArray, List.getElem_cons_zero, List.getElem_cons_succ, List.setIfInBounds_toArray, List.set_cons_zero, List.set_cons_succ]
        refine wpAnyH_take (i := 7) (oi := _) (v := ?v7_19) rfl (by kernel_rfl) (by kernel_rfl) (by kernel_rfl) (fun _ _ _ h => h) (Or.inl ⟨by rfl, ?hy7_19⟩) (by assumption) ?rest7_19
        case hy7_19 => (intro wq hSw; (try dsimp only at hSw); simp only [List.getElem_toArray, List.getElem_cons_zero, List.getElem_cons_succ]; go_simp; try with_reducible rfl)
        simp only [Act.put, List.getElem_toArray, List.getElem_cons_zero, List.getElem_cons_succ, List.setIfInBounds_toArray, List.set_cons_zero, List.set_cons_succ]
        refine wpAnyH_take (i := 8) (oi := _) (v := ?v8_20) rfl (by kernel_rfl) (by kernel_rfl) (by kernel_rfl) (fun _ _ _ h => h) (Or.inl ⟨by rfl, ?hy8_20⟩) (by assumption) ?rest8_20
        case hy8_20 => (intro wq hSw; (try dsimp only at hSw); simp only [List.getElem_toArray, List.getElem_cons_zero, List.getElem_cons_succ]; go_simp; try with_reducible rfl)
        simp only [Act.put, List.getElem_toArray, List.getElem_cons_zero, List.getElem_cons_succ, List.setIfInBounds_toArray, List.set_cons_zero, List.set_cons_succ]
        refine wpAnyH_take (i := 9) (oi := _) (v := ?v9_21) rfl (by kernel_rfl) (by kernel_rfl) (by kernel_rfl) (fun _ _ _ h => h) (Or.inl ⟨by rfl, ?hy9_21⟩) (by assumption) ?rest9_21
        case hy9_21 => (intro wq hSw; (try dsimp only at hSw); simp only [List.getElem_toArray, List.getElem_cons_zero, List.getElem_cons_succ]; go_simp; try with_reducible rfl)
        simp only [Act.put, List.getElem_toArray, List.getElem_cons_zero, List.getElem_cons_succ, List.setIfInBounds_toArray, List.set_cons_zero, List.set_cons_succ]
        refine wpAnyH_take (i := 10) (oi := _) (v := ?v10_22) rfl (by kernel_rfl) (by kernel_rfl) (by kernel_rfl) (fun _ _ _ h => h) (Or.inl ⟨by rfl, ?hy10_22⟩) (by assumption) ?rest10_22
        case hy10_22 => (intro wq hSw; (try dsimp only at hSw); simp only [List.getElem_toArray, List.getElem_cons_zero, List.getElem_cons_succ]; go_simp; try with_reducible rfl)
        simp only [Act.put, List.getElem_toArray, List.getElem_cons_zero, List.getElem_cons_succ, List.setIfInBounds_toArray, List.set_cons_zero, List.set_cons_succ]
        refine wpAnyH_done (by kernel_rfl) ?_ _
        clear r1 r2 r3 r4 hqt
        go_upto_region 11 with fail
        have HC3 := Lib.hid (HC2.out.below (below_drew wx))
        have HB3 := Lib.hid (HB2'.out.drew)
        have hn1 := (Touch.of_below (below_drew wx) []).cell HN1'.out (by simp)
        have hn2 := (Touch.of_below (below_drew wx) []).range HN2'.out (by simp)
        have hbw : w.heap.size ≤ wx.drew.heap.size := HB3.out.size
        generalize wx.drew = wy at *
        obtain ⟨capD, hcc⟩ := HC3.out.c0
        have ht := HC3.out.there p.1 HPN.out
        have hld2 := fun (w' : World) (h : w'.rangeAt wr.heap.size 1 (strCells p.2)) => load_sector w' wr.heap.size 1 (strCells p.2) HL2.out h
        have hst2 := fun (w' : World) (h : w'.there g (p.1 * 1024) 1024) => store_sector w' g (p.1 * 1024) (strCells p.2) HL2.out (strCells_oneCell _) h
        go_region_law fail
        all_goals
          have hsd := Lib.hid (store_disk (HC3.out.below (below_drew wy)) p.1 HPN.out p.2 HPS.out)
          have hse := Lib.hid (HB3.out.drew.trans ((Touch.setCells g (strCells p.2) (p.1 * 1024) wy.drew).below (B := w.heap.size) hbw (fun x hx => by simp only [List.mem_singleton] at hx; rw [hx]; exact HC3.out.bs)))
          clear hld2 hst2 ht hcc hn1 hn2
          go_wp2_with fail
          go_roundw
          case rel =>
            refine ⟨i, rfl, HLT.out.1, HLT.out.2, ?_, hse.out⟩
            rw [HBS.out]
            exact hsd.out
          case measure => simp [intOf]
    · obtain rfl : j = k := by omega
      have hDk := Lib.hid C
      have hBk := Lib.hid hB
      have hj3 : ¬ ((j : Int) ≤ (j : Int) - 1) := by omega
      clear C hB hj1 hj2
      go_wp2_with fail
      go_ret2
      exact ⟨_, rfl, ⟨_, hDk.out⟩, hBk.out⟩
end
end Go.Proofs.Ytegiabnlmngkmaa
