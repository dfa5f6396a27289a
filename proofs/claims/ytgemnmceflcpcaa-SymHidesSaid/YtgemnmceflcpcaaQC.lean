/- May a procedure be. -/
import Derived.Test.YtgemnmceflcpcaaSyD
import Derived.Deep.CutRange
import Derived.Deep.DeepCutAuto
namespace Go.Proofs.Ytgemnmceflcpcaa
open Go Go.RowKit Go.Lib Go.Proofs.Ytgemnmceflcpcaa.Sy
set_option linter.unusedVariables false
set_option linter.unusedSimpArgs false
attribute [local go_sem ↓] exec_load_const exec_store_const exec_load_var exec_store_var exec_load_proc exec_store_proc
attribute [local go_sem] ccells vcells pcells
@[reducible] def zVar : Array Value := #[.string ⟨#[]⟩, .int .i64 0, .int .i64 0, .bool false, .bool false]
def pvOk (x : Vr) : Prop := plainF x.form ∧ x.name = ⟨#[]⟩ ∧ x.len = 0
section
variable {w : World}
set_option maxHeartbeats 4000000 in
set_option maxRecDepth 100000 in
theorem procedure_any (p : Pr) {pv : Value} (hn : p.name.size ≤ maxLen) (hv : VrsAt w pv p.params) {k : Bool} (hc : IsB k (prOk p)) : Calls Try.prog 28 #[.agg (pcells p pv)] w fun e w' => e = .returned (.bool k) ∧ Below w.heap.size w w' := by
  obtain ⟨nm, ps, res⟩ := p
  simp only at hn hv
  obtain ⟨A, cap, rfl, hc1, hc2, hA⟩ := hv.1.form
  rw [List.length_map] at *
  unfold maxLen at hc2
  have hb0 := (Below.refl w.heap.size w).alloc (Nat.le_refl _) (.cells #[.string nm, .slice A ps.length cap, .int .i64 res] 63)
  have kb0 := Blk.new w #[.string nm, .slice A ps.length cap, .int .i64 res] 63
  have HB0 := Lib.hid hb0
  have KB0 := Lib.hid kb0
  have HC := Lib.hid hc
  have HV := Lib.hid hv
  have HA := Lib.hid hA
  clear hc hv hA hb0 kb0
  dsimp only [pcells]
  go_enter Try.func28, Try.ntmps28
  go_wp2_with fail
  go_loopw [8] (fun v wr => ∃ i : Nat, i ≤ ps.length ∧ v = .int .i64 i ∧ Hid (∀ j x, j < i → ps[j]? = some x → pvOk x) ∧ Hid (Blk wr w.heap.size #[.string nm, .slice A ps.length cap, .int .i64 res] 63) ∧ Hid (Below w.heap.size w wr)) (fun v _ => ps.length - (intOf v).toNat)
  case atStart => exact ⟨0, Nat.zero_le _, rfl, Lib.hid (fun j x hj => absurd hj (by omega)), KB0, HB0⟩
  case round =>
    obtain ⟨i, hi, rfl, HN, KB, HB⟩ := hrel
    clear KB0 HB0
    by_cases hlt : i < ps.length
    · obtain ⟨x, hx⟩ : ∃ x, ps[i]? = some x := ⟨ps[i], List.getElem?_eq_getElem hlt⟩
      rcases HA.out with hE | ⟨b, off, rfl, hb, hr⟩
      · have : ps = [] := by simpa using hE
        subst this; simp at hlt
      have hrx := hr i (vcells x).toList (by rw [List.getElem?_map, hx]; rfl)
      have hl := load_mid Try.underlying73 rfl sz_var (range_below hrx HB.out hb) rfl
      have hst := store_blk_new wr zVar (vcells x) 73 sz_var rfl rfl (vcells_one x)
      have HX := Lib.hid hx
      have hlt1 : (i : Int) < (ps.length : Int) := by omega
      have HB2 := Lib.hid (HB.out.alloc HB.out.size (.cells (vcells x) 73))
      have KX := Lib.hid (Blk.new wr (vcells x) 73)
      have KB2 := Lib.hid (KB.out.old (.cells (vcells x) 73))
      clear hrx hr hx
      go_upto_region 4 with fail
      clear hl hst
      generalize wr.alloc (.cells (vcells x) 73) = W1 at KX KB2 HB2 ⊢
      have x0 : W1.cell? ⟨wr.heap.size, 0, none⟩ = some (.string x.name) := KX.out.cell 0
      have x1 : W1.cell? ⟨wr.heap.size, 1, none⟩ = some (.int .i64 x.form) := KX.out.cell 1
      have x2 : W1.cell? ⟨wr.heap.size, 2, none⟩ = some (.int .i64 x.len) := KX.out.cell 2
      have bad : ¬ pvOk x → k = false := fun h => HC.out.no (fun g => h (g.1 x (List.mem_of_getElem? HX.out)))
      by_cases p1 : plainF x.form
      · have HQ := Lib.hid (show IsB true (plainF x.form) from ⟨fun _ => p1, fun _ => rfl⟩)
        by_cases p2 : x.name = ⟨#[]⟩
        · rw [p2] at x0
          by_cases p3 : x.len = 0
          · rw [p3] at x2
            have HI := Lib.hid (show ∀ j y, j < i + 1 → ps[j]? = some y → pvOk y from fun j y hj hy => by
              by_cases e : j = i
              · subst e; rw [HX.out] at hy; cases hy; exact ⟨p1, p2, p3⟩
              · exact HN.out j y (by omega) hy)
            clear p1 p2 p3 bad
            go_wp2_with (go_at_call 56; refine (plain_any x.form HQ.out).mono ?_; rintro e w1 ⟨rfl, rfl⟩)
            go_roundw
            case rel => exact ⟨i + 1, by omega, by go_num, HI, KB2, HB2⟩
            case measure => simp [intOf]; omega
          · have p31 : (x.len != 0) = true := by simpa using p3
            obtain rfl := bad (fun g => p3 g.2.2)
            clear p1 p2 p3 bad
            go_wp2_with (go_at_call 56; refine (plain_any x.form HQ.out).mono ?_; rintro e w1 ⟨rfl, rfl⟩)
            go_ret
            exact ⟨rfl, HB2.out⟩
        · have z1 := str_ne p2
          have z2 := str_ne2 p2
          obtain rfl := bad (fun g => p2 g.2.1)
          clear p1 p2 bad
          go_wp2_with (go_at_call 56; refine (plain_any x.form HQ.out).mono ?_; rintro e w1 ⟨rfl, rfl⟩)
          go_ret
          exact ⟨rfl, HB2.out⟩
      · have HQ := Lib.hid (show IsB false (plainF x.form) from ⟨(fun h => by cases h), fun h => absurd h p1⟩)
        obtain rfl := bad (fun g => p1 g.1)
        clear p1 bad
        go_wp2_with (go_at_call 56; refine (plain_any x.form HQ.out).mono ?_; rintro e w1 ⟨rfl, rfl⟩)
        go_ret
        exact ⟨rfl, HB2.out⟩
    · obtain rfl : i = ps.length := by omega
      have KBC := KB.out
      have k1 : wr.cell? ⟨w.heap.size, 1, none⟩ = some (.slice A ps.length cap) := KBC.cell 1
      have k2 : wr.cell? ⟨w.heap.size, 2, none⟩ = some (.int .i64 res) := KBC.cell 2
      have hall : ∀ x ∈ ps, pvOk x := fun x hx => by
        obtain ⟨j, hj⟩ := List.mem_iff_getElem?.1 hx
        exact HN.out j x (List.getElem?_eq_some_iff.1 hj).1 hj
      clear KBC
      by_cases l8 : ps.length ≤ 8
      · have l81 : (ps.length : Int) ≤ 8 := by omega
        by_cases r0 : res = 0
        · subst r0
          obtain rfl := HC.out.yes ⟨hall, l8, .inl rfl⟩
          clear hall
          go_wp2_with fail
          go_ret
          exact ⟨by first | rfl | (refine ret_bool ?_; simp; omega), HB.out⟩
        · have r01 : (res == 0) = false := by simpa using r0
          obtain ⟨q, hq⟩ := boolOf (plainF res)
          have hkq : k = q := by
            rw [Bool.eq_iff_iff, HC.out.iff, hq.iff]
            constructor
            · intro h; rcases h.2.2 with h | h
              · exact absurd h r0
              · exact h
            · intro h; exact ⟨hall, l8, .inr h⟩
          subst hkq
          have HQ := Lib.hid hq
          clear hall r0 hq
          go_wp2_with (go_at_call 56; refine (plain_any res HQ.out).mono ?_; rintro e w1 ⟨rfl, rfl⟩)
          go_ret
          exact ⟨by first | rfl | (refine ret_bool ?_; simp; omega), HB.out⟩
      · obtain rfl := HC.out.no (fun h => l8 h.2.1)
        have l81 : 8 < (ps.length : Int) := by omega
        clear hall
        go_wp2_with fail
        go_ret
        exact ⟨by first | rfl | (refine ret_bool ?_; simp; omega), HB.out⟩
end
end Go.Proofs.Ytgemnmceflcpcaa
namespace Go.Proofs.Ytgemnmceflcpcaa
open Go Go.RowKit Go.Lib Go.Proofs.Ytgemnmceflcpcaa.Sy
set_option linter.unusedVariables false
set_option linter.unusedSimpArgs false
theorem exec_load_type (ρ : Operand → Value) (dst : Option Tmp) (x : Operand) (ty' : TypeId) (pos : String) (after : Array Edge) (guard : Option (Nat × Bool)) :
    execOp ρ ⟨dst, .load 94 x, ty', pos, after, guard⟩ = (do pure (.value (← loadWhole 94 (ρ x)))) := rfl
theorem exec_store_type (ρ : Operand → Value) (dst : Option Tmp) (x y : Operand) (ty' : TypeId) (pos : String) (after : Array Edge) (guard : Option (Nat × Bool)) :
    execOp ρ ⟨dst, .store 94 x y, ty', pos, after, guard⟩ = (do storeWhole 94 (ρ x) (ρ y); pure .skip) := rfl
attribute [local go_sem ↓] exec_load_const exec_store_const exec_load_var exec_store_var exec_load_proc exec_store_proc exec_load_type exec_store_type
attribute [local go_sem] ccells vcells pcells
theorem info_type : (Try.prog.info? 94).map (fun i => (i.zero, i.size, i.bytes)) = some (some (.agg #[.int .i64 0, .int .i64 0, .int .i64 0, .int .i64 0, .slice none 0 0, .int .i64 0, .int .i64 0]), 7, 72) := by kernel_rfl
def basicSz : List Int := [0, 4, 1, 1, 1, 4, 4, 0]
def bRow (i : Nat) : List Value := [.int .i64 i, .int .i64 0, .int .i64 0, .int .i64 0, .slice none 0 0, .int .i64 (basicSz.getD i 0), .int .i64 0]
def bRows (k : Nat) : List (List Value) := (List.range k).map bRow
theorem bRows_length (k : Nat) : (bRows k).length = k := by unfold bRows; simp
theorem bRows_succ (k : Nat) : bRows (k + 1) = bRows k ++ [bRow k] := by unfold bRows; rw [List.range_succ, List.map_append]; rfl
theorem bRows_seven (k : Nat) : ∀ r ∈ bRows k, r.length = 7 := fun r hr => by
  unfold bRows at hr
  obtain ⟨i, _, rfl⟩ := List.mem_map.1 hr; rfl
theorem own_lt {w : World} {base : Nat} {e : TypeId} {size : Nat} {v : Value} {n : Nat} {xs : List Value} (h : w.ownsRow base e size v n xs) (g : Nat) (hg : v.ownBlock = some g) : g < w.heap.size ∧ base ≤ g := by
  have := h.lt g hg; exact ⟨this.2, this.1⟩
theorem new_cells (w : World) (l : List Value) (t : TypeId) (h0 : 0 < l.length) (j : Nat) (u : Value) (hj : l[j]? = some u) : (w.alloc (.cells l.toArray t)).cell? (Addr.add ⟨w.heap.size, 0, none⟩ j) = some u := by
  have := (Blk.new w l.toArray t).cell j
  rw [Addr.add_mid, Nat.zero_add, this]
  simpa using hj
theorem one_seven (a b c d e f g : Value) (ha : a.oneCell' = true) (hb : b.oneCell' = true) (hc : c.oneCell' = true) (hd : d.oneCell' = true) (he : e.oneCell' = true) (hf : f.oneCell' = true) (hg : g.oneCell' = true) : ∀ u ∈ [a, b, c, d, e, f, g], u.oneCell' = true := by
  intro u hu
  simp only [List.mem_cons, List.not_mem_nil, or_false] at hu
  rcases hu with rfl | rfl | rfl | rfl | rfl | rfl | rfl <;> assumption
/-- The first eight types lie behind one another. -/
def BasicPost (w : World) (e : Ending) (w' : World) : Prop := ∃ v, e = .returned v ∧ RowsAt w' v 7 (bRows 8) ∧ Below w.heap.size w w'
section
variable {w : World}
set_option maxHeartbeats 4000000 in
theorem basic_any : Calls Try.prog 91 #[] w (BasicPost w) := by
  obtain ⟨i0, hi, hz0, hz1, hz2⟩ := info_parts info_type
  have HI := Lib.hid hi
  have HZ0 := Lib.hid hz0
  have HZ1 := Lib.hid hz1
  have HZ2 := Lib.hid hz2
  clear hi hz0 hz1 hz2
  go_enter Try.func91, Try.ntmps91
  go_wp2_with fail
  have hb0 := Lib.hid (Blk.new w #[.int .i64 0, .int .i64 4, .int .i64 1, .int .i64 1, .int .i64 1, .int .i64 4, .int .i64 4, .int .i64 0] 3)
  have hB0 := Lib.hid ((Below.refl w.heap.size w).alloc (Nat.le_refl _) (.cells #[.int .i64 0, .int .i64 4, .int .i64 1, .int .i64 1, .int .i64 1, .int .i64 4, .int .i64 4, .int .i64 0] 3))
  go_loopw [1, 6] (fun v i wr => ∃ k : Nat, k ≤ 8 ∧ i = .int .i64 k ∧ Hid (wr.ownsRow (w.heap.size + 1) 94 7 v (bRows k).length (bRows k).flatten) ∧ Hid (Blk wr w.heap.size #[.int .i64 0, .int .i64 4, .int .i64 1, .int .i64 1, .int .i64 1, .int .i64 4, .int .i64 4, .int .i64 0] 3) ∧ Hid (Below w.heap.size w wr)) (fun _ i _ => 8 - (intOf i).toNat)
  case atStart => exact ⟨0, by omega, rfl, World.ownsRow_nil _ _ _ _, hb0, hB0⟩
  case round =>
    obtain ⟨k, hk, rfl, OWN, KB, HB⟩ := hrel
    clear hb0 hB0
    by_cases hlt : k < 8
    · have hc : wr.cell? ⟨w.heap.size, k, none⟩ = some (.int .i64 (basicSz.getD k 0)) := by
        rw [KB.out.cell k]
        match k, hlt with
        | 0, _ => rfl
        | 1, _ => rfl
        | 2, _ => rfl
        | 3, _ => rfl
        | 4, _ => rfl
        | 5, _ => rfl
        | 6, _ => rfl
        | 7, _ => rfl
      obtain ⟨z, hz⟩ : ∃ z, basicSz.getD k 0 = z := ⟨_, rfl⟩
      rw [hz] at hc
      have HZE := Lib.hid hz
      clear hz
      have hlt2 : (k : Int) < 8 := by omega
      go_wp2_with (at_builtin; refine wpList_append_own _ rfl _ _ 40 rfl (w.heap.size + 1) 94 i0 (.agg #[.int .i64 0, .int .i64 0, .int .i64 0, .int .i64 0, .slice none 0 0, .int .i64 0, .int .i64 0]) 7 72 Try.underlying40 HI.out HZ0.out HZ1.out HZ2.out rfl (by decide) _ _ _ rfl (OWN.out.alloc _) ⟨wr.heap.size, 0, none⟩ 1 1 [.int .i64 k, .int .i64 0, .int .i64 0, .int .i64 0, .slice none 0 0, .int .i64 z, .int .i64 0] rfl rfl ?c1 ?c2 ?c3 ?c4 ?c5 ?_)
      case c1 => exact new_cells wr _ _ (List.length_pos_of_mem (List.mem_cons_self ..))
      case c2 => exact one_seven _ _ _ _ _ _ _ rfl rfl rfl rfl rfl rfl rfl
      case c3 => rw [bRows_length]; unfold maxLen; omega
      case c4 => rw [bRows_length]; omega
      case c5 => have := KB.out.lt; simp; omega
      intro v' w8 hown8 hgrow8 _
      have hno : w.heap.size ∉ u1.ownBlock.toList := fun hm => by
        simp only [Option.mem_toList, Option.mem_def] at hm
        have := own_lt OWN.out _ hm
        omega
      have T8 := ((Touch.of_below ((Below.refl _ wr).alloc (Nat.le_refl _) _) u1.ownBlock.toList).trans (Touch.of_grown hgrow8) (fun g hg _ => hg))
      have KB8 := Lib.hid (T8.blk KB.out hno)
      have HB8 := Lib.hid (HB.out.trans (T8.below HB.out.size (fun g hg => by
        simp only [Option.mem_toList, Option.mem_def] at hg
        have := own_lt OWN.out _ hg
        omega)))
      have OWN8 := Lib.hid (show w8.ownsRow (w.heap.size + 1) 94 7 v' (bRows (k + 1)).length (bRows (k + 1)).flatten by
        rw [bRows_succ, List.length_append, List.flatten_append]
        unfold bRow
        rw [HZE.out]
        simpa using hown8)
      clear hown8 hgrow8 T8 hno OWN KB HB HZE
      go_wp2_with fail
      go_roundw
      case rel => exact ⟨k + 1, by omega, by go_num, OWN8, KB8, HB8⟩
      case measure => simp [intOf]; omega
    · obtain rfl : k = 8 := by omega
      have HT := Lib.hid (own_rows (bRows_seven 8) OWN.out)
      go_wp2_with fail
      go_ret
      exact ⟨u1, rfl, HT.out, HB.out⟩
end
end Go.Proofs.Ytgemnmceflcpcaa
namespace Go.Proofs.Ytgemnmceflcpcaa
open Go Go.RowKit Go.Lib Go.Proofs.Ytgemnmceflcpcaa.Sy
set_option linter.unusedVariables false
set_option linter.unusedSimpArgs false
/-- What the walk needs of the first types: their sizes. -/
def SizesAt (w : World) (v : Value) : Prop := ∃ b off cap, v = .slice (some ⟨b, off, none⟩) 8 cap ∧ 8 ≤ cap ∧ cap ≤ maxLen ∧ ∀ n : Nat, 1 ≤ n → n ≤ 5 → w.cell? ⟨b, off + n * 7 + 5, none⟩ = some (.int .i64 (szF n))
theorem sizes_of {w : World} {v : Value} (h : RowsAt w v 7 (bRows 8)) : SizesAt w v := by
  obtain ⟨A, cap, e, h1, h2, h4⟩ := h.form
  rcases h4 with h4 | ⟨b, off, rfl, hlt, hr⟩
  · exact absurd (congrArg List.length h4) (by rw [bRows_length]; decide)
  rw [bRows_length] at e h1
  refine ⟨b, off, cap, e, h1, h2, fun n hn1 hn5 => ?_⟩
  have hk : (bRows 8)[n]? = some (bRow n) := by
    unfold bRows
    rw [List.getElem?_map, List.getElem?_range (by omega)]; rfl
  have := hr n _ hk 5 (.int .i64 (basicSz.getD n 0)) rfl
  rw [this]
  have : n = 1 ∨ n = 2 ∨ n = 3 ∨ n = 4 ∨ n = 5 := by omega
  rcases this with rfl | rfl | rfl | rfl | rfl <;> rfl
section
variable {w : World}
set_option maxHeartbeats 4000000 in
theorem bytes_any (n : Nat) (h1 : 1 ≤ n) (h5 : n ≤ 5) : Calls Try.prog 72 #[.int .i64 n] w fun e w' => e = .returned (.int .i64 (szF n)) ∧ Below w.heap.size w w' := by
  have hn8 : (n : Int) < 8 := by omega
  go_enter Try.func72, Try.ntmps72
  go_wp2_with (go_at_call 91; refine basic_any.mono ?_; rintro e w1 ⟨v, rfl, HR, HB⟩; obtain ⟨b, off, cap, rfl, hc8, hcm, hz⟩ := sizes_of HR; have hz1 := hz n h1 h5; clear hz HR; have HB1 := Lib.hid HB; clear HB)
  go_ret
  exact ⟨rfl, HB1.out⟩
end
end Go.Proofs.Ytgemnmceflcpcaa
