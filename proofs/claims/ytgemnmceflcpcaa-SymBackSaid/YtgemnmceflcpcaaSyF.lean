/- The size of a plain form. -/
import Derived.Test.YtgemnmceflcpcaaSyE
namespace Go.Proofs.Ytgemnmceflcpcaa
open Go Go.RowKit Go.Lib Go.Proofs.Ytgemnmceflcpcaa.Sy
set_option linter.unusedVariables false
set_option linter.unusedSimpArgs false
theorem exec_load_type (ρ : Operand → Value) (dst : Option Tmp) (x : Operand) (ty' : TypeId) (pos : String) (after : Array Edge) (guard : Option (Nat × Bool)) :
    execOp ρ ⟨dst, .load 94 x, ty', pos, after, guard⟩ = (do pure (.value (← loadWhole 94 (ρ x)))) := rfl
theorem exec_store_type (ρ : Operand → Value) (dst : Option Tmp) (x y : Operand) (ty' : TypeId) (pos : String) (after : Array Edge) (guard : Option (Nat × Bool)) :
    execOp ρ ⟨dst, .store 94 x y, ty', pos, after, guard⟩ = (do storeWhole 94 (ρ x) (ρ y); pure .skip) := rfl
attribute [local go_sem ↓] exec_load_const exec_store_const exec_load_var exec_store_var exec_load_proc exec_store_proc exec_load_type exec_store_type
attribute [local go_sem] ccells vcells pcells
theorem info_type : (Try.prog.info? 94).map (fun i => (i.zero, i.size, i.bytes)) = some (some (.agg #[.int .i64 0, .int .i64 0, .int .i64 0, .int .i64 0, .slice none 0 0, .int .i64 0, .int .i64 0]), 7, 72) := by kernel_rfl
def basicSz : List Int := [0, 4, 1, 1, 1, 4, 4, 0]
def bRow (i : Nat) : List Value := [.int .i64 i, .int .i64 0, .int .i64 0, .int .i64 0, .slice none 0 0, .int .i64 (basicSz.getD i 0), .int .i64 0]
def bRows (k : Nat) : List (List Value) := (List.range k).map bRow
theorem bRows_length (k : Nat) : (bRows k).length = k := by unfold bRows; simp
theorem bRows_succ (k : Nat) : bRows (k + 1) = bRows k ++ [bRow k] := by unfold bRows; rw [List.range_succ, List.map_append]; rfl
theorem bRows_seven (k : Nat) : ∀ r ∈ bRows k, r.length = 7 := fun r hr => by
  unfold bRows at hr
  obtain ⟨i, _, rfl⟩ := List.mem_map.1 hr; rfl
theorem own_lt {w : World} {base : Nat} {e : TypeId} {size : Nat} {v : Value} {n : Nat} {xs : List Value} (h : w.ownsRow base e size v n xs) (g : Nat) (hg : v.ownBlock = some g) : g < w.heap.size ∧ base ≤ g := by
  have := h.lt g hg; exact ⟨this.2, this.1⟩
theorem new_cells (w : World) (l : List Value) (t : TypeId) (h0 : 0 < l.length) (j : Nat) (u : Value) (hj : l[j]? = some u) : (w.alloc (.cells l.toArray t)).cell? (Addr.add ⟨w.heap.size, 0, none⟩ j) = some u := by
  have := (Blk.new w l.toArray t).cell j
  rw [Addr.add_mid, Nat.zero_add, this]
  simpa using hj
theorem one_seven (a b c d e f g : Value) (ha : a.oneCell' = true) (hb : b.oneCell' = true) (hc : c.oneCell' = true) (hd : d.oneCell' = true) (he : e.oneCell' = true) (hf : f.oneCell' = true) (hg : g.oneCell' = true) : ∀ u ∈ [a, b, c, d, e, f, g], u.oneCell' = true := by
  intro u hu
  simp only [List.mem_cons, List.not_mem_nil, or_false] at hu
  rcases hu with rfl | rfl | rfl | rfl | rfl | rfl | rfl <;> assumption
/-- The first eight types lie behind one another. -/
def BasicPost (w : World) (e : Ending) (w' : World) : Prop := ∃ v, e = .returned v ∧ RowsAt w' v 7 (bRows 8) ∧ Below w.heap.size w w'
section
variable {w : World}
set_option maxHeartbeats 4000000 in
theorem basic_any : Calls Try.prog 91 #[] w (BasicPost w) := by
  obtain ⟨i0, hi, hz0, hz1, hz2⟩ := info_parts info_type
  have HI := Lib.hid hi
  have HZ0 := Lib.hid hz0
  have HZ1 := Lib.hid hz1
  have HZ2 := Lib.hid hz2
  clear hi hz0 hz1 hz2
  go_enter Try.func91, Try.ntmps91
  go_wp2_with fail
  have hb0 := Lib.hid (Blk.new w #[.int .i64 0, .int .i64 4, .int .i64 1, .int .i64 1, .int .i64 1, .int .i64 4, .int .i64 4, .int .i64 0] 3)
  have hB0 := Lib.hid ((Below.refl w.heap.size w).alloc (Nat.le_refl _) (.cells #[.int .i64 0, .int .i64 4, .int .i64 1, .int .i64 1, .int .i64 1, .int .i64 4, .int .i64 4, .int .i64 0] 3))
  go_loopw [1, 6] (fun v i wr => ∃ k : Nat, k ≤ 8 ∧ i = .int .i64 k ∧ Hid (wr.ownsRow (w.heap.size + 1) 94 7 v (bRows k).length (bRows k).flatten) ∧ Hid (Blk wr w.heap.size #[.int .i64 0, .int .i64 4, .int .i64 1, .int .i64 1, .int .i64 1, .int .i64 4, .int .i64 4, .int .i64 0] 3) ∧ Hid (Below w.heap.size w wr)) (fun _ i _ => 8 - (intOf i).toNat)
  case atStart => exact ⟨0, by omega, rfl, World.ownsRow_nil _ _ _ _, hb0, hB0⟩
  case round =>
    obtain ⟨k, hk, rfl, OWN, KB, HB⟩ := hrel
    clear hb0 hB0
    by_cases hlt : k < 8
    · have hc : wr.cell? ⟨w.heap.size, k, none⟩ = some (.int .i64 (basicSz.getD k 0)) := by
        rw [KB.out.cell k]
        match k, hlt with
        | 0, _ => rfl
        | 1, _ => rfl
        | 2, _ => rfl
        | 3, _ => rfl
        | 4, _ => rfl
        | 5, _ => rfl
        | 6, _ => rfl
        | 7, _ => rfl
      obtain ⟨z, hz⟩ : ∃ z, basicSz.getD k 0 = z := ⟨_, rfl⟩
      rw [hz] at hc
      have HZE := Lib.hid hz
      clear hz
      have hlt2 : (k : Int) < 8 := by omega
      go_wp2_with (at_builtin; refine wpList_append_own _ rfl _ _ 40 rfl (w.heap.size + 1) 94 i0 (.agg #[.int .i64 0, .int .i64 0, .int .i64 0, .int .i64 0, .slice none 0 0, .int .i64 0, .int .i64 0]) 7 72 Try.underlying40 HI.out HZ0.out HZ1.out HZ2.out rfl (by decide) _ _ _ rfl (OWN.out.alloc _) ⟨wr.heap.size, 0, none⟩ 1 1 [.int .i64 k, .int .i64 0, .int .i64 0, .int .i64 0, .slice none 0 0, .int .i64 z, .int .i64 0] rfl rfl ?c1 ?c2 ?c3 ?c4 ?c5 ?_)
      case c1 => exact new_cells wr _ _ (List.length_pos_of_mem (List.mem_cons_self ..))
      case c2 => exact one_seven _ _ _ _ _ _ _ rfl rfl rfl rfl rfl rfl rfl
      case c3 => rw [bRows_length]; unfold maxLen; omega
      case c4 => rw [bRows_length]; omega
      case c5 => have := KB.out.lt; simp; omega
      intro v' w8 hown8 hgrow8 _
      have hno : w.heap.size ∉ u1.ownBlock.toList := fun hm => by
        simp only [Option.mem_toList, Option.mem_def] at hm
        have := own_lt OWN.out _ hm
        omega
      have T8 := ((Touch.of_below ((Below.refl _ wr).alloc (Nat.le_refl _) _) u1.ownBlock.toList).trans (Touch.of_grown hgrow8) (fun g hg _ => hg))
      have KB8 := Lib.hid (T8.blk KB.out hno)
      have HB8 := Lib.hid (HB.out.trans (T8.below HB.out.size (fun g hg => by
        simp only [Option.mem_toList, Option.mem_def] at hg
        have := own_lt OWN.out _ hg
        omega)))
      have OWN8 := Lib.hid (show w8.ownsRow (w.heap.size + 1) 94 7 v' (bRows (k + 1)).length (bRows (k + 1)).flatten by
        rw [bRows_succ, List.length_append, List.flatten_append]
        unfold bRow
        rw [HZE.out]
        simpa using hown8)
      clear hown8 hgrow8 T8 hno OWN KB HB HZE
      go_wp2_with fail
      go_roundw
      case rel => exact ⟨k + 1, by omega, by go_num, OWN8, KB8, HB8⟩
      case measure => simp [intOf]; omega
    · obtain rfl : k = 8 := by omega
      have HT := Lib.hid (own_rows (bRows_seven 8) OWN.out)
      go_wp2_with fail
      go_ret
      exact ⟨u1, rfl, HT.out, HB.out⟩
end
end Go.Proofs.Ytgemnmceflcpcaa
