/- Bytes laid: a copy, a number behind bytes. -/
import Derived.Test.YtgemnmceflcpcaaSyL
import Derived.WalkSpells
import Derived.Maps.AppendAt
import Derived.Lib.AppendStr
import Derived.Deep.AppendLies
import Derived.IntWalk
namespace Go.Proofs.Ytgemnmceflcpcaa
open Go Go.RowKit Go.Lib Go.Proofs.Ytgemnmceflcpcaa.Sy
set_option linter.unusedVariables false
set_option linter.unusedSimpArgs false
@[reducible] def encB (n : Int) : Value := .int .u8 n
theorem info_u8 : (Try.prog.info? 5).map (fun i => (i.zero, i.size, i.bytes)) = some (some (.int .u8 0), 1, 1) := by kernel_rfl
/-- A number's groups of seven bits, the lowest ahead. -/
def grps (n : Nat) : List Int := if h : n < 128 then [(n : Int)] else ((n % 128 + 128 : Nat) : Int) :: grps (n / 128)
termination_by n
decreasing_by omega
theorem grps_lt {n : Nat} (h : n < 128) : grps n = [(n : Int)] := by rw [grps, dif_pos h]
theorem grps_ge {n : Nat} (h : ¬ n < 128) : grps n = ((n % 128 + 128 : Nat) : Int) :: grps (n / 128) := by rw [grps, dif_neg h]
theorem orB_all : ((List.range 256).all fun n => bits .or .u8 ((n : Nat) : Int) 128 == ((n % 128 + 128 : Nat) : Int)) = true := by kernel_rfl
theorem orB (n : Nat) (hn : n < 256) : bits .or .u8 (n : Int) 128 = ((n % 128 + 128 : Nat) : Int) := by
  have := List.all_eq_true.1 orB_all n (List.mem_range.2 hn)
  exact eq_of_beq this
section
variable {w : World}
theorem grps_len : ∀ (k n : Nat), n < 128 ^ (k + 1) → (grps n).length ≤ k + 1
  | 0, n, h => by rw [grps_lt (by simpa using h)]; simp
  | k + 1, n, h => by
    by_cases hn : n < 128
    · rw [grps_lt hn]; simp
    · rw [grps_ge hn, List.length_cons]
      have := grps_len k (n / 128) (by rw [Nat.div_lt_iff_lt_mul (by decide)]; rw [Nat.pow_succ] at h; exact h)
      omega
theorem grps_len5 {n : Nat} (h : n < 4294967296) : (grps n).length ≤ 5 := grps_len 4 n (by omega)
/-- Bytes of the call's own, from block B on. -/
abbrev OwnB (w : World) (B : Nat) (v : Value) (l : List Int) : Prop := w.ownsRow B 5 1 v l.length (l.map encB)
set_option maxHeartbeats 4000000 in
set_option maxRecDepth 100000 in
theorem number_any {B : Nat} {v : Value} {l : List Int} (n : Nat) (hn : n < 4294967296) (hl : l.length ≤ 100000000) (hB : B ≤ w.heap.size) (hO : OwnB w B v l) :
    Calls Try.prog 93 #[v, .int .u32 n] w fun e w' => ∃ v', e = .returned v' ∧ OwnB w' B v' (l ++ grps n) ∧ Touch w w' v.ownBlock.toList := by
  have HO := Lib.hid hO
  clear hO
  go_enter Try.func93, Try.ntmps93
  obtain ⟨i0, hi, hz0, hz1, hz2⟩ := info_parts info_u8
  have HI := Lib.hid hi
  have HZ0 := Lib.hid hz0
  have HZ1 := Lib.hid hz1
  have HZ2 := Lib.hid hz2
  have HG5 := Lib.hid (grps_len5 hn)
  have HN := Lib.hid hn
  have HL := Lib.hid hl
  clear hi hz0 hz1 hz2 hn hl
  go_wp2_with fail
  go_loopw [0, 1] (fun u x wr => ∃ (m : Nat) (acc : List Int), x = .int .u32 m ∧ m ≤ n ∧ Hid (acc ++ grps m = l ++ grps n) ∧ Hid (OwnB wr B u acc) ∧ Hid (Touch w wr v.ownBlock.toList) ∧ Hid (∀ g, u.ownBlock = some g → g ∈ v.ownBlock.toList ∨ w.heap.size ≤ g)) (fun _ x _ => (intOf x).toNat)
  case atStart => exact ⟨n, l, rfl, Nat.le_refl _, Lib.hid rfl, HO, Lib.hid (Touch.refl _ _), Lib.hid (fun g hg => .inl (by rw [hg]; simp))⟩
  case round =>
    obtain ⟨m, acc, rfl, hm, HA, OWN, HT, HW⟩ := hrel
    have HAL := Lib.hid (show acc.length ≤ 100000005 from by have := congrArg List.length HA.out; have h5 := HG5.out; have hl := HL.out; simp only [List.length_append] at this; omega)
    by_cases hlt : m < 128
    · have hlt1 : (m : Int) < 128 := by omega
      have hm256 : (m : Int) % 256 = (m : Int) := by omega
      go_wp2_with (at_builtin; refine wpList_append_own_at _ rfl _ _ 30 rfl B 5 i0 (.int .u8 0) 1 1 Try.underlying30 HI.out HZ0.out HZ1.out HZ2.out rfl (by decide) _ _ _ rfl (World.ownsRow.alloc OWN.out _) ⟨wr.heap.size, 0, none⟩ 1 1 [.int .u8 (m : Int)] rfl rfl (cell_one_new _ _ _) (by simp [Value.oneCell']) ?c3 ?c4 ?c5 ?_)
      case c3 => have := HAL.out; unfold maxLen; omega
      case c4 => have := HAL.out; omega
      case c5 => have := HT.out.size; simp; omega
      intro v' w8 hown8 hgrow8 _ hblk8
      have T8 := Lib.hid (((Touch.alloc wr (.cells #[.int .u8 ((m : Int))] 5)).mono (r' := u0.ownBlock.toList) (fun g hg => by cases hg)).trans (Touch.of_grown hgrow8) (fun g hg _ => hg))
      have OWN8 := Lib.hid (show OwnB w8 B v' (acc ++ [(m : Int)]) by unfold OwnB; rw [List.length_append, List.map_append]; exact hown8)
      have HT8 := Lib.hid (HT.out.trans T8.out (fun g hg hlt => by
        simp only [Option.mem_toList, Option.mem_def] at hg
        rcases HW.out g hg with h | h
        · exact h
        · omega))
      have HBK := Lib.hid hblk8
      clear hown8 hgrow8 hblk8
      go_wp2_with fail
      go_ret
      refine ⟨v', rfl, ?_, HT8.out⟩
      rw [← HA.out, grps_lt hlt]
      exact OWN8.out
    · have hge : (128 : Int) ≤ (m : Int) := by omega
      have hob : bits .or .u8 ((m : Int) % 256) 128 = (m : Int) % 128 + 128 := by
        have h := orB (m % 256) (by omega)
        rw [show m % 256 % 128 = m % 128 from by omega] at h
        rw [show ((m % 256 : Nat) : Int) = (m : Int) % 256 from by omega, show ((m % 128 + 128 : Nat) : Int) = (m : Int) % 128 + 128 from by omega] at h
        exact h
      go_wp2_with (at_builtin; refine wpList_append_own_at _ rfl _ _ 30 rfl B 5 i0 (.int .u8 0) 1 1 Try.underlying30 HI.out HZ0.out HZ1.out HZ2.out rfl (by decide) _ _ _ rfl (World.ownsRow.alloc OWN.out _) ⟨wr.heap.size, 0, none⟩ 1 1 [.int .u8 ((m : Int) % 128 + 128)] rfl rfl (cell_one_new _ _ _) (by simp [Value.oneCell']) ?c3 ?c4 ?c5 ?_)
      case c3 => have := HAL.out; unfold maxLen; omega
      case c4 => have := HAL.out; omega
      case c5 => have := HT.out.size; simp; omega
      intro v' w8 hown8 hgrow8 _ hblk8
      have T8 := Lib.hid (((Touch.alloc wr (.cells #[.int .u8 ((m : Int) % 128 + 128)] 5)).mono (r' := u0.ownBlock.toList) (fun g hg => by cases hg)).trans (Touch.of_grown hgrow8) (fun g hg _ => hg))
      have OWN8 := Lib.hid (show OwnB w8 B v' (acc ++ [(m : Int) % 128 + 128]) by unfold OwnB; rw [List.length_append, List.map_append]; exact hown8)
      have HT8 := Lib.hid (HT.out.trans T8.out (fun g hg hlt => by
        simp only [Option.mem_toList, Option.mem_def] at hg
        rcases HW.out g hg with h | h
        · exact h
        · omega))
      have HBK := Lib.hid hblk8
      clear hown8 hgrow8 hblk8
      go_wp2_with fail
      go_roundw
      case rel => exact ⟨m / 128, acc ++ [(m : Int) % 128 + 128], by go_num, by omega, Lib.hid (by rw [← HA.out, grps_ge hlt, List.append_assoc]; congr 2), OWN8, HT8, Lib.hid (fun g hg => by
        rcases HBK.out with h | h
        · rw [h] at hg; exact HW.out g hg
        · rw [h] at hg; cases hg; right; have := HT.out.size; simp; omega)⟩
      case measure => simp [intOf]; omega
end
end Go.Proofs.Ytgemnmceflcpcaa
namespace Go.Proofs.Ytgemnmceflcpcaa
open Go Go.RowKit Go.Lib Go.Proofs.Ytgemnmceflcpcaa.Sy
set_option linter.unusedVariables false
set_option linter.unusedSimpArgs false
/-- A slice that reads as these bytes. -/
abbrev BytesAt (w : World) (v : Value) (l : List Int) : Prop := RowsAt w v 1 (l.map fun b => [encB b])
theorem flat_one (l : List Int) : (l.map fun b => [encB b]).flatten = l.map encB := by induction l with | nil => rfl | cons a l ih => simp [ih]
theorem own_bytes {w : World} {B : Nat} {v : Value} {l : List Int} (h : OwnB w B v l) : BytesAt w v l :=
  own_rows (B := B) (ty := 5) (fun r hr => by obtain ⟨b, _, rfl⟩ := List.mem_map.1 hr; rfl) (by rw [List.length_map, flat_one]; exact h)
theorem own_emptyB (w : World) (B : Nat) (hB : B ≤ w.heap.size) (t : TypeId) : (w.alloc (.cells #[] t)).ownsRow B t 1 (.slice (some ⟨w.heap.size, 0, none⟩) 0 0) 0 [] :=
  World.ownsRow_made w #[] 0 hB (by unfold maxLen; omega) rfl
/-- Bytes in new memory. -/
def NewB (l : List Int) (w : World) (e : Ending) (w' : World) : Prop := ∃ v, e = .returned v ∧ OwnB w' w.heap.size v l ∧ Below w.heap.size w w'
section
variable {w : World}
set_option maxHeartbeats 2000000 in
set_option maxRecDepth 100000 in
theorem clone_bytes {v : Value} {l : List Int} (hF : BytesAt w v l) (hl : l.length ≤ 100000000) :
    Calls Try.prog 76 #[v] w (NewB l w) := by
  obtain ⟨A, cap, rfl, hc1, hc2, hA⟩ := list_of hF (List.length_map _)
  have hq : ∀ W : World, (binOp .eql 30 (.slice A l.length cap) (.slice none 0 0)).run Try.prog W = .ok (.bool A.isNone) W := fun W => Lib.run_eql_slice_nil W _ _ _ _ _ _ _ Try.underlying30
  have HL := Lib.hid hl
  clear hF hl
  cases A with
  | none =>
    have hE : l = [] := by
      rcases hA with h | ⟨b, off, e, _⟩
      · exact List.length_eq_zero_iff.1 h
      · cases e
    subst hE
    have hq0 : ∀ W : World, (binOp .eql 30 (.slice none 0 cap) (.slice none 0 0)).run Try.prog W = .ok (.bool true) W := hq
    clear hq
    go_enter Try.func76, Try.ntmps76
    go_wp2_with fail
    go_ret
    exact ⟨_, rfl, World.ownsRow_nil _ _ _ _, Below.refl _ _⟩
  | some ad =>
    have hcell : ∀ j u, (l.map encB)[j]? = some u → w.cell? (ad.add j) = some u := fun j u hj => by
      rw [List.getElem?_map] at hj
      cases hx : l[j]? with
      | none => rw [hx] at hj; cases hj
      | some x =>
        rw [hx] at hj
        rcases hA with h | ⟨b, off, e, hb, hr⟩
        · have := (List.getElem?_eq_some_iff.1 hx).1; omega
        · cases e
          have := hr j [encB x] (by rw [List.getElem?_map, hx]; rfl) 0 u (by simpa using hj)
          rw [Addr.add_mid]; simpa using this
    obtain ⟨i0, hi, hz0, hz1, hz2⟩ := info_parts info_u8
    have HI := Lib.hid hi
    have HZ0 := Lib.hid hz0
    have HZ1 := Lib.hid hz1
    have HZ2 := Lib.hid hz2
    have HO := Lib.hid (own_emptyB w w.heap.size (Nat.le_refl _) 5)
    have HCE := Lib.hid hcell
    clear hi hz0 hz1 hz2 hcell hA
    go_enter Try.func76, Try.ntmps76
    go_wp2_with (at_builtin; go_must (refine wpList_append_own _ rfl _ _ 30 rfl w.heap.size 5 i0 (.int .u8 0) 1 1 Try.underlying30 HI.out HZ0.out HZ1.out HZ2.out rfl (by decide) _ _ _ rfl HO.out ad l.length cap (l.map encB) rfl (by simp) ?c1 ?c2 ?c3 ?c4 ?c5 ?_))
    case c1 => exact fun j u hj => (Touch.of_below ((Below.refl w.heap.size w).alloc (Nat.le_refl _) _) []).cell (HCE.out j u hj) (by simp)
    case c2 => exact fun u hu => by obtain ⟨b, _, rfl⟩ := List.mem_map.1 hu; rfl
    case c3 => have := HL.out; unfold maxLen; omega
    case c4 => have := HL.out; omega
    case c5 => simp
    intro v' w8 hown8 hgrow8 _
    have T8 := Touch.of_grown hgrow8
    have OWN8 := Lib.hid (show OwnB w8 w.heap.size v' l by simpa using hown8)
    have HB8 := Lib.hid (((Below.refl w.heap.size w).alloc (Nat.le_refl _) (.cells #[] 5)).trans (T8.below (by simp) (fun g hg => by simp [Value.ownBlock] at hg; omega)))
    clear hown8 hgrow8 T8 HO
    go_wp2_with fail
    go_ret
    exact ⟨v', rfl, OWN8.out, HB8.out⟩
theorem own_touch_below {w0 w w' : World} {v : Value} {l : List Int} (hO : OwnB w w0.heap.size v l) (hb : Below w0.heap.size w0 w) (hT : Touch w w' v.ownBlock.toList) : Below w0.heap.size w0 w' :=
  hb.trans (hT.below hb.size (fun g hg => by
    simp only [Option.mem_toList, Option.mem_def] at hg
    exact (own_lt hO g hg).2))
set_option maxHeartbeats 2000000 in
theorem putuint_any {v : Value} {l : List Int} (hF : BytesAt w v l) (n : Nat) (hn : n < 4294967296) (hl : l.length ≤ 100000000) :
    Calls Try.prog 77 #[v, .int .u32 n] w (NewB (l ++ grps n) w) := by
  have H1 := Lib.hid (clone_bytes hF hl)
  have H2 := Lib.hid (fun (w1 : World) (v1 : Value) (h : OwnB w1 w.heap.size v1 l) (hb : w.heap.size ≤ w1.heap.size) => number_any (w := w1) n hn hl hb h)
  clear hF hn hl
  go_enter Try.func77, Try.ntmps77
  go_wp2_with (first
    | (go_at_call 93; refine (H2.out w1 v1 HO1.out HB1.out.size).mono ?_; rintro e w2 ⟨v2, rfl, ho2, ht2⟩; have HO2 := Lib.hid ho2; have HB2 := Lib.hid (own_touch_below HO1.out HB1.out ht2); clear ho2 ht2)
    | (go_at_call 76; refine H1.out.mono ?_; rintro e w1 ⟨v1, rfl, ho1, hb1⟩; have HO1 := Lib.hid ho1; have HB1 := Lib.hid hb1; clear ho1 hb1))
  go_ret
  exact ⟨v2, rfl, HO2.out, HB2.out⟩
end
end Go.Proofs.Ytgemnmceflcpcaa
namespace Go.Proofs.Ytgemnmceflcpcaa
open Go Go.RowKit Go.Lib Go.Proofs.Ytgemnmceflcpcaa.Sy
set_option linter.unusedVariables false
set_option linter.unusedSimpArgs false
def strI (s : ByteArray) : List Int := s.data.toList.map fun b => (b.toNat : Int)
theorem strI_len (s : ByteArray) : (strI s).length = s.size := by unfold strI; simp
theorem strI_enc (s : ByteArray) : (strI s).map encB = strCells s := by unfold strI strCells encB; rw [List.map_map]; rfl
section
variable {w : World}
set_option maxHeartbeats 2000000 in
set_option maxRecDepth 100000 in
theorem text_own {B : Nat} {v : Value} {l : List Int} (s : ByteArray) (hs : s.size ≤ 1000) (hl : l.length ≤ 100000000) (hB : B ≤ w.heap.size) (hO : OwnB w B v l) :
    Calls Try.prog 75 #[v, .string s] w fun e w' => ∃ v', e = .returned v' ∧ OwnB w' B v' (l ++ grps s.size ++ strI s) ∧ Below B w w' := by
  have H1 := Lib.hid (number_any (w := w) s.size (by omega) hl hB hO)
  have HO := Lib.hid hO
  have HB := Lib.hid hB
  have HL := Lib.hid hl
  have hs1 : (s.size : Int) ≤ 1000 := by omega
  obtain ⟨i0, hi, hz0, hz1, hz2⟩ := info_parts info_u8
  have HI := Lib.hid hi
  have HZ0 := Lib.hid hz0
  have HZ1 := Lib.hid hz1
  have HZ2 := Lib.hid hz2
  have HG5 := Lib.hid (grps_len5 (n := s.size) (by omega))
  clear hi hz0 hz1 hz2 hO hB hl
  go_enter Try.func75, Try.ntmps75
  go_wp2_with (first
    | (at_builtin; go_must (refine wpList_append_own_string _ rfl _ _ 30 9 rfl B 5 i0 Try.underlying30 Try.underlying9 HI.out HZ0.out HZ1.out HZ2.out _ _ _ rfl HO1.out s rfl ?c3 ?c4 ?c5 ?_))
    | (go_at_call 93; refine H1.out.mono ?_; rintro e w1 ⟨v1, rfl, ho1, ht1⟩; have HO1 := Lib.hid ho1; have HT1 := Lib.hid ht1; clear ho1 ht1))
  case c3 => have := HL.out; have := HG5.out; simp only [List.length_append]; unfold maxLen; omega
  case c4 => have := HL.out; have := HG5.out; simp only [List.length_append]; omega
  case c5 => have := HT1.out.size; have := HB.out; omega
  intro v' w8 hown8 hgrow8 _
  have T8 := Touch.of_grown hgrow8
  have OWN8 := Lib.hid (show OwnB w8 B v' (l ++ grps s.size ++ strI s) by
    unfold OwnB
    rw [List.length_append, List.length_append, strI_len, List.map_append, List.map_append, strI_enc, List.append_assoc]
    exact hown8)
  have HB1 := Lib.hid (HT1.out.below HB.out (fun g hg => by
    simp only [Option.mem_toList, Option.mem_def] at hg
    exact (own_lt HO.out g hg).2))
  have HB8 := Lib.hid (HB1.out.trans (T8.below (Nat.le_trans HB.out HT1.out.size) (fun g hg => by
    simp only [Option.mem_toList, Option.mem_def] at hg
    exact (own_lt HO1.out g hg).2)))
  clear hown8 hgrow8 T8
  go_wp2_with fail
  go_ret
  exact ⟨v', rfl, OWN8.out, HB8.out⟩
set_option maxHeartbeats 2000000 in
theorem puttext_any {v : Value} {l : List Int} (hF : BytesAt w v l) (s : ByteArray) (hs : s.size ≤ 1000) (hl : l.length ≤ 100000000) :
    Calls Try.prog 29 #[v, .string s] w (NewB (l ++ grps s.size ++ strI s) w) := by
  have H1 := Lib.hid (clone_bytes hF hl)
  have H2 := Lib.hid (fun (w1 : World) (v1 : Value) (h : OwnB w1 w.heap.size v1 l) (hb : w.heap.size ≤ w1.heap.size) => text_own (w := w1) s hs hl hb h)
  clear hF hs hl
  go_enter Try.func29, Try.ntmps29
  go_wp2_with (first
    | (go_at_call 75; refine (H2.out w1 v1 HO1.out HB1.out.size).mono ?_; rintro e w2 ⟨v2, rfl, ho2, hb2⟩; have HO2 := Lib.hid ho2; have HB2 := Lib.hid (HB1.out.trans hb2); clear ho2 hb2)
    | (go_at_call 76; refine H1.out.mono ?_; rintro e w1 ⟨v1, rfl, ho1, hb1⟩; have HO1 := Lib.hid ho1; have HB1 := Lib.hid hb1; clear ho1 hb1))
  go_ret
  exact ⟨v2, rfl, HO2.out, HB2.out⟩
end
end Go.Proofs.Ytgemnmceflcpcaa
namespace Go.Proofs.Ytgemnmceflcpcaa
open Go Go.RowKit Go.Lib Go.Proofs.Ytgemnmceflcpcaa.Sy
set_option linter.unusedVariables false
set_option linter.unusedSimpArgs false
def howI (v : Vr) : Int := (if v.opn = true then 1 else 0) + (if v.ref = true then 2 else 0)
def parB (v : Vr) : List Int := [v.form, howI v]
theorem two_new (w : World) (a b : Value) (t : TypeId) (j : Nat) (u : Value) (hj : [a, b][j]? = some u) : (w.alloc (.cells #[a, b] t)).cell? (Addr.add ⟨w.heap.size, 0, none⟩ j) = some u :=
  new_cells w [a, b] t (by simp) j u hj
section
variable {w : World}
set_option maxHeartbeats 2000000 in
set_option maxRecDepth 100000 in
theorem putparam_own {B : Nat} {v : Value} {l : List Int} (x : Vr) (hx : plainF x.form) (hl : l.length ≤ 100000000) (hB : B ≤ w.heap.size) (hO : OwnB w B v l) :
    Calls Try.prog 36 #[v, .agg (vcells x)] w fun e w' => ∃ v', e = .returned v' ∧ OwnB w' B v' (l ++ parB x) ∧ Below B w w' := by
  obtain ⟨nm, fm, ln, op, rf⟩ := x
  obtain ⟨h1, h5⟩ := hx
  simp only at h1 h5
  have HO := Lib.hid hO
  have HB := Lib.hid hB
  have HL := Lib.hid hl
  obtain ⟨i0, hi, hz0, hz1, hz2⟩ := info_parts info_u8
  have HI := Lib.hid hi
  have HZ0 := Lib.hid hz0
  have HZ1 := Lib.hid hz1
  have HZ2 := Lib.hid hz2
  have hm : fm % 256 = fm := by omega
  have hb01 : bits .or .u8 0 1 = 1 := by kernel_rfl
  have hb02 : bits .or .u8 0 2 = 2 := by kernel_rfl
  have hb12 : bits .or .u8 1 2 = 3 := by kernel_rfl
  clear hi hz0 hz1 hz2 hO hB hl
  cases op with
  | true =>
    cases rf with
    | true =>
      have HOA := Lib.hid (World.ownsRow.alloc (World.ownsRow.alloc HO.out (.cells (vcells ⟨nm, fm, ln, true, true⟩) 73)) (.cells #[.int .u8 fm, .int .u8 3] 5))
      have TA := Lib.hid (((Touch.alloc w (.cells (vcells ⟨nm, fm, ln, true, true⟩) 73)).trans (Touch.alloc _ (.cells #[.int .u8 fm, .int .u8 3] 5)) (fun g hg _ => hg)).mono (r' := v.ownBlock.toList) (fun g hg => by cases hg))
      have hnew := two_new (w.alloc (.cells (vcells ⟨nm, fm, ln, true, true⟩) 73)) (.int .u8 fm) (.int .u8 3) 5
      simp only [World.size_alloc] at hnew
      have HNEW := Lib.hid hnew
      clear hnew
      go_enter Try.func36, Try.ntmps36
      go_wp2_with (at_builtin; go_must (refine wpList_append_own _ rfl _ _ 30 rfl B 5 i0 (.int .u8 0) 1 1 Try.underlying30 HI.out HZ0.out HZ1.out HZ2.out rfl (by decide) _ _ _ rfl HOA.out ⟨w.heap.size + 1, 0, none⟩ 2 2 [.int .u8 fm, .int .u8 3] rfl rfl HNEW.out ?c2 ?c3 ?c4 ?c5 ?_))
      case c2 => intro u hu; simp only [List.mem_cons, List.not_mem_nil, or_false] at hu; rcases hu with rfl | rfl <;> rfl
      case c3 => have := HL.out; unfold maxLen; omega
      case c4 => have := HL.out; omega
      case c5 => have := HB.out; simp; omega
      intro v' w8 hown8 hgrow8 _
      have T8 := Touch.of_grown hgrow8
      have OWN8 := Lib.hid (show OwnB w8 B v' (l ++ parB ⟨nm, fm, ln, true, true⟩) by
        unfold OwnB
        rw [List.length_append, List.map_append]
        exact hown8)
      have HB8 := Lib.hid ((TA.out.trans T8 (fun g hg _ => hg)).below HB.out (fun g hg => by
        simp only [Option.mem_toList, Option.mem_def] at hg
        exact (own_lt HO.out g hg).2))
      clear hown8 hgrow8 T8
      go_wp2_with fail
      go_ret
      exact ⟨v', rfl, OWN8.out, HB8.out⟩
    | false =>
      have HOA := Lib.hid (World.ownsRow.alloc (World.ownsRow.alloc HO.out (.cells (vcells ⟨nm, fm, ln, true, false⟩) 73)) (.cells #[.int .u8 fm, .int .u8 1] 5))
      have TA := Lib.hid (((Touch.alloc w (.cells (vcells ⟨nm, fm, ln, true, false⟩) 73)).trans (Touch.alloc _ (.cells #[.int .u8 fm, .int .u8 1] 5)) (fun g hg _ => hg)).mono (r' := v.ownBlock.toList) (fun g hg => by cases hg))
      have hnew := two_new (w.alloc (.cells (vcells ⟨nm, fm, ln, true, false⟩) 73)) (.int .u8 fm) (.int .u8 1) 5
      simp only [World.size_alloc] at hnew
      have HNEW := Lib.hid hnew
      clear hnew
      go_enter Try.func36, Try.ntmps36
      go_wp2_with (at_builtin; go_must (refine wpList_append_own _ rfl _ _ 30 rfl B 5 i0 (.int .u8 0) 1 1 Try.underlying30 HI.out HZ0.out HZ1.out HZ2.out rfl (by decide) _ _ _ rfl HOA.out ⟨w.heap.size + 1, 0, none⟩ 2 2 [.int .u8 fm, .int .u8 1] rfl rfl HNEW.out ?c2 ?c3 ?c4 ?c5 ?_))
      case c2 => intro u hu; simp only [List.mem_cons, List.not_mem_nil, or_false] at hu; rcases hu with rfl | rfl <;> rfl
      case c3 => have := HL.out; unfold maxLen; omega
      case c4 => have := HL.out; omega
      case c5 => have := HB.out; simp; omega
      intro v' w8 hown8 hgrow8 _
      have T8 := Touch.of_grown hgrow8
      have OWN8 := Lib.hid (show OwnB w8 B v' (l ++ parB ⟨nm, fm, ln, true, false⟩) by
        unfold OwnB
        rw [List.length_append, List.map_append]
        exact hown8)
      have HB8 := Lib.hid ((TA.out.trans T8 (fun g hg _ => hg)).below HB.out (fun g hg => by
        simp only [Option.mem_toList, Option.mem_def] at hg
        exact (own_lt HO.out g hg).2))
      clear hown8 hgrow8 T8
      go_wp2_with fail
      go_ret
      exact ⟨v', rfl, OWN8.out, HB8.out⟩
  | false =>
    cases rf with
    | true =>
      have HOA := Lib.hid (World.ownsRow.alloc (World.ownsRow.alloc HO.out (.cells (vcells ⟨nm, fm, ln, false, true⟩) 73)) (.cells #[.int .u8 fm, .int .u8 2] 5))
      have TA := Lib.hid (((Touch.alloc w (.cells (vcells ⟨nm, fm, ln, false, true⟩) 73)).trans (Touch.alloc _ (.cells #[.int .u8 fm, .int .u8 2] 5)) (fun g hg _ => hg)).mono (r' := v.ownBlock.toList) (fun g hg => by cases hg))
      have hnew := two_new (w.alloc (.cells (vcells ⟨nm, fm, ln, false, true⟩) 73)) (.int .u8 fm) (.int .u8 2) 5
      simp only [World.size_alloc] at hnew
      have HNEW := Lib.hid hnew
      clear hnew
      go_enter Try.func36, Try.ntmps36
      go_wp2_with (at_builtin; go_must (refine wpList_append_own _ rfl _ _ 30 rfl B 5 i0 (.int .u8 0) 1 1 Try.underlying30 HI.out HZ0.out HZ1.out HZ2.out rfl (by decide) _ _ _ rfl HOA.out ⟨w.heap.size + 1, 0, none⟩ 2 2 [.int .u8 fm, .int .u8 2] rfl rfl HNEW.out ?c2 ?c3 ?c4 ?c5 ?_))
      case c2 => intro u hu; simp only [List.mem_cons, List.not_mem_nil, or_false] at hu; rcases hu with rfl | rfl <;> rfl
      case c3 => have := HL.out; unfold maxLen; omega
      case c4 => have := HL.out; omega
      case c5 => have := HB.out; simp; omega
      intro v' w8 hown8 hgrow8 _
      have T8 := Touch.of_grown hgrow8
      have OWN8 := Lib.hid (show OwnB w8 B v' (l ++ parB ⟨nm, fm, ln, false, true⟩) by
        unfold OwnB
        rw [List.length_append, List.map_append]
        exact hown8)
      have HB8 := Lib.hid ((TA.out.trans T8 (fun g hg _ => hg)).below HB.out (fun g hg => by
        simp only [Option.mem_toList, Option.mem_def] at hg
        exact (own_lt HO.out g hg).2))
      clear hown8 hgrow8 T8
      go_wp2_with fail
      go_ret
      exact ⟨v', rfl, OWN8.out, HB8.out⟩
    | false =>
      have HOA := Lib.hid (World.ownsRow.alloc (World.ownsRow.alloc HO.out (.cells (vcells ⟨nm, fm, ln, false, false⟩) 73)) (.cells #[.int .u8 fm, .int .u8 0] 5))
      have TA := Lib.hid (((Touch.alloc w (.cells (vcells ⟨nm, fm, ln, false, false⟩) 73)).trans (Touch.alloc _ (.cells #[.int .u8 fm, .int .u8 0] 5)) (fun g hg _ => hg)).mono (r' := v.ownBlock.toList) (fun g hg => by cases hg))
      have hnew := two_new (w.alloc (.cells (vcells ⟨nm, fm, ln, false, false⟩) 73)) (.int .u8 fm) (.int .u8 0) 5
      simp only [World.size_alloc] at hnew
      have HNEW := Lib.hid hnew
      clear hnew
      go_enter Try.func36, Try.ntmps36
      go_wp2_with (at_builtin; go_must (refine wpList_append_own _ rfl _ _ 30 rfl B 5 i0 (.int .u8 0) 1 1 Try.underlying30 HI.out HZ0.out HZ1.out HZ2.out rfl (by decide) _ _ _ rfl HOA.out ⟨w.heap.size + 1, 0, none⟩ 2 2 [.int .u8 fm, .int .u8 0] rfl rfl HNEW.out ?c2 ?c3 ?c4 ?c5 ?_))
      case c2 => intro u hu; simp only [List.mem_cons, List.not_mem_nil, or_false] at hu; rcases hu with rfl | rfl <;> rfl
      case c3 => have := HL.out; unfold maxLen; omega
      case c4 => have := HL.out; omega
      case c5 => have := HB.out; simp; omega
      intro v' w8 hown8 hgrow8 _
      have T8 := Touch.of_grown hgrow8
      have OWN8 := Lib.hid (show OwnB w8 B v' (l ++ parB ⟨nm, fm, ln, false, false⟩) by
        unfold OwnB
        rw [List.length_append, List.map_append]
        exact hown8)
      have HB8 := Lib.hid ((TA.out.trans T8 (fun g hg _ => hg)).below HB.out (fun g hg => by
        simp only [Option.mem_toList, Option.mem_def] at hg
        exact (own_lt HO.out g hg).2))
      clear hown8 hgrow8 T8
      go_wp2_with fail
      go_ret
      exact ⟨v', rfl, OWN8.out, HB8.out⟩
end
end Go.Proofs.Ytgemnmceflcpcaa
namespace Go.Proofs.Ytgemnmceflcpcaa
open Go Go.RowKit Go.Lib Go.Proofs.Ytgemnmceflcpcaa.Sy
set_option linter.unusedVariables false
set_option linter.unusedSimpArgs false
attribute [local go_sem ↓] exec_load_const exec_store_const exec_load_var exec_store_var exec_load_proc exec_store_proc
def parsB (l : List Vr) : List Int := l.flatMap parB
theorem parsB_len (l : List Vr) : (parsB l).length = 2 * l.length := by
  induction l with
  | nil => rfl
  | cons a l ih => unfold parsB at ih ⊢; rw [List.flatMap_cons, List.length_append, ih]; simp [parB]; omega
theorem parsB_snoc (l : List Vr) (x : Vr) : parsB (l ++ [x]) = parsB l ++ parB x := by unfold parsB; simp
section
variable {w : World}
set_option maxHeartbeats 4000000 in
set_option maxRecDepth 100000 in
theorem row_param {v : Value} {l : List Int} {pv : Value} (ps : List Vr) (hF : BytesAt w v l) (hP : VrsAt w pv ps) (hp : ∀ x ∈ ps, plainF x.form) (hn : ps.length ≤ 200) (hl : l.length ≤ 50000000) :
    Calls Try.prog 32 #[v, pv, .func (.func 36) #[] #[]] w (NewB (l ++ grps ps.length ++ parsB ps) w) := by
  have H1 := Lib.hid (putuint_any hF ps.length (by omega) (by omega))
  obtain ⟨A, cap, rfl, hc1, hc2, hA⟩ := list_of hP.1 (List.length_map _)
  unfold maxLen at hc2
  have HA := Lib.hid hA
  have HP := Lib.hid hp
  have HL := Lib.hid hl
  have HG5 := Lib.hid (grps_len5 (n := ps.length) (by omega))
  have hn1 : (ps.length : Int) ≤ 200 := by omega
  clear hF hP hp hl hA
  go_enter Try.func32, Try.ntmps32
  go_wp2_with (go_at_call 77; refine H1.out.mono ?_; rintro e w1 ⟨v1, rfl, ho1, hb1⟩; have HO1 := Lib.hid ho1; have HB1 := Lib.hid hb1; clear ho1 hb1)
  go_loopw [0, 16] (fun u i wr => ∃ k : Nat, k ≤ ps.length ∧ i = .int .i64 k ∧ Hid (OwnB wr w.heap.size u (l ++ grps ps.length ++ parsB (ps.take k))) ∧ Hid (Below w.heap.size w wr)) (fun _ i _ => ps.length - (intOf i).toNat)
  case atStart => exact ⟨0, Nat.zero_le _, rfl, Lib.hid (by simpa [parsB] using HO1.out), HB1⟩
  case round =>
    obtain ⟨k, hk, rfl, HO, HB⟩ := hrel
    by_cases hlt : k < ps.length
    · obtain ⟨x, hx⟩ : ∃ x, ps[k]? = some x := ⟨ps[k], List.getElem?_eq_getElem hlt⟩
      rcases HA.out with hz | ⟨b, off, rfl, hb, hr⟩
      · omega
      have hrx := range_below (hr k (vcells x).toList (by rw [List.getElem?_map, hx]; rfl)) HB.out hb
      have hld := load_mid Try.underlying73 rfl sz_var hrx rfl
      have hst := store_blk_new wr zVar (vcells x) 73 sz_var rfl rfl (vcells_one x)
      have hl2 := load_blk Try.underlying73 rfl sz_var (Blk.new wr (vcells x) 73) rfl
      have H2 := Lib.hid (putparam_own (w := wr.alloc (.cells (vcells x) 73)) (B := w.heap.size) x (HP.out x (List.mem_of_getElem? hx)) (by
        have := HL.out; have := HG5.out
        simp only [List.length_append, parsB_len, List.length_take]; omega) (by have := HB.out.size; simp; omega) (World.ownsRow.alloc HO.out _))
      have HX := Lib.hid hx
      have hlt1 : (k : Int) < (ps.length : Int) := by omega
      have HB2 := Lib.hid (HB.out.alloc HB.out.size (.cells (vcells x) 73))
      clear hrx hr hx
      go_wp2_with (go_at_call 36; refine H2.out.mono ?_; rintro e w3 ⟨v3, rfl, ho3, hb3⟩; have HO3 := Lib.hid ho3; have HB3 := Lib.hid (HB2.out.trans hb3); clear ho3 hb3)
      go_roundw
      case rel => exact ⟨k + 1, by omega, by go_num, Lib.hid (by rw [take_snoc HX.out, parsB_snoc, ← List.append_assoc]; exact HO3.out), HB3⟩
      case measure => simp [intOf]; omega
    · obtain rfl : k = ps.length := by omega
      go_wp2_with fail
      go_ret
      exact ⟨_, rfl, by have := HO.out; rw [List.take_length] at this; exact this, HB.out⟩
end
end Go.Proofs.Ytgemnmceflcpcaa
namespace Go.Proofs.Ytgemnmceflcpcaa
open Go Go.RowKit Go.Lib Go.Proofs.Ytgemnmceflcpcaa.Sy
set_option linter.unusedVariables false
set_option linter.unusedSimpArgs false
theorem own_weak {w : World} {B B' : Nat} {v : Value} {l : List Int} (h : OwnB w B v l) (hB : B' ≤ B) : OwnB w B' v l := by
  refine ⟨h.1, ?_⟩
  rcases h.2 with h2 | ⟨g, cp, cur, e, h1, r⟩
  · exact .inl h2
  · exact .inr ⟨g, cp, cur, e, by omega, r⟩
theorem Touch.own {w w' : World} {r : List Nat} {B : Nat} {v : Value} {l : List Int} (h : OwnB w B v l) (T : Touch w w' r) (hn : ∀ g, v.ownBlock = some g → g ∉ r) : OwnB w' B v l := T.owns h hn
theorem own_below {w w' : World} {B : Nat} {v : Value} {l : List Int} (h : OwnB w B v l) (b : Below w.heap.size w w') : OwnB w' B v l := (Touch.of_below b []).owns h (fun g hg => by simp)
theorem ownB_push {w : World} {B : Nat} {v : Value} {l r : List Int} (h : w.ownsRow B 5 1 v (l.length + r.length) (l.map encB ++ r.map encB)) : OwnB w B v (l ++ r) := by
  unfold OwnB; rw [List.length_append, List.map_append]; exact h
/-- append at a step of a region that draws: bytes. -/
theorem step_appB {w : World} {ops : Array Oper} {o : Oper} {a : Act} {K : Act → World → Prop} {Q : Exit → Act → World → Prop} {E : Prop} (hgd : o.guard = none) (s x : Operand)
    (ho : o.op = .call { callee := .builtin .append, args := #[s, x], argTypes := #[30, 30] }) {B : Nat} {v : Value} {l : List Int} (r : List Int) (hs : a.eval s = v) (hO : OwnB w B v l)
    {ad : Addr} {m c : Nat} (hx : a.eval x = .slice (some ad) m c) (hm : r.length = m) (hnews : ∀ j u, (r.map encB)[j]? = some u → w.cell? (ad.add j) = some u) (h0 : 0 < m) (hl : l.length + m ≤ 1000000000) (hB : B ≤ w.heap.size)
    (h : ∀ v' w', OwnB w' B v' (l ++ r) → Touch w w' v.ownBlock.toList → K (a.put o.dst v') w') :
    if Region.wanted o (yielded ops a.tmps) = true then Oper.wp Try.prog o a w K Q else E := by
  obtain ⟨i0, hi, hz0, hz1, hz2⟩ := info_parts info_u8
  refine step_append_lies _ hgd s x 30 ho B 5 i0 (.int .u8 0) 1 1 Try.underlying30 hi hz0 hz1 hz2 rfl (by decide) v _ _ hs hO ad m c (r.map encB) hx (by rw [List.length_map, hm]; omega) hnews (fun u hu => by obtain ⟨b, _, rfl⟩ := List.mem_map.1 hu; rfl) h0 (by unfold maxLen; omega) (by omega) hB _ rfl ?_
  intro g cap w' hown hgrow _ _
  refine h _ w' (ownB_push ?_) (Touch.of_grown hgrow)
  rw [hm]; exact hown
/-- append in a region of one order: bytes. -/
theorem list_appB {w : World} {ops : Array Oper} {rest : List Oper} {o : Oper} {a : Act} {Q : Exit → Act → World → Prop} (hgd : o.guard = none) (s x : Operand)
    (ho : o.op = .call { callee := .builtin .append, args := #[s, x], argTypes := #[30, 30] }) {B : Nat} {v : Value} {l : List Int} (r : List Int) (hs : a.eval s = v) (hO : OwnB w B v l)
    {ad : Addr} {m c : Nat} (hx : a.eval x = .slice (some ad) m c) (hm : r.length = m) (hnews : ∀ j u, (r.map encB)[j]? = some u → w.cell? (ad.add j) = some u) (hl : l.length + m ≤ 1000000000) (hB : B ≤ w.heap.size)
    (h : ∀ v' w', OwnB w' B v' (l ++ r) → Touch w w' v.ownBlock.toList → (v' = .slice none 0 0 ↔ v = .slice none 0 0 ∧ m = 0) → wpList Try.prog ops Q rest (a.put o.dst v') w') : wpList Try.prog ops Q (o :: rest) a w := by
  obtain ⟨i0, hi, hz0, hz1, hz2⟩ := info_parts info_u8
  refine wpList_append_own _ hgd s x 30 ho B 5 i0 (.int .u8 0) 1 1 Try.underlying30 hi hz0 hz1 hz2 rfl (by decide) v _ _ hs hO ad m c (r.map encB) hx (by rw [List.length_map, hm]; omega) hnews (fun u hu => by obtain ⟨b, _, rfl⟩ := List.mem_map.1 hu; rfl) (by unfold maxLen; omega) (by omega) hB ?_
  intro v' w' hown hgrow hnil
  refine h v' w' (ownB_push ?_) (Touch.of_grown hgrow) hnil
  rw [hm]; exact hown
theorem own_touchB {w0 w w' : World} {v : Value} {l : List Int} (hO : OwnB w w0.heap.size v l) (hb : Below w0.heap.size w0 w) (hT : Touch w w' v.ownBlock.toList) : Below w0.heap.size w0 w' := own_touch_below hO hb hT
end Go.Proofs.Ytgemnmceflcpcaa
