/- The names of symbols, one by one: the iterator. -/
import Derived.RangeFuncNested
import Derived.RangeFuncBound
import Derived.RangeFuncCalls
import Derived.RangeFuncLeaves
import Derived.Shelf.Abstract
import Derived.Shelf.RegionOpen
import Derived.WalkKit
import Derived.OwnWalkIn
import Derived.TacticsInMore
import Derived.LoopNIn
import Derived.LoopIn
import Derived.Test.YtgemnmceflcpcaaSyI
namespace Go.Proofs.Ytgemnmceflcpcaa
open Go Go.RowKit Go.Lib Go.Shelf Go.Proofs.Ytgemnmceflcpcaa.Sy
set_option linter.unusedVariables false
set_option linter.unusedSimpArgs false
attribute [local go_sem] Oper.semAt_some
attribute [local go_sem ↓] exec_load_const exec_store_const exec_load_var exec_store_var exec_load_proc exec_store_proc exec_load_sym exec_store_sym
/-- A text that a key may be. -/
abbrev Nm := { s : ByteArray // s.size ≤ maxLen }
theorem names_any {w : World} (s : Sm) (cv vv pv : Value) : Calls Try.prog 22 #[.agg (scells s cv vv pv)] w fun e w' => e = .returned (.func (.func 67) #[] #[.pointer (some ⟨w.heap.size, 0, none⟩)]) ∧ w' = w.alloc (.cells (scells s cv vv pv) 26) := by
  have hmf := hmf_sy
  go_enter Try.func22, Try.ntmps22
  go_wp2_with fail
  go_ret
  exact ⟨rfl, rfl⟩
/-- What a round keeps: what lay below h0; the symbols' box. -/
def KpN (h0 Bs : Nat) (W W' : World) : Prop := Below h0 W W' ∧ W'.heap[Bs]? = W.heap[Bs]?
theorem KpN.trans {h0 Bs : Nat} {A B C : World} (h : KpN h0 Bs A B) (k : KpN h0 Bs B C) : KpN h0 Bs A C := ⟨h.1.trans k.1, k.2.trans h.2⟩
theorem KpN.alloc {h0 Bs : Nat} (W : World) (o : Obj) (h : h0 ≤ W.heap.size) (hs : Bs < W.heap.size) : KpN h0 Bs W (W.alloc o) := ⟨(Below.refl h0 W).alloc h o, by rw [Below.heap_alloc W o Bs hs]⟩
theorem abides_alloc {β : Type} {B : Nat} {J : β → World → Prop} (h : AbidesFrom B J) {s : β} {W : World} (hs : J s W) (o : Obj) : J s (W.alloc o) := h s W _ none hs (World.grownBy_alloc W o none) (fun r e => by cases e)
theorem take_snoc {α : Type} {l : List α} {k : Nat} {x : α} (h : l[k]? = some x) : l.take (k + 1) = l.take k ++ [x] := by rw [List.take_add_one, h]; rfl
theorem take_app {α : Type} (l r : List α) (k : Nat) : l.take k ++ (l.drop k ++ r) = l ++ r := by rw [← List.append_assoc, List.take_append_drop]
theorem nm_at {l : List Nm} {L : List ByteArray} (h : l.map (·.1) = L) {k : Nat} {n : ByteArray} (hn : L[k]? = some n) : ∃ x : Nm, l[k]? = some x ∧ x.1 = n := by
  subst h
  rw [List.getElem?_map] at hn
  cases hx : l[k]? with
  | none => rw [hx] at hn; cases hn
  | some x => rw [hx] at hn; exact ⟨x, rfl, by simpa using hn⟩
theorem Blk.same {w w' : World} {g : Nat} {cs : Array Value} {t : TypeId} (h : Blk w g cs t) (e : w'.heap[g]? = w.heap[g]?) : Blk w' g cs t := e.trans h
set_option maxRecDepth 100000 in
set_option maxHeartbeats 4000000 in
theorem names1_in (n : Nat) (hn : 1 ≤ n) (l Bs : Nat) (w0 : World) (s : Sm) (cv vv pv : Value) (hS : SmAt w0 s cv vv pv) (xs1 xs2 xs3 : List Nm) (e1 : xs1.map (·.1) = s.consts.map Cst.name) (e2 : xs2.map (·.1) = s.vars.map Vr.name) (e3 : xs3.map (·.1) = s.procs.map Pr.name)
    (J Jx : List Nm → World → Prop) (W : World) (hJ : AbidesFrom W.heap.size J) (hJx : AbidesFrom W.heap.size Jx)
    (hY : ∀ pre x W1, J pre W1 → pre.length < (xs1 ++ xs2 ++ xs3).length → YieldAt Fence.wide (n - 1) Try.prog l #[.string x.1] W1 fun e W' =>
      (e = .returned (.bool true) ∧ J (pre ++ [x]) W' ∧ KpN w0.heap.size Bs W1 W') ∨ (e = .returned (.bool false) ∧ Jx (pre ++ [x]) W'))
    (hb : Below w0.heap.size w0 W) (hBs : Blk W Bs (scells s cv vv pv) 26) (h0 : J [] W) :
    CallsIn Fence.wide n Try.prog 67 #[.func (.yield l) #[] #[], .pointer (some ⟨Bs, 0, none⟩)] W fun e W' => (∃ v, e = .returned v) ∧
      ((∃ ys, ys = xs1 ++ xs2 ++ xs3 ∧ J ys W') ∨ (∃ pre, pre <+: xs1 ++ xs2 ++ xs3 ∧ Jx pre W')) := by
  obtain ⟨hnm, hC, hV, hP⟩ := hS
  obtain ⟨A1, cap1, rfl, c11, c12, R1⟩ := list_of hC.1 (List.length_map _)
  obtain ⟨A2, cap2, rfl, c21, c22, R2⟩ := list_of hV.1 (List.length_map _)
  obtain ⟨pvs, hpl, hrw, hpe⟩ := hP
  obtain ⟨A3, cap3, rfl, c31, c32, R3⟩ := list_of (n := s.procs.length) hrw (by rw [List.length_zipWith, hpl, Nat.min_self])
  have l1 : xs1.length = s.consts.length := by simpa using congrArg List.length e1
  have l2 : xs2.length = s.vars.length := by simpa using congrArg List.length e2
  have l3 : xs3.length = s.procs.length := by simpa using congrArg List.length e3
  unfold maxLen at c12 c22 c32
  have E1 := Lib.hid e1
  have E2 := Lib.hid e2
  have E3 := Lib.hid e3
  have R1 := Lib.hid R1
  have R2 := Lib.hid R2
  have R3 := Lib.hid R3
  have HPL := Lib.hid hpl
  have HPE := Lib.hid hpe
  have HJ := Lib.hid hJ
  have HY := Lib.hid hY
  have HB := Lib.hid hb
  have KB := Lib.hid hBs
  have H0 := Lib.hid h0
  clear hC hV hrw hpe hpl e1 e2 e3 hJ hJx hY hb hBs h0 hnm
  have x1 : W.cell? ⟨Bs, 1, none⟩ = some (.slice A1 s.consts.length cap1) := KB.out.cell 1
  refine callsIn_of_wp Try.func67 rfl trivial ?_ rfl
  simp only [Try.ntmps67, List.size_toArray, List.length_cons, List.length_nil, Nat.reduceAdd, Nat.reduceSub, Array.replicate_succ, Array.replicate_zero, List.push_toArray, List.append_toArray, List.nil_append, List.cons_append]
  gi_wp2
  gi_loopw [12] (fun u wr => ∃ k : Nat, k ≤ s.consts.length ∧ u = .int .i64 k ∧ Hid (J (xs1.take k) wr) ∧ Hid (Below w0.heap.size w0 wr) ∧ Hid (Blk wr Bs (scells s (.slice A1 s.consts.length cap1) (.slice A2 s.vars.length cap2) (.slice A3 s.procs.length cap3)) 26)) (fun u _ => s.consts.length - (intOf u).toNat)
  case atStart => exact ⟨0, Nat.zero_le _, rfl, H0, HB, KB⟩
  case round =>
    obtain ⟨k, hk, rfl, HJs, HBr, KBr⟩ := hrel
    by_cases hlt : k < s.consts.length
    · obtain ⟨x, hx⟩ : ∃ x, s.consts[k]? = some x := ⟨s.consts[k], List.getElem?_eq_getElem hlt⟩
      rcases R1.out with hz | ⟨b, off, rfl, hb, hr⟩
      · omega
      have hrx := range_below (hr k (ccells x).toList (by rw [List.getElem?_map, hx]; rfl)) HBr.out hb
      have hl := load_mid Try.underlying48 rfl sz_const hrx rfl
      have hst := store_blk_new wr #[.string ⟨#[]⟩, .int .i64 0, .int .i64 0, .string ⟨#[]⟩, .bool false] (ccells x) 48 sz_const rfl rfl (ccells_one x)
      obtain ⟨y, hy1, hy2⟩ := nm_at E1.out (k := k) (n := x.name) (by rw [List.getElem?_map, hx]; rfl)
      have hsz := HBr.out.size
      obtain ⟨fn, tmps, assign, body, hy, hR⟩ := HY.out _ y _ (abides_alloc HJ.out HJs.out (.cells (ccells x) 48)) (by simp only [List.length_append, List.length_take]; omega)
      rw [hy2] at hy
      have HR := Lib.hid hR
      have HKA := Lib.hid (KpN.alloc (h0 := w0.heap.size) (Bs := Bs) wr (.cells (ccells x) 48) hsz KBr.out.lt)
      have HY1 := Lib.hid hy1
      have HX := Lib.hid hx
      have hlt1 : (k : Int) < (s.consts.length : Int) := by omega
      clear hrx hr hR hy1 hy2 hx
      gi_wp2
      refine HR.out.mono ?_
      rintro e W3 (⟨rfl, hJ3, hk3⟩ | ⟨rfl, hJx3⟩)
      · have HJ3 := Lib.hid (show J (xs1.take (k + 1)) W3 by rw [take_snoc HY1.out]; simpa [List.append_assoc] using hJ3)
        have HK3 := Lib.hid (HKA.out.trans hk3)
        clear hJ3 hk3
        gi_wp2
        go_roundw
        case rel => exact ⟨k + 1, by omega, by go_num, HJ3, Lib.hid (HBr.out.trans HK3.out.1), Lib.hid (KBr.out.same HK3.out.2)⟩
        case measure => simp [intOf]; omega
      · gi_wp2
        refine bodyPost_ret (results_none rfl _ _ _) rfl ?_
        exact ⟨⟨_, rfl⟩, .inr ⟨xs1.take (k + 1), ⟨xs1.drop (k + 1) ++ xs2 ++ xs3, by simp only [List.append_assoc, take_app, List.take_append_drop]⟩, by rw [take_snoc HY1.out]; simpa [List.append_assoc] using hJx3⟩⟩
    · obtain rfl : k = s.consts.length := by omega
      have HJs1 := Lib.hid (show J (xs1) wr by have := HJs.out; rw [← l1, List.take_length] at this; exact this)
      have HB1 := HBr
      have KB1 := KBr
      clear HJs HBr KBr
      have x2 : wr.cell? ⟨Bs, 2, none⟩ = some (.slice A2 s.vars.length cap2) := KB1.out.cell 2
      gi_wp2
      gi_loopw [25] (fun u wr => ∃ k : Nat, k ≤ s.vars.length ∧ u = .int .i64 k ∧ Hid (J (xs1 ++ xs2.take k) wr) ∧ Hid (Below w0.heap.size w0 wr) ∧ Hid (Blk wr Bs (scells s (.slice A1 s.consts.length cap1) (.slice A2 s.vars.length cap2) (.slice A3 s.procs.length cap3)) 26)) (fun u _ => s.vars.length - (intOf u).toNat)
      case atStart => exact ⟨0, Nat.zero_le _, rfl, Lib.hid (by simpa using HJs1.out), HB1, KB1⟩
      case round =>
        obtain ⟨k, hk, rfl, HJs, HBr, KBr⟩ := hrel
        by_cases hlt : k < s.vars.length
        · obtain ⟨x, hx⟩ : ∃ x, s.vars[k]? = some x := ⟨s.vars[k], List.getElem?_eq_getElem hlt⟩
          rcases R2.out with hz | ⟨b, off, rfl, hb, hr⟩
          · omega
          have hrx := range_below (hr k (vcells x).toList (by rw [List.getElem?_map, hx]; rfl)) HBr.out hb
          have hl := load_mid Try.underlying73 rfl sz_var hrx rfl
          have hst := store_blk_new wr zVar (vcells x) 73 sz_var rfl rfl (vcells_one x)
          obtain ⟨y, hy1, hy2⟩ := nm_at E2.out (k := k) (n := x.name) (by rw [List.getElem?_map, hx]; rfl)
          have hsz := HBr.out.size
          obtain ⟨fn, tmps, assign, body, hy, hR⟩ := HY.out _ y _ (abides_alloc HJ.out HJs.out (.cells (vcells x) 73)) (by simp only [List.length_append, List.length_take]; omega)
          rw [hy2] at hy
          have HR := Lib.hid hR
          have HKA := Lib.hid (KpN.alloc (h0 := w0.heap.size) (Bs := Bs) wr (.cells (vcells x) 73) hsz KBr.out.lt)
          have HY1 := Lib.hid hy1
          have HX := Lib.hid hx
          have hlt1 : (k : Int) < (s.vars.length : Int) := by omega
          clear hrx hr hR hy1 hy2 hx
          gi_wp2
          refine HR.out.mono ?_
          rintro e W3 (⟨rfl, hJ3, hk3⟩ | ⟨rfl, hJx3⟩)
          · have HJ3 := Lib.hid (show J (xs1 ++ xs2.take (k + 1)) W3 by rw [take_snoc HY1.out]; simpa [List.append_assoc] using hJ3)
            have HK3 := Lib.hid (HKA.out.trans hk3)
            clear hJ3 hk3
            gi_wp2
            go_roundw
            case rel => exact ⟨k + 1, by omega, by go_num, HJ3, Lib.hid (HBr.out.trans HK3.out.1), Lib.hid (KBr.out.same HK3.out.2)⟩
            case measure => simp [intOf]; omega
          · gi_wp2
            refine bodyPost_ret (results_none rfl _ _ _) rfl ?_
            exact ⟨⟨_, rfl⟩, .inr ⟨xs1 ++ xs2.take (k + 1), ⟨xs2.drop (k + 1) ++ xs3, by simp only [List.append_assoc, take_app, List.take_append_drop]⟩, by rw [take_snoc HY1.out]; simpa [List.append_assoc] using hJx3⟩⟩
        · obtain rfl : k = s.vars.length := by omega
          have HJs2 := Lib.hid (show J (xs1 ++ xs2) wr by have := HJs.out; rw [← l2, List.take_length] at this; exact this)
          have HB2 := HBr
          have KB2 := KBr
          clear HJs HBr KBr
          have x3 : wr.cell? ⟨Bs, 3, none⟩ = some (.slice A3 s.procs.length cap3) := KB2.out.cell 3
          gi_wp2
          gi_loopw [38] (fun u wr => ∃ k : Nat, k ≤ s.procs.length ∧ u = .int .i64 k ∧ Hid (J (xs1 ++ xs2 ++ xs3.take k) wr) ∧ Hid (Below w0.heap.size w0 wr) ∧ Hid (Blk wr Bs (scells s (.slice A1 s.consts.length cap1) (.slice A2 s.vars.length cap2) (.slice A3 s.procs.length cap3)) 26)) (fun u _ => s.procs.length - (intOf u).toNat)
          case atStart => exact ⟨0, Nat.zero_le _, rfl, Lib.hid (by simpa using HJs2.out), HB2, KB2⟩
          case round =>
            obtain ⟨k, hk, rfl, HJs, HBr, KBr⟩ := hrel
            by_cases hlt : k < s.procs.length
            · obtain ⟨x, hx⟩ : ∃ x, s.procs[k]? = some x := ⟨s.procs[k], List.getElem?_eq_getElem hlt⟩
              rcases R3.out with hz | ⟨b, off, rfl, hb, hr⟩
              · omega
              obtain ⟨pv, hpv⟩ : ∃ pv, pvs[k]? = some pv := ⟨pvs[k]'(by have := HPL.out; omega), List.getElem?_eq_getElem _⟩
              have hp1 : pv.oneCell' = true := (HPE.out k x pv hx hpv).2.2.1.one
              have hrx := range_below (hr k (pcells x pv).toList (by rw [List.getElem?_zipWith, hx, hpv])) HBr.out hb
              have hl := load_mid Try.underlying63 rfl sz_proc hrx rfl
              have hst := store_blk_new wr #[.string ⟨#[]⟩, .slice none 0 0, .int .i64 0] (pcells x pv) 63 sz_proc rfl rfl (pcells_one x hp1)
              obtain ⟨y, hy1, hy2⟩ := nm_at E3.out (k := k) (n := x.name) (by rw [List.getElem?_map, hx]; rfl)
              have hsz := HBr.out.size
              obtain ⟨fn, tmps, assign, body, hy, hR⟩ := HY.out _ y _ (abides_alloc HJ.out HJs.out (.cells (pcells x pv) 63)) (by simp only [List.length_append, List.length_take]; omega)
              rw [hy2] at hy
              have HR := Lib.hid hR
              have HKA := Lib.hid (KpN.alloc (h0 := w0.heap.size) (Bs := Bs) wr (.cells (pcells x pv) 63) hsz KBr.out.lt)
              have HY1 := Lib.hid hy1
              have HX := Lib.hid hx
              have hlt1 : (k : Int) < (s.procs.length : Int) := by omega
              clear hrx hr hR hy1 hy2 hx hpv hp1
              gi_wp2
              refine HR.out.mono ?_
              rintro e W3 (⟨rfl, hJ3, hk3⟩ | ⟨rfl, hJx3⟩)
              · have HJ3 := Lib.hid (show J (xs1 ++ xs2 ++ xs3.take (k + 1)) W3 by rw [take_snoc HY1.out]; simpa [List.append_assoc] using hJ3)
                have HK3 := Lib.hid (HKA.out.trans hk3)
                clear hJ3 hk3
                gi_wp2
                go_roundw
                case rel => exact ⟨k + 1, by omega, by go_num, HJ3, Lib.hid (HBr.out.trans HK3.out.1), Lib.hid (KBr.out.same HK3.out.2)⟩
                case measure => simp [intOf]; omega
              · gi_wp2
                refine bodyPost_ret (results_none rfl _ _ _) rfl ?_
                exact ⟨⟨_, rfl⟩, .inr ⟨xs1 ++ xs2 ++ xs3.take (k + 1), ⟨xs3.drop (k + 1), by simp only [List.append_assoc, take_app, List.take_append_drop]⟩, by rw [take_snoc HY1.out]; simpa [List.append_assoc] using hJx3⟩⟩
            · obtain rfl : k = s.procs.length := by omega
              have HJs3 := Lib.hid (show J (xs1 ++ xs2 ++ xs3) wr by have := HJs.out; rw [← l3, List.take_length] at this; exact this)
              have HB3 := HBr
              have KB3 := KBr
              clear HJs HBr KBr
              gi_wp2
              go_end0
              exact ⟨⟨_, rfl⟩, .inl ⟨_, rfl, HJs3.out⟩⟩
end Go.Proofs.Ytgemnmceflcpcaa
