/- Symbols are read from their bytes, from no longer or shorter ones: the law's walk. -/
import Derived.Test.YtgemnmceflcpcaaSdS
import Derived.Deep.DeepAppendWide
import Derived.Laws.AppendOwnNone
import Derived.Lib.JoinLaws
namespace Go.Proofs.Ytgemnmceflcpcaa
open Go Go.RowKit Go.Lib Go.Proofs.Ytgemnmceflcpcaa.Sy
set_option linter.unusedVariables false
set_option linter.unusedSimpArgs false
attribute [local go_sem ↓] exec_load_const exec_store_const exec_load_var exec_store_var exec_load_proc exec_store_proc exec_load_sym exec_store_sym
/-- append of bytes that came in, behind bytes of the call's own. -/
theorem list_appV {w : World} {ops : Array Oper} {rest : List Oper} {o : Oper} {a : Act} {Q : Exit → Act → World → Prop} (hgd : o.guard = none) (s x : Operand)
    (ho : o.op = .call { callee := .builtin .append, args := #[s, x], argTypes := #[30, 30] }) {B : Nat} {v : Value} {l r : List Int} (hs : a.eval s = v) (hO : OwnB w B v l)
    {A : Option Addr} {m c : Nat} (hx : a.eval x = .slice A m c) (hF : BytesAt w (.slice A m c) r) (hz : A = none → c = 0) (hl : l.length + r.length ≤ 200000000000000) (hB : B ≤ w.heap.size)
    (h : ∀ v' w', OwnB w' B v' (l ++ r) → Touch w w' v.ownBlock.toList → wpList Try.prog ops Q rest (a.put o.dst v') w') : wpList Try.prog ops Q (o :: rest) a w := by
  obtain ⟨i0, hi, hz0, hz1, hz2⟩ := info_parts info_u8
  obtain ⟨A', cap', e, h1, h2, hr⟩ := bytes_form hF
  cases e
  cases A with
  | none =>
    have hc := hz rfl
    subst hc
    have hr0 : r = [] := List.length_eq_zero_iff.1 (by omega)
    subst hr0
    refine wpList_append_own_none hgd s x 30 ho B 5 i0 1 Try.underlying30 hi v _ _ hs hO hx ?_
    exact h v w (by rw [List.append_nil]; exact hO) (Touch.refl w _)
  | some ad =>
    have hcell : ∀ j u, (r.map encB)[j]? = some u → w.cell? (ad.add j) = some u := fun j u hj => by
      rw [List.getElem?_map] at hj
      cases hx' : r[j]? with
      | none => rw [hx'] at hj; cases hj
      | some y =>
        rw [hx'] at hj; cases hj
        have hjl := (List.getElem?_eq_some_iff.1 hx').1
        obtain ⟨b, off, e, hb, hc⟩ := hr (by omega)
        cases e
        have := hc j hjl
        rw [Addr.add_mid, this]
        simp [encB, List.getD, hx']
    refine wpList_append_own_wide _ hgd s x 30 ho B 5 i0 (.int .u8 0) 1 1 Try.underlying30 hi hz0 hz1 hz2 rfl (by decide) v _ _ hs hO ad r.length c (r.map encB) hx (by rw [List.length_map]; omega) hcell (fun u hu => by obtain ⟨b, _, rfl⟩ := List.mem_map.1 hu; rfl) (by unfold maxLen; omega) (by omega) hB ?_
    intro v' w' hown hgrow _
    exact h v' w' (ownB_push hown) (Touch.of_grown hgrow)
theorem mk_roomB (c : Nat) (hc : c ≤ 140737488355328) (w : World) : (Instr.makeSlice 30 (.int .i64 0) (.int .i64 (c : Int))).run Try.prog w = .ok (.slice (some ⟨w.heap.size, 0, none⟩) 0 c) (w.alloc (.cells (madeCells #[.int .u8 0] c) 5)) :=
  run_make_room 30 5 (.int .u8 0) 1 Try.underlying30 info_u8 rfl .i64 .i64 c (by omega) (by omega) w
theorem roomB_own (w : World) (c : Nat) (hc : c ≤ maxLen) : OwnB (w.alloc (.cells (madeCells #[.int .u8 0] c) 5)) w.heap.size (.slice (some ⟨w.heap.size, 0, none⟩) 0 c) [] :=
  World.ownsRow_made w _ c (Nat.le_refl _) hc (by rw [size_madeCells]; omega)
theorem grps_one {n : Nat} (h : n < 128) : grps n = [(n : Int)] := grps_lt h
/-! What came in reads as symbols. -/
def strOf : Value → ByteArray | .string s => s | _ => ⟨#[]⟩
def boolOfV : Value → Bool | .bool b => b | _ => false
theorem good_rows {α : Type} {w : World} {v : Value} {bs : Nat} {es : List Gen.CT} {P : α → Prop} (f : α → List Value) (h : Gen.Good w (.slice bs es) v) (he : es ≠ [])
    (key : ∀ V : Nat → Value, (∀ (j : Nat) (ct : Gen.CT), es[j]? = some ct → Gen.Good w ct (V j)) → ∃ x : α, P x ∧ (f x).length = es.length ∧ ∀ (j : Nat) (u : Value), (f x)[j]? = some u → u = V j) :
    ∃ l : List α, RowsAt w v es.length (l.map f) ∧ ∀ x ∈ l, P x := by
  obtain ⟨A, len, cap, V, rfl, hl, hm, hb, hr⟩ := h.slice_inv
  have hk : ∀ i, i < len → ∃ x : α, P x ∧ (f x).length = es.length ∧ ∀ (j : Nat) (u : Value), (f x)[j]? = some u → u = V i j := fun i hi => key (V i) (fun j ct hj => hr.2 i j ct (by omega) hj)
  have hp : 0 < es.length := List.length_pos_iff.2 he
  have main : ∀ n, n ≤ len → ∃ l : List α, l.length = n ∧ ∀ i x, l[i]? = some x → P x ∧ (f x).length = es.length ∧ ∀ (j : Nat) (u : Value), (f x)[j]? = some u → u = V i j := fun n => by
    induction n with
    | zero => exact fun _ => ⟨[], rfl, fun i x h => by simp at h⟩
    | succ n ih =>
      intro hn
      obtain ⟨l, hl1, hl2⟩ := ih (by omega)
      obtain ⟨x, hx⟩ := hk n (by omega)
      refine ⟨l ++ [x], by rw [List.length_append, hl1]; rfl, fun i y hy => ?_⟩
      by_cases e : i < n
      · rw [List.getElem?_append_left (by omega)] at hy; exact hl2 i y hy
      · have hi := (List.getElem?_eq_some_iff.1 hy).1
        rw [List.length_append, hl1] at hi
        simp at hi
        obtain rfl : i = n := by omega
        rw [List.getElem?_append_right (by omega), hl1] at hy
        simp at hy
        rw [← hy]; exact hx
  obtain ⟨l, hl1, hl2⟩ := main len (Nat.le_refl _)
  refine ⟨l, ⟨A, cap, by rw [List.length_map, hl1], by rw [List.length_map, hl1]; exact hl, hm, fun k r hk => ?_⟩, fun x hx => ?_⟩
  · rw [List.getElem?_map, Option.map_eq_some_iff] at hk
    obtain ⟨x, hx, rfl⟩ := hk
    have hkl : k < len := by have := (List.getElem?_eq_some_iff.1 hx).1; omega
    obtain ⟨b, off, rfl, hlt, hc⟩ := hr.1 (by omega) hp
    refine ⟨b, off, rfl, hlt, fun j u hu => ?_⟩
    obtain ⟨_, h2, h3⟩ := hl2 k x hx
    have hj : j < es.length := by have := (List.getElem?_eq_some_iff.1 hu).1; omega
    rw [h3 j u hu, Nat.add_assoc]
    exact hc k j (by omega) hj
  · obtain ⟨i, hi⟩ := List.mem_iff_getElem?.1 hx
    exact (hl2 i x hi).1
theorem reach_len {n : Nat} (h : n ≤ reachBytes) : n ≤ maxLen := Nat.le_trans h (by unfold reachBytes maxLen; omega)
theorem good_consts {w : World} {v : Value} {bs : Nat} (h : Gen.Good w (.slice bs [.str, .int .i64, .int .i64, .str, .bool]) v) : ∃ l, CstsAt w v l := by
  obtain ⟨l, h1, h2⟩ := good_rows (P := CFit) (fun c => (ccells c).toList) h (by simp) (fun V g => by
    obtain ⟨s0, e0, g0⟩ := (g 0 _ rfl).str_inv
    obtain ⟨n1, e1, g1⟩ := (g 1 _ rfl).int_inv
    obtain ⟨n2, e2, g2⟩ := (g 2 _ rfl).int_inv
    obtain ⟨s3, e3, g3⟩ := (g 3 _ rfl).str_inv
    obtain ⟨b4, e4⟩ := (g 4 _ rfl).bool_inv
    refine ⟨⟨s0, n1, n2, s3, b4⟩, ⟨reach_len g0, reach_len g3, g1, g2⟩, rfl, fun j u hu => ?_⟩
    have hj : j < 5 := (List.getElem?_eq_some_iff.1 hu).1
    match j, hj with
    | 0, _ => rw [e0]; cases hu; rfl
    | 1, _ => rw [e1]; cases hu; rfl
    | 2, _ => rw [e2]; cases hu; rfl
    | 3, _ => rw [e3]; cases hu; rfl
    | 4, _ => rw [e4]; cases hu; rfl)
  exact ⟨l, h1, h2⟩
theorem good_vars {w : World} {v : Value} {bs : Nat} (h : Gen.Good w (.slice bs [.str, .int .i64, .int .i64, .bool, .bool]) v) : ∃ l, VrsAt w v l := by
  obtain ⟨l, h1, h2⟩ := good_rows (P := VFit) (fun c => (vcells c).toList) h (by simp) (fun V g => by
    obtain ⟨s0, e0, g0⟩ := (g 0 _ rfl).str_inv
    obtain ⟨n1, e1, g1⟩ := (g 1 _ rfl).int_inv
    obtain ⟨n2, e2, g2⟩ := (g 2 _ rfl).int_inv
    obtain ⟨b3, e3⟩ := (g 3 _ rfl).bool_inv
    obtain ⟨b4, e4⟩ := (g 4 _ rfl).bool_inv
    refine ⟨⟨s0, n1, n2, b3, b4⟩, ⟨reach_len g0, g1, g2⟩, rfl, fun j u hu => ?_⟩
    have hj : j < 5 := (List.getElem?_eq_some_iff.1 hu).1
    match j, hj with
    | 0, _ => rw [e0]; cases hu; rfl
    | 1, _ => rw [e1]; cases hu; rfl
    | 2, _ => rw [e2]; cases hu; rfl
    | 3, _ => rw [e3]; cases hu; rfl
    | 4, _ => rw [e4]; cases hu; rfl)
  exact ⟨l, h1, h2⟩
theorem good_procs {w : World} {v : Value} {bs bf : Nat} (h : Gen.Good w (.slice bs [.str, .slice bf [.str, .int .i64, .int .i64, .bool, .bool], .int .i64]) v) : ∃ l, PrsAt w v l := by
  obtain ⟨l, h1, h2⟩ := good_rows (α := Pr × Value) (P := fun x => x.1.name.size ≤ maxLen ∧ (Lit.int .i64 x.1.result).wf = true ∧ VrsAt w x.2 x.1.params) (fun c => (pcells c.1 c.2).toList) h (by simp) (fun V g => by
    obtain ⟨s0, e0, g0⟩ := (g 0 _ rfl).str_inv
    obtain ⟨ps, hps⟩ := good_vars (g 1 _ rfl)
    obtain ⟨n2, e2, g2⟩ := (g 2 _ rfl).int_inv
    refine ⟨(⟨s0, ps, n2⟩, V 1), ⟨reach_len g0, g2, hps⟩, rfl, fun j u hu => ?_⟩
    have hj : j < 3 := (List.getElem?_eq_some_iff.1 hu).1
    match j, hj with
    | 0, _ => rw [e0]; cases hu; rfl
    | 1, _ => cases hu; rfl
    | 2, _ => rw [e2]; cases hu; rfl)
  refine ⟨l.map (·.1), l.map (·.2), by rw [List.length_map, List.length_map], ?_, fun k p pv hp hv => ?_⟩
  · have e : List.zipWith (fun p pv => (pcells p pv).toList) (l.map (·.1)) (l.map (·.2)) = l.map fun c => (pcells c.1 c.2).toList := by
      rw [List.zipWith_map]; induction l with
      | nil => rfl
      | cons a l ih => simp [List.zipWith]
    rw [e]; exact h1
  · rw [List.getElem?_map, Option.map_eq_some_iff] at hp hv
    obtain ⟨x, hx, rfl⟩ := hp
    obtain ⟨y, hy, rfl⟩ := hv
    rw [hx] at hy; cases hy
    exact h2 x (List.mem_of_getElem? hx)
theorem good_sym {w : World} {v : Value} (h : Gen.ArgGood w (.agg [.str, .slice 56 [.str, .int .i64, .int .i64, .str, .bool], .slice 40 [.str, .int .i64, .int .i64, .bool, .bool], .slice 48 [.str, .slice 40 [.str, .int .i64, .int .i64, .bool, .bool], .int .i64]]) v) : ∃ s cv vv pv, v = .agg (scells s cv vv pv) ∧ SmAt w s cv vv pv := by
  obtain ⟨cs, rfl, hl, hg⟩ := h
  match cs, hl with
  | [a, b, c, d], _ =>
    obtain ⟨s0, e0, g0⟩ := (hg 0 _ a rfl rfl).str_inv
    obtain ⟨lc, hc⟩ := good_consts (hg 1 _ b rfl rfl)
    obtain ⟨lv, hv⟩ := good_vars (hg 2 _ c rfl rfl)
    obtain ⟨lp, hp⟩ := good_procs (hg 3 _ d rfl rfl)
    subst e0
    exact ⟨⟨s0, lc, lv, lp⟩, b, c, d, rfl, reach_len g0, hc, hv, hp⟩
end Go.Proofs.Ytgemnmceflcpcaa
