/- The document's Key; symbols as they come in; a row appended to a room made for it. -/
import Derived.Test.YtgemnmceflcpcaaSbC
import Derived.Laws.MakeOwn
namespace Go.Proofs.Ytgemnmceflcpcaa
open Go Go.RowKit Go.Lib Go.Proofs.Ytgemnmceflcpcaa.Sy
set_option linter.unusedVariables false
set_option linter.unusedSimpArgs false
attribute [local go_sem ↓] exec_load_const exec_store_const exec_load_var exec_store_var exec_load_proc exec_store_proc exec_load_sym exec_store_sym
section
variable {w : World}
set_option maxHeartbeats 4000000 in
theorem rkey_any (s : Sm) {cv vv pv : Value} (hS : SmAt w s cv vv pv) {q : Bool} (hc : IsB q (smOk s)) :
    Calls Try.prog 14 #[.agg (scells s cv vv pv)] w fun e w' => e = .returned (keyV q s) ∧ Below w.heap.size w w' := by
  have c1 := hS.c.1.one
  have c2 := hS.v.1.one
  have c3 : pv.oneCell' = true := by obtain ⟨pvs, _, h, _⟩ := hS.p; exact h.one
  have HB0 := Lib.hid ((Below.refl w.heap.size w).alloc (Nat.le_refl _) (.cells (scells s cv vv pv) 26))
  have hl0 := load_blk Try.underlying26 rfl sz_sym (Blk.new w (scells s cv vv pv) 26) rfl
  cases q with
  | false =>
    have H1 := Lib.hid (rencode_no (w := w.alloc (.cells (scells s cv vv pv) 26)) s (hS.below HB0.out) (fun h => by cases hc.yes h))
    clear hS hc
    go_enter Try.func14, Try.ntmps14
    go_wp2_with (go_at_call 12; refine H1.out.mono ?_; rintro e w1 ⟨v1, rfl, _, hb1⟩; have HB1 := Lib.hid (HB0.out.trans (hb1.mono HB0.out.size)); clear hb1)
    go_ret2
    exact ⟨rfl, HB1.out⟩
  | true =>
    have hok := hc.iff.1 rfl
    have H1 := Lib.hid (rencode_yes (w := w.alloc (.cells (scells s cv vv pv) 26)) s (hS.below HB0.out) hok)
    have HO := Lib.hid (oct_sym hok)
    clear hS hc hok
    go_enter Try.func14, Try.ntmps14
    go_wp2_with (first
      | (go_at_call 41; refine (rsum_any HV1.out HO.out).mono ?_; rintro e w2 ⟨rfl, rfl⟩)
      | (go_at_call 12; refine H1.out.mono ?_; rintro e w1 ⟨v1, rfl, ho1, hb1⟩; have HB1 := Lib.hid (HB0.out.trans (hb1.mono HB0.out.size)); have HV1 := Lib.hid (own_bytes ho1); clear hb1 ho1))
    go_ret2
    exact ⟨rfl, HB1.out⟩
end
/-! Symbols as they come in: no more than a machine holds. -/
/-- A list as it comes in. -/
structure ArgL (v : Value) (n bytes : Nat) : Prop where
  none : ∀ c, v = .slice none n c → c = 0
  reach : n * bytes ≤ 140737488351232
theorem good_arg {w : World} {v : Value} {bs n : Nat} {es : List Gen.CT} {sz : Nat} {rows : List (List Value)} (h : Gen.Good w (.slice bs es) v) (hr : RowsAt w v sz rows) (hn : rows.length = n) : ArgL v n bs := by
  constructor
  · intro c e
    subst e
    generalize hv : Value.slice none n c = v at h
    cases h with
    | nil => injection hv
    | slice => injection hv with e1; cases e1
  · obtain ⟨A, len, cap, V, rfl, hl, hm, hb, _⟩ := h.slice_inv
    obtain ⟨A2, cap2, e, _⟩ := hr
    have hl2 : len = n := by injection e with e1 e2 e3; omega
    subst hl2
    have := Nat.mul_le_mul_right bs hl
    unfold reachBytes at hb
    omega
def ArgP (w : World) (fv : Value) (l : List Pr) : Prop :=
  ∃ pvs : List Value, pvs.length = l.length ∧ RowsAt w fv 3 (List.zipWith (fun p pv => (pcells p pv).toList) l pvs) ∧
    ∀ (k : Nat) (p : Pr) (pv : Value), l[k]? = some p → pvs[k]? = some pv → (p.name.size ≤ maxLen ∧ (Lit.int .i64 p.result).wf = true ∧ VrsAt w pv p.params) ∧ ArgL pv p.params.length 40
theorem ArgP.at {w : World} {fv : Value} {l : List Pr} (h : ArgP w fv l) : PrsAt w fv l := by
  obtain ⟨pvs, h1, h2, h3⟩ := h
  exact ⟨pvs, h1, h2, fun k p pv hp hv => (h3 k p pv hp hv).1⟩
/-- Symbols as they come in. -/
structure SmArg (w : World) (s : Sm) (cv vv pv : Value) : Prop where
  name : s.name.size ≤ maxLen
  c : CstsAt w cv s.consts
  v : VrsAt w vv s.vars
  p : ArgP w pv s.procs
  ca : ArgL cv s.consts.length 56
  va : ArgL vv s.vars.length 40
  pa : ArgL pv s.procs.length 48
theorem SmArg.at {w : World} {s : Sm} {cv vv pv : Value} (h : SmArg w s cv vv pv) : SmAt w s cv vv pv := ⟨h.name, h.c, h.v, h.p.at⟩
theorem good_argp {w : World} {v : Value} {bs : Nat} (h : Gen.Good w (.slice bs [.str, .slice 40 [.str, .int .i64, .int .i64, .bool, .bool], .int .i64]) v) : ∃ l, ArgP w v l := by
  obtain ⟨l, h1, h2⟩ := good_rows (α := Pr × Value) (P := fun x => (x.1.name.size ≤ maxLen ∧ (Lit.int .i64 x.1.result).wf = true ∧ VrsAt w x.2 x.1.params) ∧ ArgL x.2 x.1.params.length 40) (fun c => (pcells c.1 c.2).toList) h (by simp) (fun V g => by
    obtain ⟨s0, e0, g0⟩ := (g 0 _ rfl).str_inv
    obtain ⟨ps, hps⟩ := good_vars (g 1 _ rfl)
    have ha := good_arg (n := ps.length) (g 1 _ rfl) hps.1 (List.length_map _)
    obtain ⟨n2, e2, g2⟩ := (g 2 _ rfl).int_inv
    refine ⟨(⟨s0, ps, n2⟩, V 1), ⟨⟨reach_len g0, g2, hps⟩, ha⟩, rfl, fun j u hu => ?_⟩
    have hj : j < 3 := (List.getElem?_eq_some_iff.1 hu).1
    match j, hj with
    | 0, _ => rw [e0]; cases hu; rfl
    | 1, _ => cases hu; rfl
    | 2, _ => rw [e2]; cases hu; rfl)
  refine ⟨l.map (·.1), l.map (·.2), by rw [List.length_map, List.length_map], ?_, fun k p pv hp hv => ?_⟩
  · have e : List.zipWith (fun p pv => (pcells p pv).toList) (l.map (·.1)) (l.map (·.2)) = l.map fun c => (pcells c.1 c.2).toList := by
      rw [List.zipWith_map]; induction l with
      | nil => rfl
      | cons a l ih => simp [List.zipWith]
    rw [e]; exact h1
  · rw [List.getElem?_map, Option.map_eq_some_iff] at hp hv
    obtain ⟨x, hx, rfl⟩ := hp
    obtain ⟨y, hy, rfl⟩ := hv
    rw [hx] at hy; cases hy
    exact h2 x (List.mem_of_getElem? hx)
theorem good_symarg {w : World} {v : Value} (h : Gen.ArgGood w (.agg [.str, .slice 56 [.str, .int .i64, .int .i64, .str, .bool], .slice 40 [.str, .int .i64, .int .i64, .bool, .bool], .slice 48 [.str, .slice 40 [.str, .int .i64, .int .i64, .bool, .bool], .int .i64]]) v) : ∃ s cv vv pv, v = .agg (scells s cv vv pv) ∧ SmArg w s cv vv pv := by
  obtain ⟨cs, rfl, hl, hg⟩ := h
  match cs, hl with
  | [a, b, c, d], _ =>
    obtain ⟨s0, e0, g0⟩ := (hg 0 _ a rfl rfl).str_inv
    obtain ⟨lc, hc⟩ := good_consts (hg 1 _ b rfl rfl)
    obtain ⟨lv, hv⟩ := good_vars (hg 2 _ c rfl rfl)
    obtain ⟨lp, hp⟩ := good_argp (hg 3 _ d rfl rfl)
    subst e0
    refine ⟨⟨s0, lc, lv, lp⟩, b, c, d, rfl, reach_len g0, hc, hv, hp, good_arg (hg 1 _ b rfl rfl) hc.1 (List.length_map _), good_arg (hg 2 _ c rfl rfl) hv.1 (List.length_map _), ?_⟩
    obtain ⟨pvs, h1, h2, _⟩ := hp
    exact good_arg (hg 3 _ d rfl rfl) h2 (by rw [List.length_zipWith, h1, Nat.min_self])
/-! A room made, a row appended to it. -/
theorem mk_rows (t e : TypeId) (z : Value) (sz bytes : Nat) (ht : Try.prog.underlying t = some (.slice e)) (hinfo : (Try.prog.info? e).map (fun i => (i.zero, i.size, i.bytes)) = some (some z, sz, bytes)) (l c : Nat) (hlc : l ≤ c) (hb : bytes * c ≤ 281474976710656) (h63 : c ≤ 9223372036854775807) (w : World) :
    (Instr.makeSlice t (.int .i64 (l : Int)) (.int .i64 (c : Int))).run Try.prog w = .ok (.slice (some ⟨w.heap.size, 0, none⟩) l c) (w.alloc (.cells (madeCells z.cells (c * sz)) e)) := by
  obtain ⟨i, hi, hz, hs, hby⟩ := info_parts hinfo
  have hbb : (i.bytes : Int) * (c : Int) ≤ 281474976710656 := by
    have h : ((bytes * c : Nat) : Int) ≤ 281474976710656 := by omega
    rw [hby]; rwa [Int.natCast_mul] at h
  have := run_make (P := Try.prog) w t e i z ht hi hz .i64 .i64 (l : Int) (c : Int) (by omega) (by omega) hbb (by omega)
  rw [Int.toNat_natCast, Int.toNat_natCast, hs] at this
  exact this
theorem flat_inv {sz : Nat} (hsz : 0 < sz) : ∀ {rows : List (List Value)}, (∀ r ∈ rows, r.length = sz) → ∀ (j : Nat) (u : Value), rows.flatten[j]? = some u → ∃ k r i, rows[k]? = some r ∧ r[i]? = some u ∧ j = k * sz + i
  | [], _, j, u, h => by simp at h
  | r :: rows, hr, j, u, h => by
    have hl := hr r (List.mem_cons_self ..)
    rw [List.flatten_cons] at h
    by_cases hj : j < r.length
    · rw [List.getElem?_append_left hj] at h
      exact ⟨0, r, j, rfl, h, by omega⟩
    · rw [List.getElem?_append_right (by omega)] at h
      obtain ⟨k, r', i, h1, h2, h3⟩ := flat_inv hsz (fun x hx => hr x (List.mem_cons_of_mem _ hx)) _ u h
      exact ⟨k + 1, r', i, by rw [List.getElem?_cons_succ]; exact h1, h2, by rw [Nat.add_mul, Nat.one_mul]; omega⟩
/-- What lies behind a list that is appended. -/
theorem rows_news {w : World} {v : Value} {sz : Nat} {rows : List (List Value)} (hsz : 0 < sz) (hr : ∀ r ∈ rows, r.length = sz) (h : RowsAt w v sz rows) (hz : ∀ c, v = .slice none rows.length c → c = 0) :
    ∃ A c, v = .slice A rows.length c ∧ ((A = none ∧ rows.length = 0 ∧ c = 0) ∨ ∃ ad, A = some ad ∧ ∀ j u, rows.flatten[j]? = some u → w.cell? (ad.add j) = some u) := by
  obtain ⟨A, cap, rfl, h1, h2, h3⟩ := list_of h rfl
  refine ⟨A, cap, rfl, ?_⟩
  rcases h3 with h3 | ⟨b, off, rfl, hb, hc⟩
  · cases A with
    | none => exact .inl ⟨rfl, h3, hz cap rfl⟩
    | some ad => exact .inr ⟨ad, rfl, fun j u hj => by rw [List.length_eq_zero_iff.1 h3] at hj; simp at hj⟩
  · refine .inr ⟨_, rfl, fun j u hj => ?_⟩
    obtain ⟨k, r, i, hk, hi, rfl⟩ := flat_inv hsz hr j u hj
    rw [Addr.add_mid, ← Nat.add_assoc]
    exact hc k r hk i u hi
theorem run_room {w : World} {base : Nat} {t ty e : TypeId} {i : TypeInfo} {size : Nat} (ht : Try.prog.underlying t = some (.slice e)) (hi : Try.prog.info? e = some i) (hsz : i.size = size) {g cap : Nat} (hown : w.ownsRow base e size (.slice (some ⟨g, 0, none⟩) 0 cap) 0 [])
    {A : Option Addr} {m c : Nat} (news : List Value) (hl : news.length = m * size) (hA : (A = none ∧ m = 0 ∧ c = 0) ∨ ∃ ad, A = some ad ∧ ∀ j u, news[j]? = some u → w.cell? (ad.add j) = some u) (h1 : ∀ u ∈ news, u.oneCell' = true) (hroom : m ≤ cap) :
    ∃ w', (Builtin.append_ #[t, t] ty #[.slice (some ⟨g, 0, none⟩) 0 cap, .slice A m c]).run Try.prog w = .ok (.slice (some ⟨g, 0, none⟩) m cap) w' ∧ w'.ownsRow base e size (.slice (some ⟨g, 0, none⟩) m cap) m news ∧ Touch w w' [g] := by
  subst hsz
  rcases hA with ⟨rfl, rfl, rfl⟩ | ⟨ad, rfl, hn⟩
  · have hnil : news = [] := List.eq_nil_of_length_eq_zero (by rw [hl, Nat.zero_mul])
    subst hnil
    exact ⟨w, run_append_owned_none (P := Try.prog) (w := w) base t ty e i i.size ht hi _ 0 [] hown, hown, Touch.refl _ _⟩
  · rcases hown.2 with ⟨e0, _⟩ | ⟨g', cap', cur, e0, hb, hg, h3, h4, h5, h6⟩
    · cases e0
    · injection e0 with e1 e2 e3
      injection e1 with e1
      injection e1 with e1
      subst e1 e3
      have hfit : 0 * i.size + news.length ≤ cur.size := by rw [hl, h5, Nat.zero_mul, Nat.zero_add]; exact Nat.mul_le_mul_right _ hroom
      have := run_append_room (P := Try.prog) w t ty e i ht hi g 0 cap cur hg ad m c news hl hn h1 (by omega) hfit
      rw [Nat.zero_add] at this
      refine ⟨_, this, ⟨hl, .inr ⟨g, cap, _, rfl, hb, setRow_heap w g cur _ e _ hg, hroom, h4, ?_, ?_⟩⟩, Touch.row w g _⟩
      · simp only [List.size_toArray, List.length_append, List.length_take, List.length_drop, Array.length_toList]; omega
      · simp only [Nat.zero_mul, List.take_zero, List.nil_append, ← hl]
        exact List.take_left
/-- At a step of a region that draws. -/
theorem step_room {w : World} {ops : Array Oper} {o : Oper} {a : Act} {K : Act → World → Prop} {Q : Exit → Act → World → Prop} {E : Prop} (hgd : o.guard = none) (s x : Operand) (t : TypeId)
    (ho : o.op = .call { callee := .builtin .append, args := #[s, x], argTypes := #[t, t] }) {base : Nat} {e : TypeId} {i : TypeInfo} {size : Nat} (ht : Try.prog.underlying t = some (.slice e)) (hi : Try.prog.info? e = some i) (hsz : i.size = size) {g cap : Nat} (hs : a.eval s = .slice (some ⟨g, 0, none⟩) 0 cap) (hown : w.ownsRow base e size (.slice (some ⟨g, 0, none⟩) 0 cap) 0 [])
    {A : Option Addr} {m c : Nat} (hx : a.eval x = .slice A m c) (news : List Value) (hl : news.length = m * size) (hA : (A = none ∧ m = 0 ∧ c = 0) ∨ ∃ ad, A = some ad ∧ ∀ j u, news[j]? = some u → w.cell? (ad.add j) = some u) (h1 : ∀ u ∈ news, u.oneCell' = true) (hroom : m ≤ cap)
    (h : ∀ w', w'.ownsRow base e size (.slice (some ⟨g, 0, none⟩) m cap) m news → Touch w w' [g] → K (a.put o.dst (.slice (some ⟨g, 0, none⟩) m cap)) w') :
    if Region.wanted o (yielded ops a.tmps) = true then Oper.wp Try.prog o a w K Q else E := by
  have hw : Region.wanted o (yielded ops a.tmps) = true := by simp [Region.wanted, hgd]
  rw [if_pos hw]
  obtain ⟨w', hr, h2, h3⟩ := run_room (ty := o.type) ht hi hsz hown news hl hA h1 hroom
  unfold Oper.wp execOp
  simp only [ho, resolve, invoke, builtin, Sem.run_bind, Sem.run_pure, Result.andThen_ok, List.map_toArray, List.map_cons, List.map_nil, hs, hx, hr]
  exact h w' h2 h3
end Go.Proofs.Ytgemnmceflcpcaa
