/- A module as it comes in; a list with one thing more ahead. -/
import Derived.Test.YtgemnmceflcpcaaShC
import Derived.Deep.DeepAppendWide
namespace Go.Proofs.Ytgemnmceflcpcaa
open Go Go.RowKit Go.Lib Go.Proofs.Ytgemnmceflcpcaa.Sy
set_option linter.unusedVariables false
set_option linter.unusedSimpArgs false
theorem OfAns.same {m : Md} {s s' : Sm} {e e' : Int} (h : OfAns m s e) (k : OfAns m s' e') : s = s' ∧ e = e' := by
  cases h with
  | vars h1 =>
    cases k with
    | vars => exact ⟨rfl, rfl⟩
    | procs vs h2 => rw [h1] at h2; cases h2
    | right vs ps h2 => rw [h1] at h2; cases h2
    | form vs ps h2 => rw [h1] at h2; cases h2
  | procs vs h1 h2 =>
    cases k with
    | vars k1 => rw [h1] at k1; cases k1
    | procs => exact ⟨rfl, rfl⟩
    | right vs ps k1 k2 => rw [h2] at k2; cases k2
    | form vs ps k1 k2 => rw [h2] at k2; cases k2
  | right vs ps h1 h2 h3 =>
    cases k with
    | vars k1 => rw [h1] at k1; cases k1
    | procs vs k1 k2 => rw [h2] at k2; cases k2
    | right vs' ps' k1 k2 => rw [h1] at k1; rw [h2] at k2; cases k1; cases k2; exact ⟨rfl, rfl⟩
    | form vs' ps' k1 k2 k3 => rw [h1] at k1; rw [h2] at k2; cases k1; cases k2; exact absurd h3 k3
  | form vs ps h1 h2 h3 =>
    cases k with
    | vars k1 => rw [h1] at k1; cases k1
    | procs vs k1 k2 => rw [h2] at k2; cases k2
    | right vs' ps' k1 k2 k3 => rw [h1] at k1; rw [h2] at k2; cases k1; cases k2; exact absurd k3 h3
    | form => exact ⟨rfl, rfl⟩
/-- What is not exported makes no difference. -/
theorem OfAns.hide {m : Md} {s : Sm} {e : Int} (h : OfAns m s e) {c : Cst} {v : Vd} {p : Pd} (hc : c.shown = false) (hv : v.shown = false) (hp : p.shown = false) : OfAns ⟨m.name, m.types, c :: m.consts, v :: m.vars, p :: m.procs⟩ s e := by
  have e1 : cshown (c :: m.consts) = cshown m.consts := by unfold cshown; rw [List.filter_cons_of_neg (by simp [hc])]
  have e2 : vshown (v :: m.vars) = vshown m.vars := by unfold vshown; rw [List.filter_cons_of_neg (by simp [hv])]
  have e3 : pshown (p :: m.procs) = pshown m.procs := by unfold pshown; rw [List.filter_cons_of_neg (by simp [hp])]
  cases h with
  | vars h1 => exact .vars (by rw [e2]; exact h1)
  | procs vs h1 h2 => exact .procs vs (by rw [e2]; exact h1) (by rw [e3]; exact h2)
  | right vs ps h1 h2 h3 =>
    have := OfAns.right (m := ⟨m.name, m.types, c :: m.consts, v :: m.vars, p :: m.procs⟩) vs ps (by rw [e2]; exact h1) (by rw [e3]; exact h2) (by simp only [e1]; exact h3)
    simp only [e1] at this
    exact this
  | form vs ps h1 h2 h3 => exact .form vs ps (by rw [e2]; exact h1) (by rw [e3]; exact h2) (by simp only [e1]; exact h3)
/-- append at a step of a region that draws, onto a row of the call's own, of whatever came in. -/
theorem step_wide {w : World} {ops : Array Oper} {o : Oper} {a : Act} {K : Act → World → Prop} {Q : Exit → Act → World → Prop} {E : Prop} (hgd : o.guard = none) (s x : Operand) (t : TypeId)
    (ho : o.op = .call { callee := .builtin .append, args := #[s, x], argTypes := #[t, t] }) (base : Nat) (e : TypeId) (z : Value) (size bytes : Nat) (ht : Try.prog.underlying t = some (.slice e)) (hinfo : (Try.prog.info? e).map (fun i => (i.zero, i.size, i.bytes)) = some (some z, size, bytes)) (hzs : z.cells.size = size) (hsz : 0 < size)
    {v : Value} {n : Nat} {xs : List Value} (hs : a.eval s = v) (hown : w.ownsRow base e size v n xs)
    {A : Option Addr} {m c : Nat} (hx : a.eval x = .slice A m c) (news : List Value) (hl : news.length = m * size) (hA : (A = none ∧ m = 0 ∧ c = 0) ∨ ∃ ad, A = some ad ∧ ∀ j u, news[j]? = some u → w.cell? (ad.add j) = some u) (h1 : ∀ u ∈ news, u.oneCell' = true)
    (h63 : n + m ≤ maxLen) (hbytes : ((n + m) + (n + m) / 4 + 192) * bytes ≤ 281474976710656) (hbase : base ≤ w.heap.size)
    (h : ∀ v' w', w'.ownsRow base e size v' (n + m) (xs ++ news) → Touch w w' v.ownBlock.toList → K (a.put o.dst v') w') :
    if Region.wanted o (yielded ops a.tmps) = true then Oper.wp Try.prog o a w K Q else E := by
  have hw : Region.wanted o (yielded ops a.tmps) = true := by simp [Region.wanted, hgd]
  rw [if_pos hw]
  obtain ⟨i, hi, hz, hsi, hby⟩ := info_parts hinfo
  rcases hA with ⟨rfl, rfl, rfl⟩ | ⟨ad, rfl, hn⟩
  · have hnil : news = [] := List.eq_nil_of_length_eq_zero (by rw [hl, Nat.zero_mul])
    subst hnil
    have hr := run_append_owned_none (P := Try.prog) (w := w) base t o.type e i size ht hi v n xs hown
    unfold Oper.wp execOp
    simp only [ho, resolve, invoke, builtin, Sem.run_bind, Sem.run_pure, Result.andThen_ok, List.map_toArray, List.map_cons, List.map_nil, hs, hx, hr]
    exact h v w (by rw [List.append_nil]; exact hown) (Touch.refl _ _)
  · exact wp_append_own_wide w s x t ho base e i z size bytes ht hi hz hsi hby hzs hsz v n xs hs hown ad m c news hx hl hn h1 h63 hbytes hbase (fun v' w' h2 h3 _ => h v' w' h2 (Touch.of_grown h3))
/-! Arguments. -/
theorem good_vds {w : World} {v : Value} {bs : Nat} (h : Gen.Good w (.slice bs [.str, .int .i64, .bool, .bool]) v) : ∃ l, VdsAt w v l := by
  obtain ⟨l, h1, h2⟩ := good_rows (P := fun c : Vd => c.name.size ≤ maxLen ∧ (Lit.int .i64 c.type).wf = true) (fun c => (vdcells c).toList) h (by simp) (fun V g => by
    obtain ⟨s0, e0, g0⟩ := (g 0 _ rfl).str_inv
    obtain ⟨n1, e1, g1⟩ := (g 1 _ rfl).int_inv
    obtain ⟨b2, e2⟩ := (g 2 _ rfl).bool_inv
    obtain ⟨b3, e3⟩ := (g 3 _ rfl).bool_inv
    refine ⟨⟨s0, n1, b2, b3⟩, ⟨reach_len g0, g1⟩, rfl, fun j u hu => ?_⟩
    have hj : j < 4 := (List.getElem?_eq_some_iff.1 hu).1
    match j, hj with
    | 0, _ => rw [e0]; cases hu; rfl
    | 1, _ => rw [e1]; cases hu; rfl
    | 2, _ => rw [e2]; cases hu; rfl
    | 3, _ => rw [e3]; cases hu; rfl)
  exact ⟨l, h1, h2⟩
theorem good_opq {w : World} {v : Value} (h : Gen.Good w .opq v) : v.oneCell' = true := by cases h; rfl
theorem good_slice_one {w : World} {v : Value} {bs : Nat} {es : List Gen.CT} (h : Gen.Good w (.slice bs es) v) : v.oneCell' = true := by
  generalize hk : Gen.CT.slice bs es = k at h
  cases h with
  | nil => rfl
  | slice => rfl
  | bool => cases hk
  | int => cases hk
  | str => cases hk
  | opq => cases hk
theorem good_pds {w : World} {v : Value} {bs : Nat} (h : Gen.Good w (.slice bs [.str, .bool, .int .i64, .slice 32 [.str, .int .i64, .bool, .bool], .int .i64, .opq, .opq]) v) : ∃ l, PdsAt w v l := by
  obtain ⟨l, h1, h2⟩ := good_rows (α := Pd × (Value × Value × Value)) (P := fun x => VdsAt w x.2.1 x.1.vars ∧ x.2.2.1.oneCell' = true ∧ x.2.2.2.oneCell' = true ∧ x.1.name.size ≤ maxLen) (fun c => (pdcells c.1 c.2.1 c.2.2.1 c.2.2.2).toList) h (by simp) (fun V g => by
    obtain ⟨s0, e0, g0⟩ := (g 0 _ rfl).str_inv
    obtain ⟨b1, e1⟩ := (g 1 _ rfl).bool_inv
    obtain ⟨n2, e2, g2⟩ := (g 2 _ rfl).int_inv
    obtain ⟨vs, hvs⟩ := good_vds (g 3 _ rfl)
    obtain ⟨n4, e4, g4⟩ := (g 4 _ rfl).int_inv
    refine ⟨(⟨s0, b1, n2, vs, n4⟩, (V 3, V 5, V 6)), ⟨hvs, good_opq (g 5 _ rfl), good_opq (g 6 _ rfl), reach_len g0⟩, rfl, fun j u hu => ?_⟩
    have hj : j < 7 := (List.getElem?_eq_some_iff.1 hu).1
    match j, hj with
    | 0, _ => rw [e0]; cases hu; rfl
    | 1, _ => rw [e1]; cases hu; rfl
    | 2, _ => rw [e2]; cases hu; rfl
    | 3, _ => cases hu; rfl
    | 4, _ => rw [e4]; cases hu; rfl
    | 5, _ => cases hu; rfl
    | 6, _ => cases hu; rfl)
  refine ⟨l.map (·.1), l.map (·.2), by rw [List.length_map, List.length_map], ?_, fun k p x hp hx => ?_⟩
  · have e : List.zipWith (fun p x => (pdcells p x.1 x.2.1 x.2.2).toList) (l.map (·.1)) (l.map (·.2)) = l.map fun c => (pdcells c.1 c.2.1 c.2.2.1 c.2.2.2).toList := by
      rw [List.zipWith_map]; induction l with
      | nil => rfl
      | cons a l ih => simp [List.zipWith]
    rw [e]; exact h1
  · rw [List.getElem?_map, Option.map_eq_some_iff] at hp hx
    obtain ⟨y, hy, rfl⟩ := hp
    obtain ⟨z, hz, rfl⟩ := hx
    rw [hy] at hz; cases hz
    exact h2 y (List.mem_of_getElem? hy)
theorem good_types {w : World} {v : Value} {bs : Nat} {fs : Gen.CT} (h : Gen.Good w (.slice bs [.int .i64, .int .i64, .int .i64, .int .i64, fs, .int .i64, .int .i64]) v) : ∃ A cap l, v = .slice A l.length cap ∧ TysAt w A cap l := by
  obtain ⟨l, h1, h2⟩ := good_rows (α := Ty × List Value) (P := fun x => ((Lit.int .i64 x.1.form).wf = true ∧ (Lit.int .i64 x.1.len).wf = true) ∧ x.2[0]? = some (.int .i64 x.1.form) ∧ x.2[1]? = some (.int .i64 x.1.len) ∧ x.2[2]? = some (.int .i64 x.1.elem)) (fun c => c.2) h (by simp) (fun V g => by
    obtain ⟨n0, e0, g0⟩ := (g 0 _ rfl).int_inv
    obtain ⟨n1, e1, g1⟩ := (g 1 _ rfl).int_inv
    obtain ⟨n2, e2, g2⟩ := (g 2 _ rfl).int_inv
    refine ⟨(⟨n0, n1, n2⟩, [V 0, V 1, V 2, V 3, V 4, V 5, V 6]), ⟨⟨g0, g1⟩, by rw [← e0]; rfl, by rw [← e1]; rfl, by rw [← e2]; rfl⟩, rfl, fun j u hu => ?_⟩
    have hj : j < 7 := (List.getElem?_eq_some_iff.1 hu).1
    match j, hj with
    | 0, _ => cases hu; rfl
    | 1, _ => cases hu; rfl
    | 2, _ => cases hu; rfl
    | 3, _ => cases hu; rfl
    | 4, _ => cases hu; rfl
    | 5, _ => cases hu; rfl
    | 6, _ => cases hu; rfl)
  obtain ⟨A, cap, rfl, c1, c2, hr⟩ := list_of (n := l.length) h1 (List.length_map _)
  refine ⟨A, cap, l.map (·.1), by rw [List.length_map], ⟨by rw [List.length_map]; exact c1, c2, ?_, fun t ht => ?_⟩⟩
  · rw [List.length_map]
    rcases hr with hz | ⟨b, off, rfl, hb, hc⟩
    · exact .inl hz
    · refine .inr ⟨b, off, rfl, hb, fun k hk => ?_⟩
      have hx := hc k (l[k]).2 (by rw [List.getElem?_map, List.getElem?_eq_getElem hk]; rfl)
      obtain ⟨_, g0, g1, g2⟩ := h2 l[k] (List.getElem_mem hk)
      have ht : tyAt (l.map (·.1)) k = (l[k]).1 := by
        unfold tyAt
        rw [Int.toNat_natCast, List.getD_eq_getElem?_getD, List.getElem?_map, List.getElem?_eq_getElem hk]; rfl
      rw [ht]
      exact ⟨hx 0 _ g0, hx 1 _ g1, hx 2 _ g2⟩
  · obtain ⟨x, hx, rfl⟩ := List.mem_map.1 ht
    exact (h2 x hx).1
theorem good_reach {w : World} {v : Value} {bs n : Nat} {es : List Gen.CT} {sz : Nat} {rows : List (List Value)} (h : Gen.Good w (.slice bs es) v) (hr : RowsAt w v sz rows) (hn : rows.length = n) : ArgL v n bs := good_arg h hr hn
end Go.Proofs.Ytgemnmceflcpcaa
