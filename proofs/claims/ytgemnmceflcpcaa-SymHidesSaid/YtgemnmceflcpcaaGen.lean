/- The frame of every law of this seat, whatever its parameters: an argument that reads as data is opened to its cells, all at once, and read again behind a call that turns nothing that was there. No program in sight. -/
import Derived.WalkKit
import Derived.ProofKit
import Derived.OpenShut
import Derived.ChangeOld
import Derived.Below
import Derived.SizedLaws
import Derived.Deep.Slices
import Derived.Deep.DeepHandedRow
import Derived.Deep.MidRow
namespace Go.Proofs.Ytgemnmceflcpcaa.Gen
open Go Go.RowKit Go.ChangeShapes Go.WideShapes Go.ChangeAt Go.Deep

/-- The kinds of a cell: a number, a bool, a text, a slice (an element's bytes; an element's cells), a slice that is not looked into. -/
inductive CT where
  | bool
  | int (k : IntKind)
  | str
  | slice (bytes : Nat) (es : List CT)
  | opq

/-- A cell's value is of its kind; what a slice leads to, too. -/
inductive Good (w : World) : CT → Value → Prop where
  | bool (b : Bool) : Good w .bool (.bool b)
  | int (k : IntKind) (n : Int) (h : (Lit.int k n).wf = true) : Good w (.int k) (.int k n)
  | str (s : ByteArray) (h : s.size ≤ reachBytes) : Good w .str (.string s)
  | nil (b : Nat) (es : List CT) : Good w (.slice b es) (.slice none 0 0)
  | slice (b : Nat) (es : List CT) (a : Addr) (len cap : Nat) (V : Nat → Nat → Value) (hl : len ≤ cap) (hm : cap ≤ maxLen) (hb : cap * b ≤ reachBytes)
      (hc : ∀ i j, i < cap → j < es.length → w.cell? (a.add (i * es.length + j)) = some (V i j))
      (hg : ∀ i j ct, i < cap → es[j]? = some ct → Good w ct (V i j)) : Good w (.slice b es) (.slice (some a) len cap)
  | opq (a : Option Addr) (len cap : Nat) : Good w .opq (.slice a len cap)

def GoodAll (w : World) (cts : List CT) (cs : List Value) : Prop := cs.length = cts.length ∧ ∀ (j : Nat) (ct : CT) (v : Value), cts[j]? = some ct → cs[j]? = some v → Good w ct v

section
variable (P : Program) (stop : List TypeId)
def flatFs (g : TypeId → Option (List CT)) : List Field → Nat → Option (List CT)
  | [], _ => some []
  | f :: r, o => if f.offset = o then
      match g f.type with
      | some es => if es.length = P.cellsOf f.type then
          match flatFs g r (o + es.length) with
          | some l => some (es ++ l)
          | none => none
        else none
      | none => none
    else none
def rep (es : List CT) : Nat → List CT
  | 0 => []
  | m + 1 => es ++ rep es m
/-- The kinds of a type's cells. -/
def flat : Nat → TypeId → Option (List CT)
  | 0, _ => none
  | n + 1, t => match P.underlying t with
    | some .bool => some [.bool]
    | some (.int k) => some [.int k]
    | some .string => some [.str]
    | some (.slice e) => if stop.contains e then some [.opq] else
        match flat n e with
        | some es => if es.length = P.cellsOf e then some [.slice (P.bytesOf e) es] else none
        | none => none
    | some (.struct fs) =>
        match flatFs P (flat n) fs.toList 0 with
        | some l => if l.length = P.cellsOf t then some l else none
        | none => none
    | some (.array m e) =>
        match flat n e with
        | some es => if es.length = P.cellsOf e ∧ (rep es m).length = P.cellsOf t then some (rep es m) else none
        | none => none
    | _ => none
end

theorem rep_length (es : List CT) (m : Nat) : (rep es m).length = m * es.length := by
  induction m with
  | zero => simp [rep]
  | succ m ih => rw [rep, List.length_append, ih, Nat.succ_mul]; omega

section
variable {H : Type} {enc : TypeId × Value → H} {P : Program} {w : World} {base : Nat} {held : Bool} {stop : List TypeId}

theorem weights_mem_all {e : TypeId} : ∀ {ds : List (DataW H)} {d : DataW H} {z : Nat}, d ∈ ds → z ∈ d.weights P e → z ∈ DataW.weightsAll P e ds
  | d0 :: r, d, z, h, hz => by
    rcases List.mem_cons.1 h with rfl | h
    · simp only [DataW.weightsAll, List.mem_append]; exact .inl hz
    · simp only [DataW.weightsAll, List.mem_append]; exact .inr (weights_mem_all h hz)

theorem good_fields (g : TypeId → Option (List CT)) (cs : List Value) : ∀ (fs : List Field) (o : Nat) (l : List CT), flatFs P g fs o = some l →
    (∀ f ∈ fs, ∀ es, g f.type = some es → es.length = P.cellsOf f.type → GoodAll w es ((cs.drop f.offset).take (P.cellsOf f.type))) →
    ∀ j ct v, l[j]? = some ct → cs[o + j]? = some v → Good w ct v
  | [], o, l, hl, _, j, ct, v, hj, _ => by
    simp only [flatFs, Option.some.injEq] at hl; subst hl; simp at hj
  | f :: r, o, l, hl, hf, j, ct, v, hj, hv => by
    unfold flatFs at hl
    by_cases ho : f.offset = o
    · rw [if_pos ho] at hl
      cases hg : g f.type with
      | none => simp [hg] at hl
      | some es =>
        simp only [hg] at hl
        by_cases hlen : es.length = P.cellsOf f.type
        · rw [if_pos hlen] at hl
          cases hr : flatFs P g r (o + es.length) with
          | none => simp [hr] at hl
          | some l' =>
            simp only [hr, Option.some.injEq] at hl
            subst hl
            have h1 := hf f (by simp) es hg hlen
            by_cases hjl : j < es.length
            · rw [List.getElem?_append_left hjl] at hj
              refine h1.2 j ct v hj ?_
              rw [List.getElem?_take_of_lt (by omega), List.getElem?_drop, ho, hv]
            · rw [List.getElem?_append_right (by omega)] at hj
              refine good_fields g cs r (o + es.length) l' hr (fun f' hf' => hf f' (by simp [hf'])) (j - es.length) ct v hj ?_
              rw [show o + es.length + (j - es.length) = o + j from by omega, hv]
        · rw [if_neg hlen] at hl; cases hl
    · rw [if_neg ho] at hl; cases hl

theorem good_rep (es : List CT) (cs : List Value) (c : Nat) (hc : es.length = c) : ∀ (m o : Nat), (∀ i, i < m → GoodAll w es ((cs.drop (o + i * c)).take c)) →
    ∀ j ct v, (rep es m)[j]? = some ct → cs[o + j]? = some v → Good w ct v
  | 0, _, _, j, ct, v, hj, _ => by simp [rep] at hj
  | m + 1, o, h, j, ct, v, hj, hv => by
    unfold rep at hj
    by_cases hjl : j < es.length
    · rw [List.getElem?_append_left hjl] at hj
      refine (h 0 (by omega)).2 j ct v hj ?_
      rw [List.getElem?_take_of_lt (by omega), List.getElem?_drop, Nat.zero_mul, Nat.add_zero, hv]
    · rw [List.getElem?_append_right (by omega)] at hj
      refine good_rep es cs c hc m (o + c) (fun i hi => ?_) (j - es.length) ct v hj ?_
      · have := h (i + 1) (by omega)
        rw [show o + (i + 1) * c = o + c + i * c from by rw [Nat.succ_mul]; omega] at this
        exact this
      · rw [show o + c + (j - es.length) = o + j from by omega, hv]

/-- WHAT READS AS DATA IS OF ITS KIND, TO THE BOTTOM. -/
theorem good_of_trod : ∀ (n : Nat) (t : TypeId) (cts : List CT), flat P stop n t = some cts → ∀ (fuel : Nat) (cs : List Value) (x : DataW H × List MemPlace),
    DataW.trod enc P w base (fun _ => true) held fuel t cs = some x → (∀ z ∈ x.1.weights P t, z ≤ reachBytes) → GoodAll w cts cs
  | 0, t, cts, h, _, _, _, _, _ => by simp [flat] at h
  | n + 1, t, cts, h, fuel, cs, x, hx, hz => by
    unfold flat at h
    cases hu : P.underlying t with
    | none => simp [hu] at h
    | some d =>
      cases d with
      | bool =>
        simp only [hu, Option.some.injEq] at h
        obtain ⟨b, rfl, rfl⟩ := DataW.trod_bool hu hx
        subst h
        refine ⟨rfl, fun j ct v h1 h2 => ?_⟩
        cases j with
        | zero => simp at h1 h2; subst h1 h2; exact .bool b
        | succ j => simp at h1
      | int k =>
        simp only [hu, Option.some.injEq] at h
        obtain ⟨m, rfl, rfl, hw⟩ := DataW.trod_int hu hx
        subst h
        refine ⟨rfl, fun j ct v h1 h2 => ?_⟩
        cases j with
        | zero => simp at h1 h2; subst h1 h2; exact .int k m hw
        | succ j => simp at h1
      | string =>
        simp only [hu, Option.some.injEq] at h
        obtain ⟨s, rfl, rfl, hs⟩ := DataW.trod_string hu hx
        subst h
        have hs' : s.size ≤ reachBytes := by
          have := hz s.data.toList.length (by simp [DataW.weights])
          simpa using this
        refine ⟨rfl, fun j ct v h1 h2 => ?_⟩
        cases j with
        | zero => simp at h1 h2; subst h1 h2; exact .str s hs'
        | succ j => simp at h1
      | slice e =>
        simp only [hu] at h
        by_cases hst : stop.contains e = true
        · rw [if_pos hst] at h
          simp only [Option.some.injEq] at h
          subst h
          rcases open_slice hu hx with ⟨rfl, _⟩ | ⟨a, len, cap, m, n', D, Pl, rfl, _⟩
          · refine ⟨rfl, fun j ct v h1 h2 => ?_⟩
            cases j with
            | zero => simp at h1 h2; subst h1 h2; exact .opq none 0 0
            | succ j => simp at h1
          · refine ⟨rfl, fun j ct v h1 h2 => ?_⟩
            cases j with
            | zero => simp at h1 h2; subst h1 h2; exact .opq (some a) len cap
            | succ j => simp at h1
        · rw [if_neg hst] at h
          cases he : flat P stop n e with
          | none => simp [he] at h
          | some es =>
            simp only [he] at h
            by_cases hlen : es.length = P.cellsOf e
            · rw [if_pos hlen] at h
              simp only [Option.some.injEq] at h
              subst h
              rcases open_slice hu hx with ⟨rfl, _⟩ | ⟨a, len, cap, m, n', D, Pl, rfl, _, hl, hm, hmm, hxe, hi⟩
              · refine ⟨rfl, fun j ct v h1 h2 => ?_⟩
                cases j with
                | zero => simp at h1 h2; subst h1 h2; exact .nil _ _
                | succ j => simp at h1
              · simp only [if_true] at hmm
                subst hmm
                have hb : m * P.bytesOf e ≤ reachBytes := by
                  have := hz (m * P.bytesOf e) (by rw [hxe]; simp [DataW.weights, hu, show len + (m - len) = m from by omega])
                  exact this
                have helem : ∀ i, i < m → GoodAll w es ((w.cells? base (a.add (i * P.cellsOf e)) (P.cellsOf e)).getD []) := by
                  intro i hi'
                  obtain ⟨cs', h1, h2⟩ := hi i hi'
                  rw [h1]
                  refine good_of_trod n e es he n' cs' _ h2 (fun z hzz => hz z ?_)
                  rw [hxe]
                  simp only [DataW.weights, hu, List.mem_cons, List.mem_append]
                  by_cases hil : i < len
                  · exact .inr (.inl (weights_mem_all (d := D i) (List.mem_map.2 ⟨i, by simpa using hil, rfl⟩) hzz))
                  · exact .inr (.inr (weights_mem_all (d := D i) (List.mem_map.2 ⟨i - len, by simp; omega, by rw [show len + (i - len) = i from by omega]⟩) hzz))
                refine ⟨rfl, fun j ct v h1 h2 => ?_⟩
                cases j with
                | succ j => simp at h1
                | zero =>
                  simp at h1 h2; subst h1 h2
                  refine .slice _ es a len m (fun i j => ((w.cells? base (a.add (i * P.cellsOf e)) (P.cellsOf e)).getD []).getD j undef) hl hm hb (fun i j hi' hj' => ?_) (fun i j ct hi' hct => ?_)
                  · obtain ⟨cs', h1, h2⟩ := hi i hi'
                    obtain ⟨_, hcl, hat⟩ := World.cells?_some h1
                    have := hat j (by omega)
                    rw [h1]
                    rw [Go.Deep.add_add] at this
                    rw [hlen, this]
                    simp only [Option.getD_some]
                    rw [List.getD_eq_getElem?_getD, List.getElem?_eq_getElem (by omega)]; rfl
                  · have hj' : j < es.length := by
                      rcases Nat.lt_or_ge j es.length with g | g
                      · exact g
                      · rw [List.getElem?_eq_none g] at hct; cases hct
                    have hga := helem i hi'
                    refine hga.2 j ct _ hct ?_
                    rw [List.getD_eq_getElem?_getD]
                    have : j < ((w.cells? base (a.add (i * P.cellsOf e)) (P.cellsOf e)).getD []).length := by rw [hga.1]; exact hj'
                    rw [List.getElem?_eq_getElem this]; rfl
            · rw [if_neg hlen] at h; cases h
      | struct fs =>
        simp only [hu] at h
        cases hf : flatFs P (flat P stop n) fs.toList 0 with
        | none => simp [hf] at h
        | some l =>
          simp only [hf] at h
          by_cases hlen : l.length = P.cellsOf t
          · rw [if_pos hlen] at h
            simp only [Option.some.injEq] at h
            subst h
            obtain ⟨xs, m, rfl, rfl, hcl, hxl, hg⟩ := DataW.trod_struct hu hx
            refine ⟨by omega, fun j ct v hj hv => ?_⟩
            refine good_fields (flat P stop n) cs fs.toList 0 l hf (fun f hfm es hes _ => ?_) j ct v hj (by rw [Nat.zero_add]; exact hv)
            obtain ⟨i, hi, hfi⟩ := List.mem_iff_getElem.1 hfm
            have hfi' : fs[i]? = some f := by rw [← Array.getElem?_toList, List.getElem?_eq_getElem hi, hfi]
            have h1 := hg i f hfi'
            have hil : i < xs.length := by rw [hxl]; simpa using hi
            rw [List.getElem?_eq_getElem hil] at h1
            refine good_of_trod n f.type es hes m _ _ h1 (fun z hzz => hz z ?_)
            simp only [DataW.weights, hu]
            refine DataW.weights_mem_each (j := i) (t := f.type) (d := xs[i].1) ?_ ?_ z hzz
            · rw [List.getElem?_map, List.getElem?_eq_getElem hi, hfi]; rfl
            · rw [List.getElem?_map, List.getElem?_eq_getElem hil]; rfl
          · rw [if_neg hlen] at h; cases h
      | array m e =>
        simp only [hu] at h
        cases he : flat P stop n e with
        | none => simp [he] at h
        | some es =>
          simp only [he] at h
          by_cases hlen : es.length = P.cellsOf e ∧ (rep es m).length = P.cellsOf t
          · rw [if_pos hlen] at h
            simp only [Option.some.injEq] at h
            subst h
            obtain ⟨xs, q, rfl, rfl, hcl, hxl, hg⟩ := DataW.trod_array hu hx
            refine ⟨by omega, fun j ct v hj hv => ?_⟩
            refine good_rep es cs (P.cellsOf e) hlen.1 m 0 (fun i hi => ?_) j ct v hj (by rw [Nat.zero_add]; exact hv)
            have h1 := hg i hi
            have hil : i < xs.length := by omega
            rw [List.getElem?_eq_getElem hil] at h1
            rw [Nat.zero_add]
            refine good_of_trod n e es he q _ _ h1 (fun z hzz => hz z ?_)
            simp only [DataW.weights, hu]
            exact weights_mem_all (d := xs[i].1) (List.mem_map.2 ⟨xs[i], List.getElem_mem hil, rfl⟩) hzz
          · rw [if_neg hlen] at h; cases h
      | _ => simp [hu] at h
end

/-- An argument: one cell, or a struct or array by value, all its cells. -/
inductive AT where
  | one (ct : CT)
  | agg (cts : List CT)
def argT (P : Program) (stop : List TypeId) (n : Nat) (t : TypeId) : Option AT :=
  match P.underlying t with
  | some (.struct _) | some (.array _ _) => (flat P stop n t).map .agg
  | some .bool | some (.int _) | some .string | some (.slice _) => match flat P stop n t with
    | some [ct] => some (.one ct)
    | _ => none
  | _ => none
def ArgGood (w : World) : AT → Value → Prop
  | .one ct, v => Good w ct v
  | .agg cts, v => ∃ cs : List Value, v = .agg cs.toArray ∧ GoodAll w cts cs
def ArgsGood (w : World) : List AT → List Value → Prop
  | [], [] => True
  | a :: as, v :: vs => ArgGood w a v ∧ ArgsGood w as vs
  | _, _ => False

section
variable {H : Type} {enc : TypeId × Value → H} {P : Program} {w : World} {base : Nat} {stop : List TypeId} {n : Nat}

theorem good_one {ct : CT} {v : Value} (h : GoodAll w [ct] [v]) : Good w ct v := h.2 0 ct v rfl rfl

theorem arg_good {r : Reach} {b0 : Nat} {t : TypeId} {at_ : AT} {v : Value} {d : DataW H} {p : List MemPlace} (ha : argT P stop n t = some at_) (hok : Value.okWide P w r b0 t v)
    (h : DataW.Trod enc P w base (fun _ => true) true t v d p) (hz : ∀ z ∈ d.weights P t, z ≤ reachBytes) : ArgGood w at_ v := by
  obtain ⟨fuel, hf⟩ := h
  have key : ∀ cts, flat P stop n t = some cts → GoodAll w cts v.cells.toList := fun cts hc => good_of_trod n t cts hc fuel _ _ hf hz
  unfold argT at ha
  have one : ∀ (_ : v.cells.toList = [v]), (match flat P stop n t with | some [ct] => some (AT.one ct) | _ => none) = some at_ → ArgGood w at_ v := by
    intro hv h1
    cases hc : flat P stop n t with
    | none => simp [hc] at h1
    | some cts =>
      match cts, hc with
      | [], hc => simp [hc] at h1
      | [ct], hc =>
        simp [hc] at h1; subst h1
        have := key _ hc
        rw [hv] at this
        exact good_one this
      | _ :: _ :: _, hc => simp [hc] at h1
  cases hu : P.underlying t with
  | none => simp [hu] at ha
  | some desc =>
    cases desc with
    | bool => obtain ⟨b, rfl⟩ := okWide_bool hu hok; exact one rfl (by simpa [hu] using ha)
    | int k => obtain ⟨b, rfl⟩ := okWide_int hu hok; exact one rfl (by simpa [hu] using ha)
    | string => obtain ⟨b, rfl⟩ := okWide_string hu hok; exact one rfl (by simpa [hu] using ha)
    | slice e => obtain ⟨a, l, c, rfl⟩ := okWide_slice hu hok; exact one rfl (by simpa [hu] using ha)
    | struct fs =>
      obtain ⟨cs, rfl, _⟩ := okWide_struct hu hok
      simp only [hu, Option.map_eq_some_iff] at ha
      obtain ⟨cts, hc, rfl⟩ := ha
      exact ⟨cs.toList, by simp, key _ hc⟩
    | array m e =>
      have : ∃ cs, v = .agg cs := by
        unfold Value.okWide at hok
        rw [hu] at hok
        obtain ⟨cs, h1, _⟩ := hok
        exact ⟨cs, h1⟩
      obtain ⟨cs, rfl⟩ := this
      simp only [hu, Option.map_eq_some_iff] at ha
      obtain ⟨cts, hc, rfl⟩ := ha
      exact ⟨cs.toList, by simp, key _ hc⟩
    | _ => simp [hu] at ha

theorem args_good {r : Reach} {b0 : Nat} : ∀ {ts : List TypeId} {ats : List AT} {vs : List Value} {ds : List (DataW H)} {p : List MemPlace}, ts.map (argT P stop n) = ats.map some →
    (∀ (j : Nat) t v, ts[j]? = some t → vs[j]? = some v → Value.okWide P w r b0 t v) → DataW.TrodAll enc P w base (fun _ => true) true ts vs ds p →
    (∀ z ∈ DataW.weightsEach P ts ds, z ≤ reachBytes) → ArgsGood w ats vs ∧ ds.length = ats.length
  | [], ats, vs, ds, p, ha, _, h, _ => by
    cases ats with
    | cons a as => simp at ha
    | nil => cases vs <;> cases ds <;> simp [DataW.TrodAll] at h <;> exact ⟨trivial, rfl⟩
  | t :: ts, ats, vs, ds, p, ha, hok, h, hz => by
    obtain ⟨v, vs', d, ds', p', q', rfl, rfl, rfl, h1, h2⟩ := trodAll_cons h
    cases ats with
    | nil => simp at ha
    | cons a as =>
      simp only [List.map_cons, List.cons.injEq] at ha
      have hg := arg_good ha.1 (hok 0 t v rfl rfl) h1 (fun z hzz => hz z (by simp only [DataW.weightsEach, List.mem_append]; exact .inl hzz))
      have hr := args_good ha.2 (fun j t' v' h1 h2 => hok (j + 1) t' v' (by simpa using h1) (by simpa using h2)) h2 (fun z hzz => hz z (by simp only [DataW.weightsEach, List.mem_append]; exact .inr hzz))
      exact ⟨⟨hg, hr.1⟩, by simp [hr.2]⟩

theorem places_lt : ∀ {ts : List TypeId} {vs : List Value} {ds : List (DataW H)} {p : List MemPlace}, DataW.TrodAll enc P w base (fun _ => true) true ts vs ds p → ∀ x ∈ p, x.block < w.heap.size
  | [], vs, ds, p, h, x, hx => by
    cases vs <;> cases ds <;> simp [DataW.TrodAll] at h
    subst h; simp at hx
  | t :: ts, vs, ds, p, h, x, hx => by
    obtain ⟨v, vs', d, ds', p', q', rfl, rfl, rfl, h1, h2⟩ := trodAll_cons h
    rcases List.mem_append.1 hx with hx | hx
    · obtain ⟨m, hm⟩ := h1; exact DataW.trod_lt m _ _ _ hm x hx
    · exact places_lt h2 x hx

theorem again_all {W W' : World} (hl : laidOutB P = true) (hb : Below W.heap.size W W') : ∀ {ts : List TypeId} {vs : List Value} {ds : List (DataW H)} {p : List MemPlace},
    ts.all (fun t => P.readableRec t && decide (t < P.types.size)) = true → DataW.TrodAll enc P W 0 (fun _ => true) true ts vs ds p → (∀ x ∈ p, x.block < W.heap.size) →
    DataW.TrodAll enc P W' 0 (fun b => decide (b < W.heap.size)) true ts vs ds p
  | [], vs, ds, p, _, h, _ => by
    cases vs <;> cases ds <;> simp [DataW.TrodAll] at h
    subst h; exact trodAll_mk0
  | t :: ts, vs, ds, p, hr, h, hlt => by
    obtain ⟨v, vs', d, ds', p', q', rfl, rfl, rfl, h1, h2⟩ := trodAll_cons h
    simp only [List.all_cons, Bool.and_eq_true, decide_eq_true_eq] at hr
    exact trodAll_cons_mk (Below.trod hl hr.1.1 hr.1.2 h1 hb (fun x hx => hlt x (List.mem_append.2 (.inl hx)))) (again_all hl hb hr.2 h2 (fun x hx => hlt x (List.mem_append.2 (.inr hx))))
end

/-! ### What is of its kind, opened -/
theorem GoodAll.at_ {w : World} {cts : List CT} {cs : List Value} (h : GoodAll w cts cs) {j : Nat} {ct : CT} (hj : cts[j]? = some ct) : ∃ v, cs[j]? = some v ∧ Good w ct v := by
  have hl : j < cts.length := by
    rcases Nat.lt_or_ge j cts.length with g | g
    · exact g
    · rw [List.getElem?_eq_none g] at hj; cases hj
  have hc : j < cs.length := by rw [h.1]; exact hl
  exact ⟨cs[j], List.getElem?_eq_getElem hc, h.2 j ct _ hj (List.getElem?_eq_getElem hc)⟩
theorem Good.bool_inv {w : World} {v : Value} (h : Good w .bool v) : ∃ b, v = .bool b := by cases h; exact ⟨_, rfl⟩
theorem Good.int_inv {w : World} {k : IntKind} {v : Value} (h : Good w (.int k) v) : ∃ n, v = .int k n ∧ (Lit.int k n).wf = true := by cases h; exact ⟨_, rfl, by assumption⟩
theorem Good.str_inv {w : World} {v : Value} (h : Good w .str v) : ∃ s, v = .string s ∧ s.size ≤ reachBytes := by cases h; exact ⟨_, rfl, by assumption⟩
theorem Good.opq_inv {w : World} {v : Value} (h : Good w .opq v) : ∃ a l c, v = .slice a l c := by cases h; exact ⟨_, _, _, rfl⟩
theorem GoodAll.bool {w : World} {cts : List CT} {cs : List Value} (h : GoodAll w cts cs) (j : Nat) (hj : cts[j]? = some .bool) : ∃ b, cs[j]? = some (.bool b) := by
  obtain ⟨v, h1, h2⟩ := h.at_ hj
  obtain ⟨b, rfl⟩ := h2.bool_inv
  exact ⟨b, h1⟩
theorem GoodAll.int {w : World} {cts : List CT} {cs : List Value} (h : GoodAll w cts cs) {k : IntKind} (j : Nat) (hj : cts[j]? = some (.int k)) : ∃ n, cs[j]? = some (.int k n) ∧ (Lit.int k n).wf = true := by
  obtain ⟨v, h1, h2⟩ := h.at_ hj
  obtain ⟨n, rfl, hw⟩ := h2.int_inv
  exact ⟨n, h1, hw⟩
/-- A slice whose elements have the kinds es: nil, or it leads to cap rows of cells. -/
def Rows_ (w : World) (A : Option Addr) (cap : Nat) (es : List CT) (V : Nat → Nat → Value) : Prop :=
  (0 < cap → 0 < es.length → ∃ b off, A = some ⟨b, off, none⟩ ∧ b < w.heap.size ∧ ∀ i j, i < cap → j < es.length → w.cell? ⟨b, off + (i * es.length + j), none⟩ = some (V i j)) ∧
  ∀ i j ct, i < cap → es[j]? = some ct → Good w ct (V i j)
theorem Good.slice_inv {w : World} {b : Nat} {es : List CT} {v : Value} (h : Good w (.slice b es) v) :
    ∃ A len cap V, v = .slice A len cap ∧ len ≤ cap ∧ cap ≤ maxLen ∧ cap * b ≤ reachBytes ∧ Rows_ w A cap es V := by
  cases h with
  | nil => exact ⟨none, 0, 0, fun _ _ => undef, rfl, Nat.le_refl _, by decide, by simp, fun h => absurd h (by omega), fun i j ct h => absurd h (by omega)⟩
  | slice _ _ a len cap V hl hm hb hc hg =>
    refine ⟨some a, len, cap, V, rfl, hl, hm, hb, fun h0 h1 => ?_, hg⟩
    obtain ⟨blk, off, spot⟩ := a
    have hc0 := hc 0 0 h0 h1
    have hs : spot = none := by simpa [Addr.add] using World.cell?_spot hc0
    subst hs
    have hlt := block_lt_of_cell hc0
    refine ⟨blk, off, rfl, by simpa [Addr.add] using hlt, fun i j hi hj => ?_⟩
    have := hc i j hi hj
    rw [Addr.add_mid] at this
    exact this

/-- A slice of integers, read index by index. -/
theorem rows_int {w : World} {A : Option Addr} {cap : Nat} {k : IntKind} {V : Nat → Nat → Value} (h : Rows_ w A cap [.int k] V) :
    ∃ f : Nat → Int, (0 < cap → ∃ b off, A = some ⟨b, off, none⟩ ∧ b < w.heap.size ∧ ∀ i, i < cap → w.cell? ⟨b, off + i, none⟩ = some (.int k (f i))) ∧ (∀ i, i < cap → (Lit.int k (f i)).wf = true) ∧ ∀ i, cap ≤ i → f i = 0 := by
  have hV : ∀ i, i < cap → V i 0 = .int k (intOf (V i 0)) ∧ (Lit.int k (intOf (V i 0))).wf = true := fun i hi => by
    obtain ⟨n, h1, h2⟩ := (h.2 i 0 _ hi rfl).int_inv
    rw [h1]; exact ⟨rfl, h2⟩
  refine ⟨fun i => if i < cap then intOf (V i 0) else 0, fun h0 => ?_, fun i hi => by simp only [hi, if_true]; exact (hV i hi).2, fun i hi => by simp only [show ¬ i < cap from by omega, if_false]⟩
  obtain ⟨b, off, hA, hlt, hc⟩ := h.1 h0 (by simp)
  refine ⟨b, off, hA, hlt, fun i hi => ?_⟩
  have := hc i 0 hi (by simp)
  simp only [List.length_cons, List.length_nil, Nat.zero_add, Nat.mul_one, Nat.add_zero] at this
  rw [this, (hV i hi).1]
  simp only [hi, if_true, intOf]

/-- THE STEP FROM A WALK TO WHAT THE ROW ASKS, for a law of whatever parameters: it answers true, and nothing that was there has turned. -/
theorem contract {H : Type} {enc : TypeId × Value → H} {C : Checked} {f : FuncId} {fn : Func} {s : ChangeSpec} {stop : List TypeId} {n : Nat} (ats : List AT) (tb : TypeId) (hvars : s.vars = [])
    (hspec : ∀ (H : Type) (ds : List (DataW H)), ds.length = ats.length → s.fn H (ds ++ []) = { results := [.lit (.bool true)], args := ds })
    (hats : fn.params.toList.map (argT C.prog stop n) = ats.map some) (hl : laidOutB C.prog = true) (hr : fn.params.toList.all (fun t => C.prog.readableRec t && decide (t < C.prog.types.size)) = true)
    (hres : fn.resultTypes = #[tb]) (hb : C.prog.underlying tb = some .bool) (W : World) (args : Array Value) (ds gs : List (DataW H)) (before : List MemPlace) (vt : List TypeId) (hvt : vt = [])
    (walk : ∀ vs, ArgsGood W ats vs → Calls C.prog f vs.toArray W fun e W' => e = .returned (.bool true) ∧ Below W.heap.size W W')
    (b0 : Nat) (hval : ∀ (j : Nat) t v, fn.params[j]? = some t → args[j]? = some v → Value.okWide C.prog W .any b0 t v)
    (hW : DataW.Whole enc C.prog fn.params.toList s.vars false W args.toList ds gs before)
    (hsz : (DataW.weightsEach C.prog (fn.params.toList ++ vt) (ds ++ gs)).all (· ≤ reachBytes) = true) :
    Calls C.prog f args W fun e W' => ∃ v, e = .returned v ∧ s.post enc C.prog fn false true false false W args v W' := by
  have hW' := hW
  obtain ⟨p, q, hA, hV, rfl, _, _⟩ := hW
  rw [hvars] at hV
  obtain ⟨rfl, rfl⟩ := trodVars_none hV
  subst hvt
  rw [List.append_nil, List.append_nil] at hsz
  obtain ⟨hg, hlen⟩ := args_good (r := .any) (b0 := b0) hats (fun j t v h1 h2 => hval j t v (by simpa using h1) (by simpa using h2)) hA (fun z hz => by
    have := List.all_eq_true.1 hsz z hz; simpa using this)
  have hp := places_lt hA
  refine (walk args.toList hg).mono fun e W' ⟨he, bel⟩ => ?_
  subst he
  have e1 := hspec H ds hlen
  refine ⟨_, rfl, ds, [], p ++ [], [], p, [], hW', ?_, ?_, ?_, bel.frame _, fun h => by cases h⟩
  · rw [e1, hres]; exact trodAll_mk1 (shut_bool hb true)
  · rw [e1]; exact again_all hl bel hr hA hp
  · rw [e1, hvars]; rfl
end Go.Proofs.Ytgemnmceflcpcaa.Gen
