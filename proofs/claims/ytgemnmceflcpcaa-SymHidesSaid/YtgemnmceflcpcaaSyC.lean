/- Symbols as they lie in memory. -/
import Derived.Test.YtgemnmceflcpcaaQB
import Derived.Test.YtgemnmceflcpcaaQA
namespace Go.Proofs.Ytgemnmceflcpcaa
open Go Go.RowKit Go.Lib Go.Proofs.Ytgemnmceflcpcaa.Sy
set_option linter.unusedVariables false
set_option linter.unusedSimpArgs false
/-- A list whose elements have these cells, sz each. -/
def RowsAt (w : World) (fv : Value) (sz : Nat) (rows : List (List Value)) : Prop :=
  ∃ A cap, fv = .slice A rows.length cap ∧ rows.length ≤ cap ∧ cap ≤ maxLen ∧ ∀ k r, rows[k]? = some r → ∃ b off, A = some ⟨b, off, none⟩ ∧ b < w.heap.size ∧ w.rangeAt b (off + k * sz) r
theorem range_below {w w' : World} {B b o : Nat} {cs : List Value} (h : w.rangeAt b o cs) (hb : Below B w w') (hlt : b < B) : w'.rangeAt b o cs := fun j u hj => by
  rw [World.cell?_of_block (hb.block b hlt)]; exact h j u hj
theorem RowsAt.below {w w' : World} {fv : Value} {sz : Nat} {rows : List (List Value)} (h : RowsAt w fv sz rows) (hb : Below w.heap.size w w') : RowsAt w' fv sz rows := by
  obtain ⟨A, cap, rfl, h1, h2, h4⟩ := h
  refine ⟨A, cap, rfl, h1, h2, fun k f hf => ?_⟩
  obtain ⟨b, off, e, hlt, hr⟩ := h4 k f hf
  exact ⟨b, off, e, Nat.lt_of_lt_of_le hlt hb.size, range_below hr hb hlt⟩
theorem RowsAt.touch {w w' : World} {fv : Value} {sz : Nat} {rows : List (List Value)} {r : List Nat} (h : RowsAt w fv sz rows) (T : Touch w w' r) (hn : rows ≠ [] → ∀ g, fv.ownBlock = some g → g ∉ r) : RowsAt w' fv sz rows := by
  obtain ⟨A, cap, rfl, h1, h2, h4⟩ := h
  refine ⟨A, cap, rfl, h1, h2, fun k f hf => ?_⟩
  obtain ⟨b, off, rfl, hlt, hr⟩ := h4 k f hf
  have hne : rows ≠ [] := fun e => by rw [e] at hf; simp at hf
  exact ⟨b, off, rfl, Nat.lt_of_lt_of_le hlt T.size, T.range hr (hn hne b rfl)⟩
theorem RowsAt.form {w : World} {fv : Value} {sz : Nat} {rows : List (List Value)} (h : RowsAt w fv sz rows) : ∃ A cap, fv = .slice A rows.length cap ∧ rows.length ≤ cap ∧ cap ≤ maxLen ∧
    (rows = [] ∨ ∃ b off, A = some ⟨b, off, none⟩ ∧ b < w.heap.size ∧ ∀ k r, rows[k]? = some r → w.rangeAt b (off + k * sz) r) := by
  obtain ⟨A, cap, rfl, h1, h2, h4⟩ := h
  refine ⟨A, cap, rfl, h1, h2, ?_⟩
  cases rows with
  | nil => exact .inl rfl
  | cons f r =>
    right
    obtain ⟨b, off, e, hlt, _⟩ := h4 0 f rfl
    refine ⟨b, off, e, hlt, fun k f hf => ?_⟩
    obtain ⟨b', off', e', _, hr⟩ := h4 k f hf
    rw [e] at e'; cases e'; exact hr
theorem RowsAt.nil_ (w : World) (sz : Nat) : RowsAt w (.slice none 0 0) sz [] := ⟨none, 0, rfl, Nat.le_refl _, Nat.zero_le _, fun k f h => by cases h⟩
/-- Rows of a list of the call's own. -/
theorem flat_length {sz : Nat} : ∀ {rows : List (List Value)}, (∀ r ∈ rows, r.length = sz) → rows.flatten.length = rows.length * sz
  | [], _ => by simp
  | r :: l, h => by
    rw [List.flatten_cons, List.length_append, h r (by simp), flat_length (fun x hx => h x (by simp [hx])), List.length_cons, Nat.succ_mul]; omega
theorem flat_get {sz : Nat} : ∀ {rows : List (List Value)}, (∀ r ∈ rows, r.length = sz) → ∀ (k : Nat) (r : List Value), rows[k]? = some r → ∀ (j : Nat) (u : Value), r[j]? = some u → rows.flatten[k * sz + j]? = some u
  | [], _, k, r, h, _, _, _ => by simp at h
  | g :: l, hl, 0, r, h, j, u, hu => by
    simp only [List.getElem?_cons_zero, Option.some.injEq] at h; subst h
    have hj : j < g.length := (List.getElem?_eq_some_iff.1 hu).1
    rw [List.flatten_cons, Nat.zero_mul, Nat.zero_add, List.getElem?_append_left hj]; exact hu
  | g :: l, hl, k + 1, r, h, j, u, hu => by
    simp only [List.getElem?_cons_succ] at h
    have hg := hl g (by simp)
    rw [List.flatten_cons, List.getElem?_append_right (by rw [hg, Nat.succ_mul]; omega), show (k + 1) * sz + j - g.length = k * sz + j from by rw [hg, Nat.succ_mul]; omega]
    exact flat_get (fun x hx => hl x (by simp [hx])) k r h j u hu
theorem own_rows {wr : World} {B : Nat} {ty : TypeId} {sz : Nat} {rv : Value} {rows : List (List Value)} (hr : ∀ r ∈ rows, r.length = sz) (h : wr.ownsRow B ty sz rv rows.length rows.flatten) : RowsAt wr rv sz rows := by
  rcases h.2 with ⟨rfl, h1⟩ | ⟨g, cp, cur, rfl, h1, h2, h3, h4, h5, h6⟩
  · have : rows = [] := List.length_eq_zero_iff.1 h1
    subst this; exact RowsAt.nil_ _ _
  · refine ⟨_, cp, rfl, h3, h4, fun k r hk => ⟨g, 0, rfl, (Array.getElem?_eq_some_iff.1 h2).1, fun j u hu => ?_⟩⟩
    rw [cell_of_row wr g _ cur ty (0, 0) h2]
    have := flat_get hr k r hk j u hu
    rw [← h6] at this
    rw [List.getElem?_take] at this
    split at this
    · simpa using this
    · cases this
@[reducible] def ccells (c : Cst) : Array Value := #[.string c.name, .int .i64 c.type, .int .i64 c.n, .string c.s, .bool c.shown]
@[reducible] def vcells (v : Vr) : Array Value := #[.string v.name, .int .i64 v.form, .int .i64 v.len, .bool v.opn, .bool v.ref]
@[reducible] def pcells (p : Pr) (pv : Value) : Array Value := #[.string p.name, pv, .int .i64 p.result]
@[reducible] def scells (s : Sm) (cv vv pv : Value) : Array Value := #[.string s.name, cv, vv, pv]
def CFit (c : Cst) : Prop := c.name.size ≤ maxLen ∧ c.s.size ≤ maxLen ∧ (Lit.int .i64 c.type).wf = true ∧ (Lit.int .i64 c.n).wf = true
def VFit (v : Vr) : Prop := v.name.size ≤ maxLen ∧ (Lit.int .i64 v.form).wf = true ∧ (Lit.int .i64 v.len).wf = true
def CstsAt (w : World) (fv : Value) (l : List Cst) : Prop := RowsAt w fv 5 (l.map fun c => (ccells c).toList) ∧ ∀ c ∈ l, CFit c
def VrsAt (w : World) (fv : Value) (l : List Vr) : Prop := RowsAt w fv 5 (l.map fun c => (vcells c).toList) ∧ ∀ c ∈ l, VFit c
/-- Procedures, each with its parameters' list. -/
def PrsAt (w : World) (fv : Value) (l : List Pr) : Prop :=
  ∃ pvs : List Value, pvs.length = l.length ∧ RowsAt w fv 3 (List.zipWith (fun p pv => (pcells p pv).toList) l pvs) ∧
    ∀ (k : Nat) (p : Pr) (pv : Value), l[k]? = some p → pvs[k]? = some pv → p.name.size ≤ maxLen ∧ (Lit.int .i64 p.result).wf = true ∧ VrsAt w pv p.params
structure SmAt (w : World) (s : Sm) (cv vv pv : Value) : Prop where
  name : s.name.size ≤ maxLen
  c : CstsAt w cv s.consts
  v : VrsAt w vv s.vars
  p : PrsAt w pv s.procs
theorem CstsAt.below {w w' : World} {fv : Value} {l : List Cst} (h : CstsAt w fv l) (hb : Below w.heap.size w w') : CstsAt w' fv l := ⟨h.1.below hb, h.2⟩
theorem VrsAt.below {w w' : World} {fv : Value} {l : List Vr} (h : VrsAt w fv l) (hb : Below w.heap.size w w') : VrsAt w' fv l := ⟨h.1.below hb, h.2⟩
theorem PrsAt.below {w w' : World} {fv : Value} {l : List Pr} (h : PrsAt w fv l) (hb : Below w.heap.size w w') : PrsAt w' fv l := by
  obtain ⟨pvs, h1, h2, h3⟩ := h
  exact ⟨pvs, h1, h2.below hb, fun k p pv hp hv => ⟨(h3 k p pv hp hv).1, (h3 k p pv hp hv).2.1, (h3 k p pv hp hv).2.2.below hb⟩⟩
theorem SmAt.below {w w' : World} {s : Sm} {cv vv pv : Value} (h : SmAt w s cv vv pv) (hb : Below w.heap.size w w') : SmAt w' s cv vv pv := ⟨h.name, h.c.below hb, h.v.below hb, h.p.below hb⟩
/-! Structs of a few cells, read and written whole. -/
theorem load_mid {w : World} {b o n : Nat} {ty : TypeId} {d : TypeDesc} {cs : Array Value} (hu : Try.prog.underlying ty = some d) (hd : d.isRow = true) (hi : (Try.prog.info? ty).map (·.size) = some n) (h : w.rangeAt b o cs.toList) (hs : cs.size = n) : (loadWhole ty (.pointer (some ⟨b, o, none⟩))).run Try.prog w = .ok (.agg cs) w := by
  have := run_loadAt_mid (P := Try.prog) w b o ty cs.toList d h hu hd (by rw [Array.length_toList, hs]; exact hi)
  rwa [Array.toArray_toList] at this
theorem load_blk {w : World} {g n : Nat} {ty t : TypeId} {d : TypeDesc} {cs : Array Value} (hu : Try.prog.underlying ty = some d) (hd : d.isRow = true) (hi : (Try.prog.info? ty).map (·.size) = some n) (h : Blk w g cs t) (hs : cs.size = n) : (loadWhole ty (.pointer (some ⟨g, 0, none⟩))).run Try.prog w = .ok (.agg cs) w :=
  run_loadRow h _ _ hu hd (by rw [hs]; exact hi)
theorem loadVar_blk {w : World} {g n : Nat} {ty t : TypeId} {d : TypeDesc} {cs : Array Value} (hu : Try.prog.underlying ty = some d) (hd : d.isRow = true) (hi : (Try.prog.info? ty).map (·.size) = some n) (h : Blk w g cs t) (hs : cs.size = n) : (loadVar ty ⟨g, 0, none⟩).run Try.prog w = .ok (.agg cs) w :=
  run_loadVarRow h _ _ hu hd (by rw [hs]; exact hi)
theorem store_blk {w : World} {g n : Nat} {ty t : TypeId} {old cs : Array Value} (hi : (Try.prog.info? ty).map (·.size) = some n) (h : Blk w g old t) (ho : old.size = n) (hs : cs.size = n) (h1 : OneRow cs) : (storeWhole ty (.pointer (some ⟨g, 0, none⟩)) (.agg cs)).run Try.prog w = .ok () (w.setRow g cs) :=
  run_storeRow h _ (by rw [hs]; exact hi) (ho.trans hs.symm) h1
theorem store_blk_new {n : Nat} {ty : TypeId} (w : World) (Z cs : Array Value) (t : TypeId) (hi : (Try.prog.info? ty).map (·.size) = some n) (ho : Z.size = n) (hs : cs.size = n) (h1 : OneRow cs) : (storeWhole ty (.pointer (some ⟨w.heap.size, 0, none⟩)) (.agg cs)).run Try.prog (w.alloc (.cells Z t)) = .ok () (w.alloc (.cells cs t)) := by
  have := store_blk hi (Blk.new w Z t) ho hs h1
  rwa [alloc_setRow] at this
theorem sz_const : (Try.prog.info? 48).map (·.size) = some 5 := by kernel_rfl
theorem sz_var : (Try.prog.info? 73).map (·.size) = some 5 := by kernel_rfl
theorem sz_proc : (Try.prog.info? 63).map (·.size) = some 3 := by kernel_rfl
theorem sz_sym : (Try.prog.info? 26).map (·.size) = some 4 := by kernel_rfl
theorem ccells_one (c : Cst) : OneRow (ccells c) := by
  intro v hv
  simp only [ccells, List.mem_toArray, List.mem_cons, List.not_mem_nil, or_false] at hv
  rcases hv with rfl | rfl | rfl | rfl | rfl <;> rfl
theorem vcells_one (c : Vr) : OneRow (vcells c) := by
  intro v hv
  simp only [vcells, List.mem_toArray, List.mem_cons, List.not_mem_nil, or_false] at hv
  rcases hv with rfl | rfl | rfl | rfl | rfl <;> rfl
theorem pcells_one (p : Pr) {pv : Value} (h : pv.oneCell' = true) : OneRow (pcells p pv) := by
  intro v hv
  simp only [pcells, List.mem_toArray, List.mem_cons, List.not_mem_nil, or_false] at hv
  rcases hv with rfl | rfl | rfl <;> first | rfl | exact h
theorem scells_one (s : Sm) {cv vv pv : Value} (h1 : cv.oneCell' = true) (h2 : vv.oneCell' = true) (h3 : pv.oneCell' = true) : OneRow (scells s cv vv pv) := by
  intro v hv
  simp only [scells, List.mem_toArray, List.mem_cons, List.not_mem_nil, or_false] at hv
  rcases hv with rfl | rfl | rfl | rfl <;> first | rfl | assumption
theorem RowsAt.one {w : World} {fv : Value} {sz : Nat} {rows : List (List Value)} (h : RowsAt w fv sz rows) : fv.oneCell' = true := by
  obtain ⟨A, cap, rfl, _⟩ := h; rfl
theorem exec_load_const (ρ : Operand → Value) (dst : Option Tmp) (x : Operand) (ty' : TypeId) (pos : String) (after : Array Edge) (guard : Option (Nat × Bool)) :
    execOp ρ ⟨dst, .load 48 x, ty', pos, after, guard⟩ = (do pure (.value (← loadWhole 48 (ρ x)))) := rfl
theorem exec_store_const (ρ : Operand → Value) (dst : Option Tmp) (x y : Operand) (ty' : TypeId) (pos : String) (after : Array Edge) (guard : Option (Nat × Bool)) :
    execOp ρ ⟨dst, .store 48 x y, ty', pos, after, guard⟩ = (do storeWhole 48 (ρ x) (ρ y); pure .skip) := rfl
theorem exec_load_var (ρ : Operand → Value) (dst : Option Tmp) (x : Operand) (ty' : TypeId) (pos : String) (after : Array Edge) (guard : Option (Nat × Bool)) :
    execOp ρ ⟨dst, .load 73 x, ty', pos, after, guard⟩ = (do pure (.value (← loadWhole 73 (ρ x)))) := rfl
theorem exec_store_var (ρ : Operand → Value) (dst : Option Tmp) (x y : Operand) (ty' : TypeId) (pos : String) (after : Array Edge) (guard : Option (Nat × Bool)) :
    execOp ρ ⟨dst, .store 73 x y, ty', pos, after, guard⟩ = (do storeWhole 73 (ρ x) (ρ y); pure .skip) := rfl
theorem exec_load_proc (ρ : Operand → Value) (dst : Option Tmp) (x : Operand) (ty' : TypeId) (pos : String) (after : Array Edge) (guard : Option (Nat × Bool)) :
    execOp ρ ⟨dst, .load 63 x, ty', pos, after, guard⟩ = (do pure (.value (← loadWhole 63 (ρ x)))) := rfl
theorem exec_store_proc (ρ : Operand → Value) (dst : Option Tmp) (x y : Operand) (ty' : TypeId) (pos : String) (after : Array Edge) (guard : Option (Nat × Bool)) :
    execOp ρ ⟨dst, .store 63 x y, ty', pos, after, guard⟩ = (do storeWhole 63 (ρ x) (ρ y); pure .skip) := rfl
theorem exec_load_sym (ρ : Operand → Value) (dst : Option Tmp) (x : Operand) (ty' : TypeId) (pos : String) (after : Array Edge) (guard : Option (Nat × Bool)) :
    execOp ρ ⟨dst, .load 26 x, ty', pos, after, guard⟩ = (do pure (.value (← loadWhole 26 (ρ x)))) := rfl
theorem exec_store_sym (ρ : Operand → Value) (dst : Option Tmp) (x y : Operand) (ty' : TypeId) (pos : String) (after : Array Edge) (guard : Option (Nat × Bool)) :
    execOp ρ ⟨dst, .store 26 x y, ty', pos, after, guard⟩ = (do storeWhole 26 (ρ x) (ρ y); pure .skip) := rfl
end Go.Proofs.Ytgemnmceflcpcaa
