/- Types as they lie in memory: a type, its fields, a row. -/
import Derived.Test.YtmbnpfjimidggaaTyC
import Derived.Test.YtmbnpfjimidggaaRow2
import Derived.Test.YtmbnpfjimidggaaProg
import Derived.WalkKit
import Derived.Lib.Hide
import Derived.ProofKit
import Derived.Handy
namespace Go.Proofs.Ytmbnpfjimidggaa
open Go Go.RowKit Go.Lib Go.Proofs.Ytmbnpfjimidggaa.Ty
set_option linter.unusedVariables false
set_option linter.unusedSimpArgs false
theorem exec_load_type (ρ : Operand → Value) (dst : Option Tmp) (x : Operand) (ty' : TypeId) (pos : String) (after : Array Edge) (guard : Option (Nat × Bool)) :
    execOp ρ ⟨dst, .load 27 x, ty', pos, after, guard⟩ = (do pure (.value (← loadWhole 27 (ρ x)))) := rfl
theorem exec_store_type (ρ : Operand → Value) (dst : Option Tmp) (x y : Operand) (ty' : TypeId) (pos : String) (after : Array Edge) (guard : Option (Nat × Bool)) :
    execOp ρ ⟨dst, .store 27 x y, ty', pos, after, guard⟩ = (do storeWhole 27 (ρ x) (ρ y); pure .skip) := rfl
theorem exec_load_field (ρ : Operand → Value) (dst : Option Tmp) (x : Operand) (ty' : TypeId) (pos : String) (after : Array Edge) (guard : Option (Nat × Bool)) :
    execOp ρ ⟨dst, .load 35 x, ty', pos, after, guard⟩ = (do pure (.value (← loadWhole 35 (ρ x)))) := rfl
theorem exec_store_field (ρ : Operand → Value) (dst : Option Tmp) (x y : Operand) (ty' : TypeId) (pos : String) (after : Array Edge) (guard : Option (Nat × Bool)) :
    execOp ρ ⟨dst, .store 35 x y, ty', pos, after, guard⟩ = (do storeWhole 35 (ρ x) (ρ y); pure .skip) := rfl
/-- A type's cells; fv: its fields' list. -/
@[reducible] def tcells (t : Typ) (fv : Value) : Array Value := #[.int .i64 t.form, .int .i64 t.len, .int .i64 t.elem, .int .i64 t.base, fv, .int .i64 t.size, .int .i64 t.level]
@[reducible] def fcells (f : Fld) : Array Value := #[.string f.name, .int .i64 f.type, .int .i64 f.off]
theorem load_type_mid {w : World} {b o : Nat} {cs : Array Value} (h : w.rangeAt b o cs.toList) (hs : cs.size = 7) : (loadWhole 27 (.pointer (some ⟨b, o, none⟩))).run Try.prog w = .ok (.agg cs) w := by
  have := run_loadAt_mid (P := Try.prog) w b o 27 cs.toList _ h Try.underlying27 rfl (by rw [Array.length_toList, hs]; kernel_rfl)
  rwa [Array.toArray_toList] at this
theorem load_field_mid {w : World} {b o : Nat} {cs : Array Value} (h : w.rangeAt b o cs.toList) (hs : cs.size = 3) : (loadWhole 35 (.pointer (some ⟨b, o, none⟩))).run Try.prog w = .ok (.agg cs) w := by
  have := run_loadAt_mid (P := Try.prog) w b o 35 cs.toList _ h Try.underlying35 rfl (by rw [Array.length_toList, hs]; kernel_rfl)
  rwa [Array.toArray_toList] at this
theorem load_type {w : World} {g : Nat} {cs : Array Value} {t : TypeId} (h : Blk w g cs t) (hs : cs.size = 7) : (loadWhole 27 (.pointer (some ⟨g, 0, none⟩))).run Try.prog w = .ok (.agg cs) w :=
  run_loadRow h _ _ Try.underlying27 rfl (by rw [hs]; kernel_rfl)
theorem load_field {w : World} {g : Nat} {cs : Array Value} {t : TypeId} (h : Blk w g cs t) (hs : cs.size = 3) : (loadWhole 35 (.pointer (some ⟨g, 0, none⟩))).run Try.prog w = .ok (.agg cs) w :=
  run_loadRow h _ _ Try.underlying35 rfl (by rw [hs]; kernel_rfl)
theorem loadVar_type {w : World} {g : Nat} {cs : Array Value} {t : TypeId} (h : Blk w g cs t) (hs : cs.size = 7) : (loadVar 27 ⟨g, 0, none⟩).run Try.prog w = .ok (.agg cs) w :=
  run_loadVarRow h _ _ Try.underlying27 rfl (by rw [hs]; kernel_rfl)
theorem loadVar_field {w : World} {g : Nat} {cs : Array Value} {t : TypeId} (h : Blk w g cs t) (hs : cs.size = 3) : (loadVar 35 ⟨g, 0, none⟩).run Try.prog w = .ok (.agg cs) w :=
  run_loadVarRow h _ _ Try.underlying35 rfl (by rw [hs]; kernel_rfl)
theorem store_type {w : World} {g : Nat} {old cs : Array Value} {t : TypeId} (h : Blk w g old t) (ho : old.size = 7) (hs : cs.size = 7) (h1 : OneRow cs) : (storeWhole 27 (.pointer (some ⟨g, 0, none⟩)) (.agg cs)).run Try.prog w = .ok () (w.setRow g cs) :=
  run_storeRow h _ (by rw [hs]; kernel_rfl) (ho.trans hs.symm) h1
theorem store_field {w : World} {g : Nat} {old cs : Array Value} {t : TypeId} (h : Blk w g old t) (ho : old.size = 3) (hs : cs.size = 3) (h1 : OneRow cs) : (storeWhole 35 (.pointer (some ⟨g, 0, none⟩)) (.agg cs)).run Try.prog w = .ok () (w.setRow g cs) :=
  run_storeRow h _ (by rw [hs]; kernel_rfl) (ho.trans hs.symm) h1
theorem store_type_new (w : World) (Z cs : Array Value) (t : TypeId) (ho : Z.size = 7) (hs : cs.size = 7) (h1 : OneRow cs) : (storeWhole 27 (.pointer (some ⟨w.heap.size, 0, none⟩)) (.agg cs)).run Try.prog (w.alloc (.cells Z t)) = .ok () (w.alloc (.cells cs t)) := by
  have := store_type (Blk.new w Z t) ho hs h1
  rwa [alloc_setRow] at this
theorem store_field_new (w : World) (Z cs : Array Value) (t : TypeId) (ho : Z.size = 3) (hs : cs.size = 3) (h1 : OneRow cs) : (storeWhole 35 (.pointer (some ⟨w.heap.size, 0, none⟩)) (.agg cs)).run Try.prog (w.alloc (.cells Z t)) = .ok () (w.alloc (.cells cs t)) := by
  have := store_field (Blk.new w Z t) ho hs h1
  rwa [alloc_setRow] at this
/-! What lies in memory. -/
/-- A field's numbers fit, its name can be. -/
def FOk (f : Fld) : Prop := f.name.size ≤ maxLen ∧ (Lit.int .i64 f.type).wf = true ∧ (Lit.int .i64 f.off).wf = true
def FldsAt (w : World) (fv : Value) (F : List Fld) : Prop :=
  ∃ A cap, fv = .slice A F.length cap ∧ F.length ≤ cap ∧ cap ≤ maxLen ∧ (∀ f ∈ F, FOk f) ∧ ∀ k f, F[k]? = some f → ∃ b off, A = some ⟨b, off, none⟩ ∧ b < w.heap.size ∧ w.rangeAt b (off + k * 3) (fcells f).toList
def TOk (t : Typ) : Prop := (Lit.int .i64 t.form).wf = true ∧ (Lit.int .i64 t.len).wf = true ∧ (Lit.int .i64 t.elem).wf = true ∧ (Lit.int .i64 t.base).wf = true ∧ (Lit.int .i64 t.size).wf = true ∧ (Lit.int .i64 t.level).wf = true
/-- A row of types. -/
structure TysAt (w : World) (A : Option Addr) (n : Nat) (L : List Typ) : Prop where
  cap : L.length ≤ n
  max : n ≤ maxLen
  ok : ∀ t ∈ L, TOk t
  at_ : ∀ k t, L[k]? = some t → ∃ b off fv, A = some ⟨b, off, none⟩ ∧ b < w.heap.size ∧ w.rangeAt b (off + k * 7) (tcells t fv).toList ∧ FldsAt w fv t.fields
theorem range_below {w w' : World} {B b o : Nat} {cs : List Value} (h : w.rangeAt b o cs) (hb : Below B w w') (hlt : b < B) : w'.rangeAt b o cs := fun j u hj => by
  rw [World.cell?_of_block (hb.block b hlt)]; exact h j u hj
theorem FldsAt.below {w w' : World} {fv : Value} {F : List Fld} (h : FldsAt w fv F) (hb : Below w.heap.size w w') : FldsAt w' fv F := by
  obtain ⟨A, cap, rfl, h1, h2, h3, h4⟩ := h
  refine ⟨A, cap, rfl, h1, h2, h3, fun k f hf => ?_⟩
  obtain ⟨b, off, e, hlt, hr⟩ := h4 k f hf
  exact ⟨b, off, e, Nat.lt_of_lt_of_le hlt hb.size, range_below hr hb hlt⟩
theorem TysAt.below {w w' : World} {A : Option Addr} {cap : Nat} {L : List Typ} (h : TysAt w A cap L) (hb : Below w.heap.size w w') : TysAt w' A cap L := by
  refine ⟨h.cap, h.max, h.ok, fun k t ht => ?_⟩
  obtain ⟨b, off, fv, e, hlt, hr, hf⟩ := h.at_ k t ht
  exact ⟨b, off, fv, e, Nat.lt_of_lt_of_le hlt hb.size, range_below hr hb hlt, hf.below hb⟩
theorem TysAt.take {w : World} {A : Option Addr} {cap : Nat} {L : List Typ} (h : TysAt w A cap L) (i : Nat) : TysAt w A cap (L.take i) := by
  refine ⟨by rw [List.length_take]; have := h.cap; omega, h.max, fun t ht => h.ok t (List.mem_of_mem_take ht), fun k t ht => ?_⟩
  have hk : k < i := by
    rcases Nat.lt_or_ge k i with g | g
    · exact g
    · rw [List.getElem?_eq_none (by rw [List.length_take]; omega)] at ht; cases ht
  rw [List.getElem?_take_of_lt hk] at ht
  exact h.at_ k t ht
theorem FldsAt.one {w : World} {fv : Value} {F : List Fld} (h : FldsAt w fv F) : fv.oneCell' = true := by
  obtain ⟨A, cap, rfl, _⟩ := h; rfl
theorem tcells_one {t : Typ} {fv : Value} (h : fv.oneCell' = true) : OneRow (tcells t fv) := by
  intro v hv
  simp only [tcells, List.mem_toArray, List.mem_cons, List.not_mem_nil, or_false] at hv
  rcases hv with rfl | rfl | rfl | rfl | rfl | rfl | rfl <;> first | rfl | exact h
theorem fcells_one (f : Fld) : OneRow (fcells f) := by
  intro v hv
  simp only [fcells, List.mem_toArray, List.mem_cons, List.not_mem_nil, or_false] at hv
  rcases hv with rfl | rfl | rfl <;> rfl
/-- A place of a row. -/
theorem TysAt.get {w : World} {A : Option Addr} {cap : Nat} {L : List Typ} (h : TysAt w A cap L) {k : Nat} (hk : k < L.length) :
    ∃ b off fv, A = some ⟨b, off, none⟩ ∧ b < w.heap.size ∧ w.rangeAt b (off + k * 7) (tcells (Ty.at_ L (k : Nat)) fv).toList ∧ FldsAt w fv (Ty.at_ L (k : Nat)).fields := by
  obtain ⟨b, off, fv, h1, h2, h3, h4⟩ := h.at_ k (L.getD k nil_) (by rw [List.getD_eq_getElem?_getD, List.getElem?_eq_getElem hk]; rfl)
  rw [Ty.at_nat hk]
  exact ⟨b, off, fv, h1, h2, h3, h4⟩
theorem TysAt.tok {w : World} {A : Option Addr} {cap : Nat} {L : List Typ} (h : TysAt w A cap L) (t : Int) : TOk (Ty.at_ L t) := by
  by_cases hc : 0 ≤ t ∧ t < L.length
  · unfold Ty.at_; rw [if_pos hc, List.getD_eq_getElem?_getD, List.getElem?_eq_getElem (by omega)]
    exact h.ok _ (List.getElem_mem _)
  · rw [Ty.at_out hc]; exact ⟨rfl, rfl, rfl, rfl, rfl, rfl⟩
theorem wf_bd {x : Int} (h : (Lit.int .i64 x).wf = true) : -9223372036854775808 ≤ x ∧ x ≤ 9223372036854775807 := by
  simp [Lit.wf, IntKind.min, IntKind.max, IntKind.signed, IntKind.bits] at h
  exact h
/-- Zero cells of a type, of a field. -/
@[reducible] def zType : Array Value := #[.int .i64 0, .int .i64 0, .int .i64 0, .int .i64 0, .slice none 0 0, .int .i64 0, .int .i64 0]
@[reducible] def zField : Array Value := #[.string ⟨#[]⟩, .int .i64 0, .int .i64 0]
theorem FldsAt.none_ (w : World) : FldsAt w (.slice none 0 0) [] := ⟨none, 0, rfl, Nat.le_refl _, Nat.zero_le _, (fun f h => by cases h), fun k f h => by cases h⟩
attribute [local go_sem ↓] exec_load_type exec_store_type exec_load_field exec_store_field
attribute [local go_sem] tcells fcells
theorem ret_bool {a b : Bool} (h : a = b) : Ending.returned (.bool a) = .returned (.bool b) := by rw [h]
theorem ret_int {k : IntKind} {a b : Int} (h : a = b) : Ending.returned (.int k a) = .returned (.int k b) := by rw [h]
theorem field_type0 (a b c d fv g h : Value) (W : World) : (Instr.field 27 (.agg #[a, b, c, d, fv, g, h]) 0).run Try.prog W = .ok a W := by
  simp [Instr.field, go_sem, Try.underlying27, asAgg]
section
variable {w : World} {A : Option Addr} {cap : Nat} {L : List Typ}
set_option maxHeartbeats 1000000 in
theorem at_any (H : TysAt w A cap L) (t : Int) :
    Calls Try.prog 23 #[.slice A L.length cap, .int .i64 t] w fun e w' => (∃ fv, e = .returned (.agg (tcells (Ty.at_ L t) fv)) ∧ FldsAt w' fv (Ty.at_ L t).fields) ∧ Below w.heap.size w w' := by
  by_cases hc : 0 ≤ t ∧ t < L.length
  · obtain ⟨k, rfl⟩ : ∃ k : Nat, t = (k : Int) := ⟨t.toNat, by omega⟩
    have hk : k < L.length := by omega
    obtain ⟨b, off, fv, rfl, hb, hr, hf⟩ := H.get hk
    have hB := (Below.refl w.heap.size w).alloc (Nat.le_refl _) (.cells zType 27)
    have hl := load_type_mid (range_below hr hB hb) rfl
    have hst := store_type_new w zType _ 27 rfl rfl (tcells_one (t := Ty.at_ L (k : Nat)) hf.one)
    have hB2 := Lib.hid ((Below.refl w.heap.size w).alloc (Nat.le_refl _) (.cells (tcells (Ty.at_ L (k : Nat)) fv) 27))
    clear hB
    go_enter Try.func23, Try.ntmps23
    go_wp2_with fail
    have hres := loadVar_type (Blk.new w (tcells (Ty.at_ L (k : Nat)) fv) 27) rfl
    refine bodyPost_ret (v := .agg (tcells (Ty.at_ L (k : Nat)) fv)) ?_ rfl ⟨⟨fv, rfl, hf.below hB2.out⟩, hB2.out⟩
    simp [results, Try.results23, asAddr, hres]
  · have hst := store_type_new w zType zType 27 rfl rfl (tcells_one (t := nil_) (fv := .slice none 0 0) rfl)
    have hB2 := Lib.hid ((Below.refl w.heap.size w).alloc (Nat.le_refl _) (.cells zType 27))
    have hres := loadVar_type (Blk.new w zType 27) rfl
    have hb := wf_bd (H.tok t).1
    have E := Lib.hid (Ty.at_out hc)
    by_cases h0 : t < 0
    · clear hc
      go_enter Try.func23, Try.ntmps23
      go_wp2_with fail
      refine bodyPost_ret (v := .agg zType) ?_ rfl ⟨⟨.slice none 0 0, by rw [E.out]; rfl, by rw [E.out]; exact FldsAt.none_ _⟩, hB2.out⟩
      simp [results, Try.results23, asAddr, hres]
    · have h1 : (L.length : Int) ≤ t := by omega
      clear hc
      go_enter Try.func23, Try.ntmps23
      go_wp2_with fail
      refine bodyPost_ret (v := .agg zType) ?_ rfl ⟨⟨.slice none 0 0, by rw [E.out]; rfl, by rw [E.out]; exact FldsAt.none_ _⟩, hB2.out⟩
      simp [results, Try.results23, asAddr, hres]
set_option maxHeartbeats 1000000 in
theorem thing_any (H : TysAt w A cap L) (t : Int) :
    Calls Try.prog 19 #[.slice A L.length cap, .int .i64 t] w fun e w' => e = .returned (.bool (Ty.thing L t)) ∧ Below w.heap.size w w' := by
  have F0 := field_type0
  unfold thing thingF
  go_enter Try.func19, Try.ntmps19
  go_wp2_with (go_at_call 23; refine (at_any H t).mono ?_; rintro e w1 ⟨⟨fv, rfl, hfv⟩, hb⟩)
  all_goals
    go_ret
    refine ⟨ret_bool ?_, hb⟩
    clear F0 H hfv
    generalize (Ty.at_ L t).form = f at *
    first | (simp; done) | (rw [Bool.eq_iff_iff]; simp; omega) | (rw [Bool.eq_iff_iff]; simp)
set_option maxHeartbeats 1000000 in
theorem align_any (H : TysAt w A cap L) (G : RowG L) (k : Nat) (hk : k < L.length) :
    Calls Try.prog 20 #[.slice A L.length cap, .int .i64 k] w fun e w' => e = .returned (.int .i64 (al L k)) ∧ w = w' := by
  obtain ⟨b, off, fv, rfl, hb, _⟩ := H.get hk
  have HH := Lib.hid H
  have HG := Lib.hid G
  have HK := Lib.hid hk
  clear H G
  go_enter Try.func20, Try.ntmps20
  go_wp2_with fail
  go_loop [1] (fun v => ∃ j : Nat, j < L.length ∧ v = .int .i64 j ∧ al L (j : Nat) = al L (k : Nat)) (fun v => (intOf v).toNat)
  case atStart => exact ⟨k, HK.out, rfl, rfl⟩
  case round =>
    obtain ⟨j, hj, rfl, he⟩ := hrel
    obtain ⟨b', off', fv', e1, _, hr, _⟩ := HH.out.get hj
    cases e1
    have c0 : w.cell? ⟨b, off + j * 7, none⟩ = some (.int .i64 (Ty.at_ L (j : Nat)).form) := hr 0 _ rfl
    have c2 : w.cell? ⟨b, off + j * 7 + 2, none⟩ = some (.int .i64 (Ty.at_ L (j : Nat)).elem) := hr 2 _ rfl
    clear hr
    by_cases hf : (Ty.at_ L (j : Nat)).form = 8
    · have hs := al_arr HG.out hf
      obtain ⟨e0, e1⟩ := HG.out.arr _ hf
      obtain ⟨m, hm⟩ : ∃ m : Nat, (Ty.at_ L (j : Nat)).elem = (m : Int) := ⟨(Ty.at_ L (j : Nat)).elem.toNat, by omega⟩
      rw [hm] at hs e1 c2
      rw [hf] at c0
      have H1 := Lib.hid (hs.symm.trans he)
      clear hs he hf hm e0
      go_wp2_with fail
      go_round
      case rel => exact ⟨m, by omega, rfl, H1.out⟩
      case measure => simp [intOf]; omega
    · have hs := al_not hf
      rw [he] at hs
      have H1 := Lib.hid hs
      have hf1 : ((Ty.at_ L (j : Nat)).form == 8) = false := by simpa using hf
      clear hs he
      generalize (Ty.at_ L (j : Nat)).form = f at *
      by_cases h2 : f = 2
      · subst h2
        go_wp2_with fail
        go_ret
        exact ⟨ret_int (by rw [H1.out]; rfl), rfl⟩
      · by_cases h3 : f = 3
        · subst h3
          go_wp2_with fail
          go_ret
          exact ⟨ret_int (by rw [H1.out]; rfl), rfl⟩
        · by_cases h4 : f = 4
          · subst h4
            go_wp2_with fail
            go_ret
            exact ⟨ret_int (by rw [H1.out]; rfl), rfl⟩
          · go_wp2_with fail
            go_ret
            exact ⟨ret_int (by rw [H1.out, if_neg (by omega)]), rfl⟩
end
end Go.Proofs.Ytmbnpfjimidggaa
