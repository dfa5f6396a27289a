/- A record that is laid out: its head. -/
import Derived.Test.YtmbnpfjimidggaaTyJ
import Derived.Test.YtmbnpfjimidggaaTch
import Derived.Deep.CutRange
import Derived.Deep.DeepCutAuto
import Derived.RegionTactic
import Derived.ChangeAlike
import Derived.StillTailTactics
namespace Go.Proofs.Ytmbnpfjimidggaa
open Go Go.RowKit Go.Lib Go.Proofs.Ytmbnpfjimidggaa.Ty Go.Maps Go.WideMaps
set_option linter.unusedVariables false
set_option linter.unusedSimpArgs false
attribute [local go_sem ↓] exec_load_type exec_store_type exec_load_field exec_store_field
attribute [local go_sem] tcells fcells
section
variable {w : World} {A : Option Addr} {cap : Nat} {L : List Typ}
/-- What a record comes to, or none. -/
def RecPost (o : Option Typ) (w : World) (e : Ending) (w' : World) : Prop := match o with | some T => Made T w e w' | none => MadeNo w e w'
theorem RecPost.no {o : Option Typ} {w : World} {e : Ending} {w' : World} (h : o = none) (m : MadeNo w e w') : RecPost o w e w' := by subst h; exact m
theorem RecPost.yes {o : Option Typ} {T : Typ} {w : World} {e : Ending} {w' : World} (h : o = some T) (m : Made T w e w') : RecPost o w e w' := by subst h; exact m
def flatF (l : List Fld) : List Value := l.flatMap fun f => (fcells f).toList
theorem flatF_length (l : List Fld) : (flatF l).length = l.length * 3 := by
  induction l with
  | nil => rfl
  | cons f l ih => unfold flatF at ih ⊢; rw [List.flatMap_cons, List.length_append, ih]; simp; omega
theorem flatF_get : ∀ (l : List Fld) (k : Nat) (f : Fld), l[k]? = some f → ∀ (j : Nat) (u : Value), (fcells f).toList[j]? = some u → (flatF l)[k * 3 + j]? = some u
  | [], k, f, h, _, _, _ => by simp at h
  | g :: l, 0, f, h, j, u, hu => by
    simp only [List.getElem?_cons_zero, Option.some.injEq] at h; subst h
    have hj : j < (fcells g).toList.length := (List.getElem?_eq_some_iff.1 hu).1
    unfold flatF
    rw [List.flatMap_cons, Nat.zero_mul, Nat.zero_add, List.getElem?_append_left hj]; exact hu
  | g :: l, k + 1, f, h, j, u, hu => by
    simp only [List.getElem?_cons_succ] at h
    unfold flatF
    rw [List.flatMap_cons, List.getElem?_append_right (by simp; omega), show (k + 1) * 3 + j - (fcells g).toList.length = k * 3 + j from by simp; omega]
    exact flatF_get l k f h j u hu
theorem flatF_snoc (l : List Fld) (f : Fld) : flatF (l ++ [f]) = flatF l ++ (fcells f).toList := by unfold flatF; simp
theorem own_flds {wr : World} {B : Nat} {rv : Value} {acc : List Fld} (h : wr.ownsRow B 35 3 rv acc.length (flatF acc)) (hok : ∀ f ∈ acc, FOk f) : FldsAt wr rv acc := by
  rcases h.2 with ⟨rfl, h1⟩ | ⟨g, cp, cur, rfl, h1, h2, h3, h4, h5, h6⟩
  · have : acc = [] := List.length_eq_zero_iff.1 h1
    subst this; exact FldsAt.none_ _
  · refine ⟨_, cp, rfl, h3, h4, hok, fun k f hf => ⟨g, 0, rfl, (Array.getElem?_eq_some_iff.1 h2).1, fun j u hu => ?_⟩⟩
    rw [cell_of_row wr g _ cur 35 (0, 0) h2]
    have := flatF_get acc k f hf j u hu
    rw [← h6] at this
    rw [List.getElem?_take] at this
    split at this
    · simpa using this
    · cases this
theorem own_one {wr : World} {B : Nat} {rv : Value} {n : Nat} {xs : List Value} {e : TypeId} {s : Nat} (h : wr.ownsRow B e s rv n xs) : rv.oneCell' = true := by
  rcases h.2 with ⟨rfl, h1⟩ | ⟨g, cp, cur, rfl, _⟩ <;> rfl
theorem FldsAt.ok {w : World} {fv : Value} {F : List Fld} (h : FldsAt w fv F) : ∀ f ∈ F, FOk f := by
  obtain ⟨A, cap, rfl, h1, h2, h3, h4⟩ := h; exact h3
def keyL (nm : ByteArray) : Lit := .string nm.data.toList
theorem keyL_inj {a b : ByteArray} (h : keyL a = keyL b) : a = b := by
  unfold keyL at h
  simp only [Lit.string.injEq] at h
  cases a; cases b; congr 1; exact Array.toList_inj.1 h
/-- Which names have been seen, each once. -/
def Seen (D : DataW Unit) (l : List ByteArray) : Prop := IsMap D ∧ ∀ nm, D.atKey (keyL nm) (.lit (.int .i64 0)) = .lit (.int .i64 (if had l nm = true then 1 else 0))
theorem seen_nil : Seen (.map []) [] := ⟨isMap_empty, fun nm => rfl⟩
theorem seen_put {D : DataW Unit} {l : List ByteArray} (h : Seen D l) (nm : ByteArray) : Seen (D.put (keyL nm) (.lit (.int .i64 1))) (l ++ [nm]) := by
  refine ⟨h.1.put _ _, fun n => ?_⟩
  by_cases e : n = nm
  · subst e
    rw [atKey_put_same h.1 (by trivial), if_pos (had_iff.2 (by simp))]
  · rw [atKey_put_other (fun g => e (keyL_inj g)), h.2 n]
    by_cases hn : n ∈ l
    · rw [if_pos (had_iff.2 hn), if_pos (had_iff.2 (by simp [hn]))]
    · rw [if_neg (fun g => hn (had_iff.1 g)), if_neg (fun g => by have := had_iff.1 g; simp [hn, e] at this)]
theorem lawS : Keyed Try.prog 9 := string_keyed Try.underlying9
theorem zeroI (w : World) : (zeroValue 3).run Try.prog w = .ok (.int .i64 0) w := by kernel_rfl
/-- The count of a name. -/
theorem seen_look {W : World} {gm n : Nat} {D : DataW Unit} {l : List ByteArray} (h : W.ownsMap Try.prog 9 (plainElem Try.prog 3) gm n D) (hs : Seen D l) (nm : ByteArray) (hn : nm.size ≤ maxLen) {c : Int} (hc : c = if had l nm = true then 1 else 0) :
    (Instr.lookup 57 (.map (some gm)) (.string nm) false).run Try.prog W = .ok (.int .i64 c) W := by
  obtain ⟨c', hrun, hat, _⟩ := h.lookup_int lawS Try.underlying57 Try.underlying3 (zeroI _) (keyOf_string_mk Try.underlying9 hn)
  have := hs.2 nm
  unfold keyL at this
  rw [this] at hat
  simp only [DataW.lit.injEq, Lit.int.injEq, true_and] at hat
  rw [hrun, hc, ← hat]
theorem own_lt {w : World} {base : Nat} {e : TypeId} {size : Nat} {v : Value} {n : Nat} {xs : List Value} (h : w.ownsRow base e size v n xs) (g : Nat) (hg : v.ownBlock = some g) : g < w.heap.size ∧ base ≤ g := by
  have := h.lt g hg; exact ⟨this.2, this.1⟩
theorem recAt_fok {A : List Typ} (G : RowG A) {base : Int} {F : List Fld} (hl : F.length ≤ 200) {acc : List Fld} {sz : Int} (h : recAt A base (size0 A base) F F.length = some (acc, sz)) (hok : ∀ f ∈ F, FOk f) : ∀ f ∈ acc, FOk f := by
  intro f hf
  obtain ⟨i, hi⟩ := List.mem_iff_getElem?.1 hf
  have hil : i < acc.length := (List.getElem?_eq_some_iff.1 hi).1
  rw [(recAt_len _ _ _ (Nat.le_refl _) h).1] at hil
  obtain ⟨a1, s1, e1, e2, _⟩ := recAt_field h (List.getElem?_eq_getElem hil)
  rw [hi] at e2
  have e3 := Option.some.inj e2
  obtain ⟨_, _, b1, b2⟩ := recAt_inv G (size0_bd G base) i a1 s1 (by omega) e1
  obtain ⟨o1, o2, _⟩ := off_ge A s1 F[i].type b1
  have := hok _ (List.getElem_mem hil)
  rw [e3]
  exact ⟨this.1, this.2.1, WalkArith.wf_i64 (by show _ ∧ _; simp only; omega)⟩
theorem own_form {wr : World} {B : Nat} {rv : Value} {n : Nat} {xs : List Value} {e : TypeId} {s : Nat} (h : wr.ownsRow B e s rv n xs) : ∃ q m c, rv = .slice q m c := by
  rcases h.2 with ⟨rfl, h1⟩ | ⟨g, cp, cur, rfl, _⟩
  · exact ⟨_, _, _, rfl⟩
  · exact ⟨_, _, _, rfl⟩
/-- The count of a name that was seen once and is counted again. -/
theorem seen_two {W : World} {gm n : Nat} {D : DataW Unit} {nm : ByteArray} (h : W.ownsMap Try.prog 9 (plainElem Try.prog 3) gm n (D.put (.string nm.data.toList) (.lit (.int .i64 2)))) (hD : IsMap D) (hn : nm.size ≤ maxLen) :
    (Instr.lookup 57 (.map (some gm)) (.string nm) false).run Try.prog W = .ok (.int .i64 2) W := by
  obtain ⟨c', hrun, hat, _⟩ := h.lookup_int lawS Try.underlying57 Try.underlying3 (zeroI _) (keyOf_string_mk Try.underlying9 hn)
  rw [atKey_put_same hD (by trivial)] at hat
  simp only [DataW.lit.injEq, Lit.int.injEq, true_and] at hat
  rw [hrun, ← hat]
/-- The state of the loop over the fields. -/
structure RecS (w : World) (gm : Nat) (L : List Typ) (base : Int) (F : List Fld) (k : Nat) (acc : List Fld) (sz : Int) (rv : Value) (wr : World) : Prop where
  rec_ : recAt L base (size0 L base) F k = some (acc, sz)
  blw : Below w.heap.size w wr
  b0 : Blk wr w.heap.size zType 27
  b1 : Blk wr (w.heap.size + 1) (tcells ⟨10, 0, 0, base, acc, sz, level0 L base⟩ rv) 27
  ge : w.heap.size + 2 ≤ gm
  lt : gm < wr.heap.size
  map : ∃ D, wr.ownsMap Try.prog 9 (plainElem Try.prog 3) gm k D ∧ Seen D ((F.take k).map Fld.name)
  own : wr.ownsRow (gm + 1) 35 3 rv acc.length (flatF acc)
theorem RecS.touch {w W W' : World} {gm : Nat} {base : Int} {F : List Fld} {k : Nat} {acc : List Fld} {sz : Int} {rv : Value} {L : List Typ} {r : List Nat} (h : RecS w gm L base F k acc sz rv W) (T : Touch W W' r) (hr : ∀ g ∈ r, gm < g ∧ rv.ownBlock ≠ some g) : RecS w gm L base F k acc sz rv W' := by
  have hge := h.ge
  have n : ∀ g, g ≤ gm → g ∉ r := fun g hg hm => by have := (hr g hm).1; omega
  obtain ⟨D, hm, hs⟩ := h.map
  exact ⟨h.rec_, h.blw.trans (T.below h.blw.size (fun g hg => by have := (hr g hg).1; omega)), T.blk h.b0 (n _ (by omega)), T.blk h.b1 (n _ (by omega)), hge, Nat.lt_of_lt_of_le h.lt T.size, ⟨D, T.map hm (n _ (Nat.le_refl _)), hs⟩,
    T.owns h.own (fun g hg hm => (hr g hm).2 hg)⟩
theorem info_field : (Try.prog.info? 35).map (fun i => (i.zero, i.size, i.bytes)) = some (some (.agg zField), 3, 32) := by kernel_rfl
set_option maxHeartbeats 8000000 in
set_option maxRecDepth 100000 in
theorem record_any (H : TysAt w A cap L) (hL : 0 < L.length) (G : RowG L) (base : Int) (hbw : (Lit.int .i64 base).wf = true) {fv : Value} {F : List Fld} (hF : FldsAt w fv F) :
    Calls Try.prog 16 #[.slice A L.length cap, .int .i64 base, fv] w (RecPost (recordT L base F) w) := by
  obtain ⟨b, off, fv0, rfl, hb, _⟩ := H.get hL
  obtain ⟨Af, cf, rfl, hcf1, hcf2, hAf⟩ := hF.form
  have F0 := field_type0
  have hmm := @run_makeMap Try.prog
  have hb1 := wf_bd hbw
  unfold maxLen at hcf2
  have h0 := Blk.new w zType 27
  have h1 := Blk.new (w.alloc (.cells zType 27)) (tcells ⟨10, 0, 0, base, [], 0, 0⟩ (.slice none 0 0)) 27
  have hst := store_type_new (w.alloc (.cells zType 27)) zType _ 27 rfl rfl (tcells_one (t := ⟨10, 0, 0, base, [], 0, 0⟩) (fv := .slice none 0 0) rfl)
  have hb0 := (((Below.refl w.heap.size w).alloc (Nat.le_refl _) (.cells zType 27)).alloc (by simp) (.cells (tcells ⟨10, 0, 0, base, [], 0, 0⟩ (.slice none 0 0)) 27))
  simp only [World.size_alloc] at h1 hst
  have h00 := h0.old (.cells (tcells ⟨10, 0, 0, base, [], 0, 0⟩ (.slice none 0 0)) 27)
  have HH := Lib.hid H
  have HG := Lib.hid G
  have HF := Lib.hid hF
  have HAF := Lib.hid hAf
  have K0 := Lib.hid h00
  have K1 := Lib.hid h1
  have HB := Lib.hid hb0
  clear H G hF hAf h0 h00 h1 hb0 hbw
  go_enter Try.func16, Try.ntmps16
  go_upto_if 18 with fail
  generalize (w.alloc (.cells zType 27)).alloc (.cells (tcells ⟨10, 0, 0, base, [], 0, 0⟩ (.slice none 0 0)) 27) = W0 at K0 K1 HB ⊢
  clear hst
  go_cut [] from 18 to 37 (fun wx => Hid (Blk wx w.heap.size zType 27) ∧ Hid (Blk wx (w.heap.size + 1) (tcells ⟨10, 0, 0, base, [], size0 L base, level0 L base⟩ (.slice none 0 0)) 27) ∧ Hid (Below w.heap.size w wx) ∧ Hid (base = 0 ∨ (Ty.at_ L base).form = 10))
  case first =>
    by_cases h0 : base = 0
    · subst h0
      go_wp2_with fail
      go_meet
      have e1 : size0 L 0 = 0 := if_pos rfl
      have e2 : level0 L 0 = 0 := if_pos rfl
      rw [e1, e2]
      exact ⟨K0, K1, HB, Lib.hid (.inl (by first | trivial | rfl))⟩
    · have h01 : (base != 0) = true := by simpa using h0
      by_cases hf : (Ty.at_ L base).form = 10
      · have hf1 : ((Ty.at_ L base).form != 10) = false := by simpa using hf
        have hin := at_rec hf
        obtain ⟨k, rfl⟩ : ∃ k : Nat, base = (k : Int) := ⟨base.toNat, by omega⟩
        have hk : k < L.length := by omega
        have hk1 : (k : Int) < (L.length : Int) := by omega
        obtain ⟨fvk, _, _, hr⟩ := HH.out.cells hk
        have HR := Lib.hid hr
        have hz := HG.out.size (k : Nat)
        have hl := HG.out.level (k : Nat)
        have z0 := hz.1
        have z1 := hz.2
        have l0 := hl.1
        have l1 := hl.2
        have HFF := Lib.hid hf
        have HN0 := Lib.hid h0
        clear hr hz hl hf h0 hin
        go_wp2_with (go_at_call 23; refine (at_any (HH.out.below HB.out) (k : Int)).mono ?_; rintro e w1 ⟨⟨fv1, rfl, hfv1⟩, hb2⟩; have HB1 := Lib.hid (HB.out.trans (hb2.mono HB.out.size)); have K01 := Lib.hid (K0.out.step hb2); have K11 := Lib.hid (K1.out.step hb2); have c5 : w1.cell? ⟨b, off + k * 7 + 5, none⟩ = some (.int .i64 (Ty.at_ L (k : Nat)).size) := range_below HR.out HB1.out hb 5 _ rfl; have c6 : w1.cell? ⟨b, off + k * 7 + 6, none⟩ = some (.int .i64 (Ty.at_ L (k : Nat)).level) := range_below HR.out HB1.out hb 6 _ rfl; have r5 : w1.cell? ⟨w.heap.size + 1, 5, none⟩ = some (.int .i64 0) := K11.out.cell 5; have r6 : w1.cell? ⟨w.heap.size + 1, 6, none⟩ = some (.int .i64 0) := K11.out.cell 6; have f5 := K11.out.frozen 5; have f6 := K11.out.frozen 6; clear hb2 hfv1)
        have hne : b ≠ w.heap.size + 1 := by omega
        have e1 : size0 L (k : Int) = (Ty.at_ L (k : Nat)).size := if_neg HN0.out
        have e2 : level0 L (k : Int) = (Ty.at_ L (k : Nat)).level + 1 := if_neg HN0.out
        have HE1 := Lib.hid e1
        have HE2 := Lib.hid e2
        clear e1 e2
        go_region
        all_goals
          go_wp2_with fail
          go_meet
          rw [HE1.out, HE2.out]
          refine ⟨Lib.hid (Blk.drew ((K01.out.far (by simp) _).far (by simp) _)), Lib.hid (Blk.drew ((K11.out.set 5 _).set 6 _)), Lib.hid (((HB1.out.setCell (by simp) _).setCell (by simp) _).drew), Lib.hid (.inr HFF.out)⟩
      · have hf1 : ((Ty.at_ L base).form != 10) = true := by simpa using hf
        have HN := Lib.hid (show recordT L base F = none by unfold recordT; rw [if_pos ⟨h0, hf⟩])
        clear hf h0
        go_wp2_with (go_at_call 23; refine (at_any (HH.out.below HB.out) base).mono ?_; rintro e w1 ⟨⟨fv1, rfl, hfv1⟩, hb2⟩; have HB1 := Lib.hid (HB.out.trans (hb2.mono HB.out.size)); have K01 := Lib.hid (K0.out.step hb2); have K11 := Lib.hid (K1.out.step hb2); have hl := load_type K11.out rfl; have hst := store_type K01.out rfl rfl (tcells_one (t := ⟨10, 0, 0, base, [], 0, 0⟩) (fv := .slice none 0 0) rfl); have hres := loadVar_type (K01.out.setRow (tcells ⟨10, 0, 0, base, [], 0, 0⟩ (.slice none 0 0))) rfl; clear hb2 hfv1)
        refine bodyPost_ret (v := .tuple #[.agg (tcells ⟨10, 0, 0, base, [], 0, 0⟩ (.slice none 0 0)), .bool false]) ?_ rfl (RecPost.no HN.out (MadeNo.mk _ _ rfl (belRow HB1.out (Nat.le_refl _) _)))
        simp [results, Try.results16, asAddr, hres]
  case rest =>
    obtain ⟨K01, K11, HB1, HBS⟩ := hcut
    clear K0 K1 HB
    have hz := size0_bd HG.out base
    have hlv := level0_bd HG.out base
    have z0 := hz.1
    have z1 := hz.2
    have l0 := hlv.1
    have l1 := hlv.2
    clear hz hlv
    have c6 : wc.cell? ⟨w.heap.size + 1, 6, none⟩ = some (.int .i64 (level0 L base)) := K11.out.cell 6
    have hl := load_type K11.out rfl
    have hst := store_type K01.out rfl rfl (tcells_one (t := ⟨10, 0, 0, base, [], size0 L base, level0 L base⟩) (fv := .slice none 0 0) rfl)
    have hres := loadVar_type (K01.out.setRow (tcells ⟨10, 0, 0, base, [], size0 L base, level0 L base⟩ (.slice none 0 0))) rfl
    by_cases h3 : 3 < level0 L base
    case pos =>
      have HN := Lib.hid (show recordT L base F = none by
        unfold recordT
        split
        · rfl
        · rw [if_pos (.inl h3)])
      go_wp2_with fail
      refine bodyPost_ret (v := .tuple #[.agg (tcells ⟨10, 0, 0, base, [], size0 L base, level0 L base⟩ (.slice none 0 0)), .bool false]) ?_ rfl (RecPost.no HN.out (MadeNo.mk _ _ rfl (belRow HB1.out (Nat.le_refl _) _)))
      simp [results, Try.results16, asAddr, hres]
    by_cases h4 : 200 < F.length
    case pos =>
      have HN := Lib.hid (show recordT L base F = none by
        unfold recordT
        split
        · rfl
        · rw [if_pos (.inr h4)])
      have h41 : (200 : Int) < (F.length : Int) := by omega
      go_wp2_with fail
      refine bodyPost_ret (v := .tuple #[.agg (tcells ⟨10, 0, 0, base, [], size0 L base, level0 L base⟩ (.slice none 0 0)), .bool false]) ?_ rfl (RecPost.no HN.out (MadeNo.mk _ _ rfl (belRow HB1.out (Nat.le_refl _) _)))
      simp [results, Try.results16, asAddr, hres]
    have h41 : ¬ (200 : Int) < (F.length : Int) := by omega
    have h42 : ¬ (200 < F.length) := h4
    have HREC := Lib.hid (show recordT L base F = match recAt L base (size0 L base) F F.length with | none => none | some (acc, sz) => some ⟨10, 0, 0, base, acc, (sz + 3) / 4 * 4, level0 L base⟩ by
      unfold recordT
      rw [if_neg (by have := HBS.out; omega), if_neg (by omega)]
      rfl)
    clear hst hres hl
    go_wp2_with fail
    have hlt0 : w.heap.size + 2 ≤ wc.heap.size := by have := K11.out.lt; omega
    have HS0 := Lib.hid (show RecS w wc.heap.size L base F 0 [] (size0 L base) (.slice none 0 0) (wc.alloc (.map #[] 0)) from
      ⟨rfl, HB1.out.alloc HB1.out.size _, K01.out.old _, K11.out.old _, hlt0, by simp, ⟨_, World.ownsMap_made _ _ _ _, seen_nil⟩, World.ownsRow_nil _ _ _ _⟩)
    generalize wc.heap.size = gm at HS0 ⊢
    generalize wc.alloc (.map #[] 0) = wm at HS0 ⊢
    clear K01 K11 HB1 c6 h3 h4 h41
    go_loopw [50] (fun v wr => ∃ (k : Nat) (acc : List Fld) (sz : Int) (rv : Value), k ≤ F.length ∧ v = .int .i64 k ∧ Hid (RecS w gm L base F k acc sz rv wr)) (fun v _ => F.length - (intOf v).toNat)
    case atStart => exact ⟨0, [], _, _, Nat.zero_le _, rfl, HS0⟩
    case round =>
      obtain ⟨k, acc, sz, rv, hk, rfl, HS⟩ := hrel
      clear HS0
      by_cases hlt : k < F.length
      · obtain ⟨f, hf⟩ : ∃ f, F[k]? = some f := ⟨F[k], List.getElem?_eq_getElem hlt⟩
        have hok := HF.out.ok f (List.mem_of_getElem? hf)
        have hnm : f.name.size ≤ maxLen := hok.1
        rcases HAF.out with hE | ⟨bF, offF, hAe, hbF, hrF⟩
        · rw [hE] at hlt; exact absurd hlt (by simp)
        subst hAe
        obtain ⟨D, hm0, hsn0⟩ := HS.out.map
        obtain ⟨hal, hnms, s0, s1⟩ := recAt_inv HG.out (size0_bd HG.out base) k acc sz hk HS.out.rec_
        have hstep := recAt_step HS.out.rec_ hf
        have hl := load_field_mid (range_below (hrF k f hf) HS.out.blw hbF) rfl
        have hst := store_field_new wr zField (fcells f) 35 rfl rfl (fcells_one f)
        have HBA := Lib.hid (HS.out.blw.alloc HS.out.blw.size (.cells (fcells f) 35))
        have HSTEP := Lib.hid hstep
        have HNM := Lib.hid hnm
        have HS1 := Lib.hid s1
        have HFK := Lib.hid hf
        have HSN := Lib.hid hsn0
        have HM0 := Lib.hid hm0
        have HALN := Lib.hid hal
        have HOK := Lib.hid hok
        have hklt : (k : Int) < (F.length : Int) := by omega
        clear hstep hnm s1 hf hsn0 hm0 hrF hal hnms hok
        cases hfl : fld L base f.name with
        | some x =>
          have HFL := Lib.hid hfl
          clear hfl
          go_upto_region 13 with (go_at_call 18; refine (field_any (HH.out.below HBA.out) hL HG.out base f.name).mono ?_; rw [HFL.out]; simp only [fldV]; rintro e w2 ⟨rfl, hb2⟩; have hst2 := store_field_new w2 zField (fcells x) 35 rfl rfl (fcells_one x); have HKF := Lib.hid (((Blk.new wr (fcells f) 35).step hb2).old (.cells (fcells x) 35)); have HT3 := Lib.hid ((((Below.refl wr.heap.size wr).alloc (Nat.le_refl _) (.cells (fcells f) 35)).trans (hb2.mono (by simp))).alloc (by have := hb2.size; simp at this; omega) (.cells (fcells x) 35)); clear hb2)
          clear hst2 hst hl
          generalize w2.alloc (.cells (fcells x) 35) = W3 at HKF HT3 ⊢
          have HS3 := Lib.hid (HS.out.touch (Touch.of_below HT3.out []) (fun g hg => by cases hg))
          have HM3 := Lib.hid ((Touch.of_below HT3.out []).map HM0.out (by simp))
          have n0 : W3.cell? ⟨wr.heap.size, 0, none⟩ = some (.string f.name) := HKF.out.cell 0
          have HNO := Lib.hid (show recordT L base F = none by rw [HREC.out, recAt_none (k := k + 1) (by rw [HSTEP.out, if_pos (.inl (by rw [HFL.out]; rfl))]) F.length (by omega)])
          cases hh : had ((F.take k).map Fld.name) f.name with
          | true =>
            have hlk := seen_look HM3.out HSN.out f.name HNM.out (c := 1) (by rw [hh]; rfl)
            clear hh
            go_wp2_with (at_mapUpdate; refine wpList_mapUpdate_own _ rfl _ _ _ 57 rfl 9 3 lawS Try.underlying57 _ gm k D rfl HM3.out (by unfold maxLen; omega) _ _ _ rfl rfl (keyOf_string_mk Try.underlying9 HNM.out) _ [] (plainElem_int Try.underlying3 (by decide)) ?_; intro W4 hm4 hg4; have HT4 := Lib.hid (Touch.of_grown hg4); have HM4 := Lib.hid hm4; have KF4 := Lib.hid (HT4.out.blk HKF.out (by have := HS.out.lt; simp; omega)); have b14 := HT4.out.blk HS3.out.b1 (by have := HS.out.ge; simp; omega); have b04 := HT4.out.blk HS3.out.b0 (by have := HS.out.ge; simp; omega); have HB4 := Lib.hid (HS3.out.blw.trans (HT4.out.below HS3.out.blw.size (fun g hg => by have := HS.out.ge; simp at hg; omega))); have hl4 := load_type b14 rfl; have hst4 := store_type b04 rfl rfl (tcells_one (t := ⟨10, 0, 0, base, acc, sz, level0 L base⟩) (fv := rv) (own_one HS.out.own)); have hres := loadVar_type (b04.setRow (tcells ⟨10, 0, 0, base, acc, sz, level0 L base⟩ rv)) rfl; clear b14 b04; clear hm4 hg4)
            refine bodyPost_ret (v := .tuple #[.agg (tcells ⟨10, 0, 0, base, acc, sz, level0 L base⟩ rv), .bool false]) ?_ rfl (RecPost.no HNO.out (MadeNo.mk _ _ (own_one HS.out.own) (belRow HB4.out (Nat.le_refl _) _)))
            simp [results, Try.results16, asAddr, hres]
          | false =>
            have hlk := seen_look HM3.out HSN.out f.name HNM.out (c := 0) (by rw [hh]; rfl)
            clear hh
            go_wp2_with (at_mapUpdate; refine wpList_mapUpdate_own _ rfl _ _ _ 57 rfl 9 3 lawS Try.underlying57 _ gm k D rfl HM3.out (by unfold maxLen; omega) _ _ _ rfl rfl (keyOf_string_mk Try.underlying9 HNM.out) _ [] (plainElem_int Try.underlying3 (by decide)) ?_; intro W4 hm4 hg4; have HT4 := Lib.hid (Touch.of_grown hg4); have HM4 := Lib.hid hm4; have KF4 := Lib.hid (HT4.out.blk HKF.out (by have := HS.out.lt; simp; omega)); have b14 := HT4.out.blk HS3.out.b1 (by have := HS.out.ge; simp; omega); have b04 := HT4.out.blk HS3.out.b0 (by have := HS.out.ge; simp; omega); have HB4 := Lib.hid (HS3.out.blw.trans (HT4.out.below HS3.out.blw.size (fun g hg => by have := HS.out.ge; simp at hg; omega))); have hl4 := load_type b14 rfl; have hst4 := store_type b04 rfl rfl (tcells_one (t := ⟨10, 0, 0, base, acc, sz, level0 L base⟩) (fv := rv) (own_one HS.out.own)); have hres := loadVar_type (b04.setRow (tcells ⟨10, 0, 0, base, acc, sz, level0 L base⟩ rv)) rfl; clear b14 b04; clear hm4 hg4)
            refine bodyPost_ret (v := .tuple #[.agg (tcells ⟨10, 0, 0, base, acc, sz, level0 L base⟩ rv), .bool false]) ?_ rfl (RecPost.no HNO.out (MadeNo.mk _ _ (own_one HS.out.own) (belRow HB4.out (Nat.le_refl _) _)))
            simp [results, Try.results16, asAddr, hres]
        | none =>
          have HFL := Lib.hid hfl
          clear hfl
          go_upto_region 13 with (go_at_call 18; refine (field_any (HH.out.below HBA.out) hL HG.out base f.name).mono ?_; rw [HFL.out]; simp only [fldV]; rintro e w2 ⟨rfl, hb2⟩; have hst2 := store_field_new w2 zField zField 35 rfl rfl (fcells_one ⟨⟨#[]⟩, 0, 0⟩); have HKF := Lib.hid (((Blk.new wr (fcells f) 35).step hb2).old (.cells zField 35)); have HT3 := Lib.hid ((((Below.refl wr.heap.size wr).alloc (Nat.le_refl _) (.cells (fcells f) 35)).trans (hb2.mono (by simp))).alloc (by have := hb2.size; simp at this; omega) (.cells zField 35)); clear hb2)
          clear hst2 hst hl
          generalize w2.alloc (.cells zField 35) = W3 at HKF HT3 ⊢
          have HS3 := Lib.hid (HS.out.touch (Touch.of_below HT3.out []) (fun g hg => by cases hg))
          have HM3 := Lib.hid ((Touch.of_below HT3.out []).map HM0.out (by simp))
          have n0 : W3.cell? ⟨wr.heap.size, 0, none⟩ = some (.string f.name) := HKF.out.cell 0
          cases hh : had ((F.take k).map Fld.name) f.name with
          | true =>
            have hlk := seen_look HM3.out HSN.out f.name HNM.out (c := 1) (by rw [hh]; rfl)
            have HNO := Lib.hid (show recordT L base F = none by rw [HREC.out, recAt_none (k := k + 1) (by rw [HSTEP.out, if_pos (.inr (.inl hh))]) F.length (by omega)])
            clear hh
            go_wp2_with (at_mapUpdate; refine wpList_mapUpdate_own _ rfl _ _ _ 57 rfl 9 3 lawS Try.underlying57 _ gm k D rfl HM3.out (by unfold maxLen; omega) _ _ _ rfl rfl (keyOf_string_mk Try.underlying9 HNM.out) _ [] (plainElem_int Try.underlying3 (by decide)) ?_; intro W4 hm4 hg4; have HT4 := Lib.hid (Touch.of_grown hg4); have HM4 := Lib.hid hm4; have KF4 := Lib.hid (HT4.out.blk HKF.out (by have := HS.out.lt; simp; omega)); have b14 := HT4.out.blk HS3.out.b1 (by have := HS.out.ge; simp; omega); have b04 := HT4.out.blk HS3.out.b0 (by have := HS.out.ge; simp; omega); have HB4 := Lib.hid (HS3.out.blw.trans (HT4.out.below HS3.out.blw.size (fun g hg => by have := HS.out.ge; simp at hg; omega))); have hl4 := load_type b14 rfl; have hst4 := store_type b04 rfl rfl (tcells_one (t := ⟨10, 0, 0, base, acc, sz, level0 L base⟩) (fv := rv) (own_one HS.out.own)); have hres := loadVar_type (b04.setRow (tcells ⟨10, 0, 0, base, acc, sz, level0 L base⟩ rv)) rfl; clear b14 b04; have hlk4 := seen_two HM4.out HSN.out.1 HNM.out; have n04 : W4.cell? ⟨wr.heap.size, 0, none⟩ = some (.string f.name) := KF4.out.cell 0; clear hm4 hg4)
            refine bodyPost_ret (v := .tuple #[.agg (tcells ⟨10, 0, 0, base, acc, sz, level0 L base⟩ rv), .bool false]) ?_ rfl (RecPost.no HNO.out (MadeNo.mk _ _ (own_one HS.out.own) (belRow HB4.out (Nat.le_refl _) _)))
            simp [results, Try.results16, asAddr, hres]
          | false =>
            have hlk := seen_look HM3.out HSN.out f.name HNM.out (c := 0) (by rw [hh]; rfl)
            cases hth : thing L f.type with
            | false =>
              have HNO := Lib.hid (show recordT L base F = none by rw [HREC.out, recAt_none (k := k + 1) (by rw [HSTEP.out, if_pos (.inr (.inr hth))]) F.length (by omega)])
              have HTH := Lib.hid hth
              clear hth hh
              go_wp2_with (first
                | (at_mapUpdate; refine wpList_mapUpdate_own _ rfl _ _ _ 57 rfl 9 3 lawS Try.underlying57 _ gm k D rfl HM3.out (by unfold maxLen; omega) _ _ _ rfl rfl (keyOf_string_mk Try.underlying9 HNM.out) _ [] (plainElem_int Try.underlying3 (by decide)) ?_; intro W4 hm4 hg4; have HT4 := Lib.hid (Touch.of_grown hg4); have HM4 := Lib.hid hm4; have KF4 := Lib.hid (HT4.out.blk HKF.out (by have := HS.out.lt; simp; omega)); have B14 := Lib.hid (HT4.out.blk HS3.out.b1 (by have := HS.out.ge; simp; omega)); have B04 := Lib.hid (HT4.out.blk HS3.out.b0 (by have := HS.out.ge; simp; omega)); have HB4 := Lib.hid (HS3.out.blw.trans (HT4.out.below HS3.out.blw.size (fun g hg => by have := HS.out.ge; simp at hg; omega))); have hlk4 := seen_look HM4.out (seen_put HSN.out f.name) f.name HNM.out (c := 1) (by rw [if_pos (had_iff.2 (by simp))]); have n04 : W4.cell? ⟨wr.heap.size, 0, none⟩ = some (.string f.name) := KF4.out.cell 0; have n14 : W4.cell? ⟨wr.heap.size, 1, none⟩ = some (.int .i64 f.type) := KF4.out.cell 1; clear hm4 hg4)
                | (go_at_call 19; refine (thing_any (HH.out.below HB4.out) f.type).mono ?_; rw [HTH.out]; rintro e W5 ⟨rfl, hb5⟩; have HB5 := Lib.hid (HB4.out.trans (hb5.mono HB4.out.size)); have hl5 := load_type (B14.out.step hb5) rfl; have hst5 := store_type (B04.out.step hb5) rfl rfl (tcells_one (t := ⟨10, 0, 0, base, acc, sz, level0 L base⟩) (fv := rv) (own_one HS.out.own)); have hres := loadVar_type ((B04.out.step hb5).setRow (tcells ⟨10, 0, 0, base, acc, sz, level0 L base⟩ rv)) rfl; clear hb5))
              refine bodyPost_ret (v := .tuple #[.agg (tcells ⟨10, 0, 0, base, acc, sz, level0 L base⟩ rv), .bool false]) ?_ rfl (RecPost.no HNO.out (MadeNo.mk _ _ (own_one HS.out.own) (belRow HB5.out (Nat.le_refl _) _)))
              simp [results, Try.results16, asAddr, hres]
            | true =>
              have hin := thing_in hth
              obtain ⟨kk, hkk⟩ : ∃ kk : Nat, f.type = (kk : Int) := ⟨f.type.toNat, by omega⟩
              have hkl : kk < L.length := by omega
              have hkl1 : (kk : Int) < (L.length : Int) := by omega
              obtain ⟨fvt, _, _, hrt⟩ := HH.out.cells hkl
              have HRT := Lib.hid hrt
              have HKK := Lib.hid hkk
              have HSTEP2 := Lib.hid (show recAt L base (size0 L base) F (k + 1) = some (acc ++ [⟨f.name, f.type, offOf L sz f.type⟩], offOf L sz f.type + (Ty.at_ L f.type).size) by
                rw [HSTEP.out, if_neg]
                rintro (h | h | h)
                · rw [HFL.out] at h; cases h
                · rw [hh] at h; cases h
                · rw [hth] at h; cases h)
              have HTH := Lib.hid (show thing L (kk : Int) = true by rw [← hkk]; exact hth)
              have s2 : sz ≤ 4000000 := by have := HS1.out; omega
              have hof := off_ge L sz (kk : Int) s0
              have HOF := Lib.hid hof
              have hz := HG.out.size (kk : Nat)
              have z2 := hz.1
              have z3 := hz.2
              clear hth hh hin hrt hkk hof hz
              go_upto_region 17 with (first
                | (at_mapUpdate; refine wpList_mapUpdate_own _ rfl _ _ _ 57 rfl 9 3 lawS Try.underlying57 _ gm k D rfl HM3.out (by unfold maxLen; omega) _ _ _ rfl rfl (keyOf_string_mk Try.underlying9 HNM.out) _ [] (plainElem_int Try.underlying3 (by decide)) ?_; intro W4 hm4 hg4; have HT4 := Lib.hid (Touch.of_grown hg4); have HM4 := Lib.hid hm4; have KF4 := Lib.hid (HT4.out.blk HKF.out (by have := HS.out.lt; simp; omega)); have B14 := Lib.hid (HT4.out.blk HS3.out.b1 (by have := HS.out.ge; simp; omega)); have B04 := Lib.hid (HT4.out.blk HS3.out.b0 (by have := HS.out.ge; simp; omega)); have HB4 := Lib.hid (HS3.out.blw.trans (HT4.out.below HS3.out.blw.size (fun g hg => by have := HS.out.ge; simp at hg; omega))); have hlk4 := seen_look HM4.out (seen_put HSN.out f.name) f.name HNM.out (c := 1) (by rw [if_pos (had_iff.2 (by simp))]); have n04 : W4.cell? ⟨wr.heap.size, 0, none⟩ = some (.string f.name) := KF4.out.cell 0; have n14 : W4.cell? ⟨wr.heap.size, 1, none⟩ = some (.int .i64 (kk : Int)) := (KF4.out.cell 1).trans (by rw [← HKK.out]; rfl); clear hm4 hg4)
                | (go_at_call 19; refine (thing_any (HH.out.below HB4.out) (kk : Int)).mono ?_; rw [HTH.out]; rintro e W5 ⟨rfl, hb5⟩; have HB5 := Lib.hid (HB4.out.trans (hb5.mono HB4.out.size)); have HT5 := Lib.hid (Touch.of_below hb5 []); have KF5 := Lib.hid (KF4.out.step hb5); have B15 := Lib.hid (B14.out.step hb5); have B05 := Lib.hid (B04.out.step hb5); have n15 : W5.cell? ⟨wr.heap.size, 1, none⟩ = some (.int .i64 (kk : Int)) := (KF5.out.cell 1).trans (by rw [← HKK.out]; rfl); clear hb5)
                | (go_at_call 20; refine (align_any (HH.out.below HB5.out) HG.out kk hkl).mono ?_; rintro e w' ⟨rfl, rfl⟩))
              clear hlk hlk4 n04 n14 n0
              have OWN5 := Lib.hid (HT5.out.owns (HT4.out.owns HS3.out.own (fun g hg => by have := (own_lt HS3.out.own g hg).2; simp; omega)) (fun g hg => by simp))
              have MAP5 := Lib.hid (HT5.out.map HM4.out (by simp))
              have r5 : W5.cell? ⟨w.heap.size + 1, 5, none⟩ = some (.int .i64 sz) := B15.out.cell 5
              have m2 : W5.cell? ⟨wr.heap.size, 2, none⟩ = some (.int .i64 f.off) := KF5.out.cell 2
              have fr2 := KF5.out.frozen 2
              go_cut [] from 87 to 96 (fun wx => wx = W5.setCell ⟨wr.heap.size, 2, none⟩ (.int .i64 (offOf L sz f.type)))
              case first =>
                rcases al_12 L (kk : Int) with ha | ha
                · go_wp2_with fail
                  go_meet
                  congr 2
                  unfold offOf
                  rw [HKK.out, ha]
                  omega
                · go_wp2_with fail
                  go_meet
                  congr 2
                  unfold offOf
                  rw [HKK.out, ha]
              case rest =>
                have T6 := Lib.hid (Touch.set W5 ⟨wr.heap.size, 2, none⟩ (.int .i64 (offOf L sz f.type)))
                have KF6 := Lib.hid (KF5.out.set 2 (.int .i64 (offOf L sz f.type)))
                have hge := HS.out.ge
                have hglt := HS.out.lt
                have B16 := Lib.hid (T6.out.blk B15.out (by simp; omega))
                have B06 := Lib.hid (T6.out.blk B05.out (by simp; omega))
                have MAP6 := Lib.hid (T6.out.map MAP5.out (by simp; omega))
                have OWN6 := Lib.hid (T6.out.owns OWN5.out (fun g hg => by have := (own_lt HS.out.own g hg).1; simp; omega))
                have HB6 := Lib.hid (HB5.out.trans (T6.out.below HB5.out.size (fun g hg => by simp at hg; omega)))
                obtain rfl := hcut
                generalize W5.setCell ⟨wr.heap.size, 2, none⟩ (.int .i64 (offOf L sz f.type)) = W6 at KF6 B16 B06 MAP6 OWN6 HB6 ⊢
                clear T6 m2 fr2 r5 n15
                have KF6' : Hid (Blk W6 wr.heap.size (fcells ⟨f.name, f.type, offOf L sz f.type⟩) 35) := KF6
                clear KF6
                obtain ⟨i0, hi, hz0, hz1, hz2⟩ := info_parts info_field
                have HI := Lib.hid hi
                have HZ0 := Lib.hid hz0
                have HZ1 := Lib.hid hz1
                have HZ2 := Lib.hid hz2
                have HOF2 := Lib.hid (show 0 ≤ offOf L sz f.type ∧ offOf L sz f.type ≤ 4000003 by have := HOF.out; rw [← HKK.out] at this; omega)
                clear hi hz0 hz1 hz2
                generalize hoo : offOf L sz f.type = oo at *
                have o0 := HOF2.out.1
                have o1 := HOF2.out.2
                have r4 : W6.cell? ⟨w.heap.size + 1, 4, none⟩ = some rv := B16.out.cell 4
                have hl6 := load_field KF6'.out rfl
                clear hoo
                go_upto_region 19 with (at_builtin; refine wpList_append_own_at _ rfl _ _ 25 rfl (gm + 1) 35 i0 (.agg zField) 3 32 Try.underlying25 HI.out HZ0.out HZ1.out HZ2.out rfl (by decide) rv acc.length (flatF acc) rfl (OWN6.out.alloc _) ⟨W6.heap.size, 0, none⟩ 1 1 (fcells ⟨f.name, f.type, oo⟩).toList rfl rfl ?c1 ?c2 ?c3 ?c4 ?c5 ?_)
                case c2 => exact ⟨rfl, rfl, rfl⟩
                case c3 => have := HALN.out; unfold maxLen; omega
                case c4 => have := HALN.out; omega
                case c5 => have := MAP6.out.lt; simp; omega
                intro v' w8 hown8 hgrow8 _ hat8
                have T8 := Lib.hid ((Touch.of_below ((Below.refl _ W6).alloc (Nat.le_refl _) _) rv.ownBlock.toList).trans (Touch.of_grown hgrow8) (fun g hg _ => hg))
                have hno : ∀ g, g ≤ wr.heap.size → g ≤ gm ∨ g = wr.heap.size → g ∉ rv.ownBlock.toList := fun g h1 h2 hm => by
                  simp only [Option.mem_toList, Option.mem_def] at hm
                  have := own_lt HS.out.own g hm
                  omega
                have HNO := Lib.hid hno
                clear hno
                have hglt6 : gm < W6.heap.size := MAP6.out.lt
                have hgf6 : wr.heap.size < W6.heap.size := KF6'.out.lt
                have B18 := Lib.hid (T8.out.blk B16.out (HNO.out _ (by omega) (by omega)))
                have B08 := Lib.hid (T8.out.blk B06.out (HNO.out _ (by omega) (by omega)))
                have KF8 := Lib.hid (T8.out.blk KF6'.out (HNO.out _ (by omega) (by omega)))
                have MAP8 := Lib.hid (T8.out.map MAP6.out (HNO.out _ (by omega) (by omega)))
                have HB8 := Lib.hid (HB6.out.trans (T8.out.below HB6.out.size (fun g hg => by
                  simp only [Option.mem_toList, Option.mem_def] at hg
                  have := own_lt HS.out.own g hg
                  omega)))
                have OWN8 := Lib.hid (show w8.ownsRow (gm + 1) 35 3 v' (acc ++ [(⟨f.name, f.type, oo⟩ : Fld)]).length (flatF (acc ++ [⟨f.name, f.type, oo⟩])) by
                  rw [List.length_append, flatF_snoc]; exact hown8)
                have p4 : w8.cell? ⟨w.heap.size + 1, 4, none⟩ = some rv := B18.out.cell 4
                have fr4 := B18.out.frozen 4
                clear hown8 hgrow8 hat8 r4 hl6 HI HZ0 HZ1 HZ2
                obtain ⟨qa, qn, qc, rfl⟩ := own_form OWN8.out
                go_upto_region 19 with fail
                have T9 := Lib.hid (Touch.set w8 ⟨w.heap.size + 1, 4, none⟩ (.slice qa qn qc))
                have B19 := Lib.hid (B18.out.set 4 (.slice qa qn qc))
                have B09 := Lib.hid (T9.out.blk B08.out (by simp))
                have KF9 := Lib.hid (T9.out.blk KF8.out (by simp; omega))
                have MAP9 := Lib.hid (T9.out.map MAP8.out (by simp; omega))
                have HB9 := Lib.hid (HB8.out.trans (T9.out.below HB8.out.size (fun g hg => by simp at hg; omega)))
                have OWN9 := Lib.hid (T9.out.owns OWN8.out (fun g hg => by have := (own_lt OWN8.out g hg).2; simp; omega))
                generalize w8.setCell ⟨w.heap.size + 1, 4, none⟩ (.slice qa qn qc) = W9 at B19 B09 KF9 MAP9 HB9 OWN9 ⊢
                clear T9 T8 p4 fr4
                have q2 : W9.cell? ⟨wr.heap.size, 2, none⟩ = some (.int .i64 oo) := KF9.out.cell 2
                have q1 : W9.cell? ⟨wr.heap.size, 1, none⟩ = some (.int .i64 (kk : Int)) := (KF9.out.cell 1).trans (by rw [← HKK.out]; rfl)
                have q5 : W9.cell? ⟨b, off + kk * 7 + 5, none⟩ = some (.int .i64 (Ty.at_ L (kk : Nat)).size) := range_below HRT.out HB9.out hb 5 _ rfl
                have r5 : W9.cell? ⟨w.heap.size + 1, 5, none⟩ = some (.int .i64 sz) := B19.out.cell 5
                have fr5 := B19.out.frozen 5
                have hne : b ≠ w.heap.size + 1 := by omega
                go_region
                all_goals
                  go_wp2_with fail
                  have hge2 := HS.out.ge
                  have hTX := (Touch.set W9 ⟨w.heap.size + 1, 5, none⟩ (.int .i64 (oo + (Ty.at_ L (kk : Nat)).size)))
                  have hR : RecS w gm L base F (k + 1) (acc ++ [(⟨f.name, f.type, oo⟩ : Fld)]) (oo + (Ty.at_ L (kk : Nat)).size) (.slice qa qn qc) (W9.setCell ⟨w.heap.size + 1, 5, none⟩ (.int .i64 (oo + (Ty.at_ L (kk : Nat)).size))).drew := by
                    refine ⟨?_, ?_, ?_, ?_, hge2, ?_, ?_, ?_⟩
                    · rw [HSTEP2.out, HKK.out]
                    · exact (HB9.out.trans (hTX.below HB9.out.size (fun g hg => by simp at hg; omega))).drew
                    · exact Blk.drew (hTX.blk B09.out (by simp))
                    · exact Blk.drew (B19.out.set 5 (.int .i64 (oo + (Ty.at_ L (kk : Nat)).size)))
                    · have := MAP9.out.lt; simpa using this
                    · refine ⟨_, (hTX.map MAP9.out (by simp; omega)).drew, ?_⟩
                      rw [List.take_add_one, HFK.out, List.map_append]
                      exact seen_put HSN.out f.name
                    · exact hTX.owns OWN9.out (fun g hg => by have := (own_lt OWN9.out g hg).2; simp; omega)
                  have HRR := Lib.hid hR
                  clear hR hTX
                  go_roundw
                  case rel => exact ⟨k + 1, _, _, _, by omega, by go_num, HRR⟩
                  case measure => simp [intOf]; omega
      · obtain rfl : k = F.length := by omega
        obtain ⟨D, hm, hsn⟩ := HS.out.map
        obtain ⟨hal, hnm, s0, s1⟩ := recAt_inv HG.out (size0_bd HG.out base) F.length acc sz (Nat.le_refl _) HS.out.rec_
        have c5 : wr.cell? ⟨w.heap.size + 1, 5, none⟩ = some (.int .i64 sz) := HS.out.b1.cell 5
        have f5 := HS.out.b1.frozen 5
        have hf42 : F.length ≤ 200 := by omega
        have s2 : sz ≤ 4000000 := by omega
        have hb1' := HS.out.b1.set 5 (.int .i64 ((sz + 3) / 4 * 4))
        have hb0' := HS.out.b0.far (p := ⟨w.heap.size + 1, 5, none⟩) (by simp) (.int .i64 ((sz + 3) / 4 * 4))
        have hl := load_type hb1' rfl
        have hst := store_type hb0' rfl rfl (tcells_one (t := ⟨10, 0, 0, base, acc, (sz + 3) / 4 * 4, level0 L base⟩) (fv := rv) (own_one HS.out.own))
        have hres := loadVar_type (hb0'.setRow (tcells ⟨10, 0, 0, base, acc, (sz + 3) / 4 * 4, level0 L base⟩ rv)) rfl
        clear hb0' hb1' hm hsn s1
        have HYES := Lib.hid (show recordT L base F = some ⟨10, 0, 0, base, acc, (sz + 3) / 4 * 4, level0 L base⟩ by rw [HREC.out, HS.out.rec_])
        have HFO := Lib.hid (recAt_fok HG.out hf42 HS.out.rec_ HF.out.ok)
        go_wp2_with fail
        have hT := ((Touch.set wr ⟨w.heap.size + 1, 5, none⟩ (.int .i64 ((sz + 3) / 4 * 4))).mono (r' := [w.heap.size + 1, w.heap.size]) (fun g hg => by simp at hg ⊢; omega)).trans (Touch.row _ w.heap.size (tcells ⟨10, 0, 0, base, acc, (sz + 3) / 4 * 4, level0 L base⟩ rv)) (r := [w.heap.size + 1, w.heap.size]) (r' := [w.heap.size]) (fun g hg _ => by simp at hg ⊢; omega)
        have hge := HS.out.ge
        refine bodyPost_ret (v := .tuple #[.agg (tcells ⟨10, 0, 0, base, acc, (sz + 3) / 4 * 4, level0 L base⟩ rv), .bool true]) ?_ rfl (RecPost.yes HYES.out (Made.mk (T := ⟨10, 0, 0, base, acc, (sz + 3) / 4 * 4, level0 L base⟩) rv (own_flds (hT.owns HS.out.own (fun g hg => by have := (own_lt HS.out.own g hg).2; simp; omega)) HFO.out) (HS.out.blw.trans (hT.below HS.out.blw.size (fun g hg => by simp at hg; omega))) (fun g hg => by have := (own_lt HS.out.own g hg).2; omega)))
        simp [results, Try.results16, asAddr, hres]
end
end Go.Proofs.Ytmbnpfjimidggaa
