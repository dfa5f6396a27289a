/- A row with one type more, in new memory. -/
import Derived.Test.YtmbnpfjimidggaaTyN
namespace Go.Proofs.Ytmbnpfjimidggaa
open Go Go.RowKit Go.Lib Go.Proofs.Ytmbnpfjimidggaa.Ty
set_option linter.unusedVariables false
set_option linter.unusedSimpArgs false
attribute [local go_sem ↓] exec_load_type exec_store_type exec_load_field exec_store_field
attribute [local go_sem] tcells fcells
theorem want_few {L : List Typ} {j : Nat} {T : Typ} (hw : want L j = some T) : T.fields.length ≤ 200 := by
  unfold want at hw
  split at hw
  · unfold arrayT at hw
    split at hw
    · cases hw
    · simp only [Option.some.injEq] at hw; rw [← hw]; simp
  · split at hw
    · unfold openT at hw
      split at hw
      · simp only [Option.some.injEq] at hw; rw [← hw]; simp
      · cases hw
    · split at hw
      · unfold pointerT at hw
        split at hw
        · simp only [Option.some.injEq] at hw; rw [← hw]; simp
        · cases hw
      · split at hw
        · obtain ⟨acc, sz, _, _, h3, _⟩ := recordT_some hw
          obtain ⟨_, _, h4, _⟩ := recordT_again hw
          omega
        · cases hw
theorem row_few {L : List Typ} (h : isRowP L) {k : Nat} (hk : k < L.length) : (Ty.at_ L (k : Nat)).fields.length ≤ 200 := by
  have hs := h.2.2 k hk
  by_cases h8 : k < 8
  · rw [(step_lt hk h8).1 hs]; simp [basicT]
  · obtain ⟨T, e, _, h3⟩ := (step_ge hk h8).1 hs
    rw [h3]; exact want_few e
/-- A list is no part of another one's block. -/
def Sep (v fv : Value) (F : List Fld) : Prop := F ≠ [] → ∀ g, fv.ownBlock = some g → v.ownBlock ≠ some g
theorem FldsAt.blk_lt {w : World} {fv : Value} {F : List Fld} (h : FldsAt w fv F) (hF : F ≠ []) (g : Nat) (hg : fv.ownBlock = some g) : g < w.heap.size := by
  obtain ⟨A, cap, rfl, _, _, h3 | ⟨b, off, rfl, hb, _⟩⟩ := h.form
  · exact absurd h3 hF
  · cases hg; exact hb
theorem FldsAt.touch2 {w w' : World} {fv : Value} {F : List Fld} {r : List Nat} (h : FldsAt w fv F) (T : Touch w w' r) (hn : F ≠ [] → ∀ g, fv.ownBlock = some g → g ∉ r) : FldsAt w' fv F := by
  by_cases hF : F = []
  · subst hF
    obtain ⟨A, cap, rfl, h1, h2, h3, h4⟩ := h
    exact ⟨A, cap, rfl, h1, h2, h3, fun k f hf => by simp at hf⟩
  · exact h.touch T (hn hF)
/-- Each of these types' fields lie in lists of their own. -/
def OwnAll (wr : World) (v : Value) (l : List (Typ × Value)) : Prop := ∀ p ∈ l, FldsAt wr p.2 p.1.fields ∧ Sep v p.2 p.1.fields
/-- The state of the copying loop. -/
structure AddS (w : World) (L : List Typ) (T : Typ) (g7 : Nat) (tv : Value) (k : Nat) (l : List (Typ × Value)) (v : Value) (wr : World) : Prop where
  fst : l.map Prod.fst = L.take k
  own : wr.ownsRow (g7 + 1) 27 7 v l.length (flatT l)
  all : OwnAll wr v l
  b7 : Blk wr g7 (tcells T tv) 27
  ft : FldsAt wr tv T.fields
  st : Sep v tv T.fields
  bel : Below w.heap.size w wr
  ge : w.heap.size ≤ g7
/-- Behind a step that writes new blocks and the row's own one. -/
theorem AddS.next {w wr W : World} {L : List Typ} {T : Typ} {g7 : Nat} {tv : Value} {k : Nat} {l : List (Typ × Value)} {v v' : Value} {t : Typ} {fv : Value} (h : AddS w L T g7 tv k l v wr) (TT : Touch wr W v.ownBlock.toList)
    (hv : v'.ownBlock = v.ownBlock ∨ ∃ g, v'.ownBlock = some g ∧ wr.heap.size ≤ g ∧ (t.fields ≠ [] → fv.ownBlock ≠ some g)) (hL : L[k]? = some t) (hf : FldsAt W fv t.fields) (hn : t.fields ≠ [] → ∀ g, fv.ownBlock = some g → wr.heap.size ≤ g)
    (ho : W.ownsRow (g7 + 1) 27 7 v' (l.length + 1) (flatT l ++ (tcells t fv).toList)) : AddS w L T g7 tv (k + 1) (l ++ [(t, fv)]) v' W := by
  have hvo : ∀ g, v.ownBlock = some g → g < wr.heap.size ∧ g7 + 1 ≤ g := fun g hg => own_lt h.own g hg
  have old : ∀ fv' F, FldsAt wr fv' F → Sep v fv' F → FldsAt W fv' F ∧ Sep v' fv' F := fun fv' F h1 h2 =>
    ⟨h1.touch2 TT (fun hF g hg hm => by simp only [Option.mem_toList, Option.mem_def] at hm; exact h2 hF g hg hm), fun hF g hg he => by
      have hlt := h1.blk_lt hF g hg
      rcases hv with e | ⟨g', e, hge, _⟩
      · exact h2 hF g hg (by rw [← e]; exact he)
      · rw [e] at he; cases he; omega⟩
  refine ⟨?_, ?_, ?_, ?_, (old _ _ h.ft h.st).1, (old _ _ h.ft h.st).2, ?_, h.ge⟩
  · rw [List.map_append, h.fst, List.take_add_one, hL]; rfl
  · rw [List.length_append, flatT_snoc]; exact ho
  · intro p hp
    rcases List.mem_append.1 hp with hp | hp
    · exact old _ _ (h.all p hp).1 (h.all p hp).2
    · simp only [List.mem_singleton] at hp
      subst hp
      refine ⟨hf, fun hF g hg he => ?_⟩
      have hge := hn hF g hg
      rcases hv with e | ⟨g', e, _, hne⟩
      · rw [e] at he; have := (hvo g he).1; omega
      · rw [e] at he; cases he; exact hne hF hg
  · exact TT.blk h.b7 (fun hm => by simp only [Option.mem_toList, Option.mem_def] at hm; have := (hvo _ hm).2; omega)
  · have := h.ge
    exact h.bel.trans (TT.below h.bel.size (fun g hg => by simp only [Option.mem_toList, Option.mem_def] at hg; have := (hvo _ hg).2; omega))
/-- The row was made. -/
def AddOk (L : List Typ) (T : Typ) (w : World) (e : Ending) (w' : World) : Prop := ∃ A' cap', e = .returned (.tuple #[.slice A' (L.length + 1) cap', .int .i64 L.length, .int .i64 0]) ∧ TysAt w' A' cap' (L ++ [T]) ∧ Below w.heap.size w w'
/-- None was made. -/
def AddNo (w : World) (e : Ending) (w' : World) : Prop := ∃ c : Int, e = .returned (.tuple #[.slice none 0 0, .int .i64 0, .int .i64 c]) ∧ c ≠ 0 ∧ Below w.heap.size w w'
section
variable {w : World} {A : Option Addr} {cap : Nat} {L : List Typ}
set_option maxHeartbeats 8000000 in
set_option maxRecDepth 100000 in
theorem add_array_ok (H : TysAt w A cap L) (hR : isRowP L) (hl : L.length < 200) {T : Typ} (hT : TOk T) (hs : T.size ≤ 16384) (p1 p2 : Nat)
    (HM : ∀ W, Below w.heap.size w W → Calls Try.prog 21 #[.slice A L.length cap, .pointer (some ⟨p1, 0, none⟩), .pointer (some ⟨p2, 0, none⟩)] W (Made T W)) :
    Calls Try.prog 14 #[.slice A L.length cap, .func (.func 21) #[] #[.pointer (some ⟨p1, 0, none⟩), .pointer (some ⟨p2, 0, none⟩)]] w (AddOk L T w) := by
  obtain ⟨b, off, fv0, rfl, hb, _⟩ := H.get (k := 0) (by have := hR.1; omega)
  have hcap := H.cap
  have hmax := H.max
  unfold maxLen at hmax
  obtain ⟨i0, hi, hz0, hz1, hz2⟩ := info_parts info_type
  have HI := Lib.hid hi
  have HZ0 := Lib.hid hz0
  have HZ1 := Lib.hid hz1
  have HZ2 := Lib.hid hz2
  have HH := Lib.hid H
  have HR := Lib.hid hR
  have HMM := Lib.hid HM
  have HTO := Lib.hid hT
  have hl1 : ¬ (200 : Int) ≤ (L.length : Int) := by omega
  have hs1 : ¬ (16384 < T.size) := by omega
  clear H hR HM hT hi hz0 hz1 hz2 hs
  go_enter Try.func14, Try.ntmps14
  go_wp2_with (first
    | (go_at_call 17; refine (isrow_any HH.out (c := true) ⟨fun _ => HR.out, fun _ => rfl⟩).mono ?_; rintro e w1 ⟨rfl, hb1⟩; have HB1 := Lib.hid hb1; clear hb1)
    | (go_at_call 21; refine (HMM.out w1 HB1.out).mono ?_; rintro e W3 ⟨tv, rfl, htv, hb3, hn3⟩; have hst3 := store_type_new W3 zType _ 27 rfl rfl (tcells_one (t := T) htv.one); have HTV := Lib.hid htv; have HB3 := Lib.hid (HB1.out.trans (hb3.mono HB1.out.size)); have HB1b := Lib.hid hb3; have HN3 := Lib.hid hn3; clear hb3 htv hn3))
  have HS0 := Lib.hid (show AddS w L T W3.heap.size tv 0 [] (.slice none 0 0) (W3.alloc (.cells (tcells T tv) 27)) from
    ⟨rfl, World.ownsRow_nil _ _ _ _, (fun p hp => by cases hp), Blk.new W3 _ _, HTV.out.touch2 (Touch.of_below ((Below.refl _ W3).alloc (Nat.le_refl _) _) []) (fun _ _ _ h => by cases h), (fun _ g _ h => by cases h), HB3.out.alloc HB3.out.size _, HB3.out.size⟩)
  clear hst3
  generalize W3.alloc (.cells (tcells T tv) 27) = wm at HS0 ⊢
  generalize W3.heap.size = g7 at HS0 ⊢
  go_loopw [9, 35] (fun v i wr => ∃ (k : Nat) (l : List (Typ × Value)), k ≤ L.length ∧ i = .int .i64 k ∧ Hid (AddS w L T g7 tv k l v wr)) (fun _ i _ => L.length - (intOf i).toNat)
  case atStart => exact ⟨0, [], Nat.zero_le _, rfl, HS0⟩
  case round =>
    obtain ⟨k, l, hk, rfl, HS⟩ := hrel
    clear HS0
    have hll : l.length = k := by have := congrArg List.length HS.out.fst; rw [List.length_map, List.length_take] at this; omega
    have HLL := Lib.hid hll
    clear hll
    by_cases hlt : k < L.length
    · obtain ⟨fv, _, hfv, hr⟩ := HH.out.cells hlt
      have HFV := Lib.hid hfv
      have hld := load_type_mid (range_below hr HS.out.bel hb) rfl
      have hst := store_type_new wr zType _ 27 rfl rfl (tcells_one (t := Ty.at_ L (k : Nat)) hfv.one)
      have HX := Lib.hid (Blk.new wr (tcells (Ty.at_ L (k : Nat)) fv) 27)
      have HBX := Lib.hid (HS.out.bel.alloc HS.out.bel.size (.cells (tcells (Ty.at_ L (k : Nat)) fv) 27))
      have HFEW := Lib.hid (row_few HR.out hlt)
      have HLK := Lib.hid (show L[k]? = some (Ty.at_ L (k : Nat)) by rw [Ty.at_nat hlt, List.getD_eq_getElem?_getD, List.getElem?_eq_getElem hlt]; rfl)
      have hlt1 : (k : Int) < (L.length : Int) := by omega
      clear hfv hr
      go_upto_region 13 with (go_at_call 24; refine (clone_any (HFV.out.below HBX.out) HFEW.out).mono ?_; rintro e w2 ⟨fv2, rfl, hfv2, hb2, hn2⟩; obtain ⟨A2, c2, rfl, _, _, _⟩ := hfv2.form; have HF2 := Lib.hid hfv2; have HN2 := Lib.hid hn2; have HX2 := Lib.hid (HX.out.step hb2); have p4 : w2.cell? ⟨wr.heap.size, 4, none⟩ = some fv := HX2.out.cell 4; have fr4 := HX2.out.frozen 4; have HB2 := Lib.hid hb2; clear hb2 hn2 hfv2)
      have T5 := Touch.set w2 ⟨wr.heap.size, 4, none⟩ (.slice A2 (Ty.at_ L (k : Nat)).fields.length c2)
      have X5 := Lib.hid (show Blk (w2.setCell ⟨wr.heap.size, 4, none⟩ (.slice A2 (Ty.at_ L (k : Nat)).fields.length c2)) wr.heap.size (tcells (Ty.at_ L (k : Nat)) (.slice A2 (Ty.at_ L (k : Nat)).fields.length c2)) 27 from HX2.out.set 4 _)
      have F5 := Lib.hid (HF2.out.touch2 T5 (fun _ g hg hm => by have := (HN2.out g hg).1; simp at hm this; omega))
      have TT5 := Lib.hid (Touch.of_below ((((Below.refl wr.heap.size wr).alloc (Nat.le_refl _) _).trans (HB2.out.mono (by simp))).setCell (p := ⟨wr.heap.size, 4, none⟩) (Nat.le_refl _) (.slice A2 (Ty.at_ L (k : Nat)).fields.length c2)) [])
      have HN5 := Lib.hid (show ∀ g, (Value.slice A2 (Ty.at_ L (k : Nat)).fields.length c2).ownBlock = some g → wr.heap.size ≤ g from fun g hg => by have := (HN2.out g hg).1; simp at this; omega)
      clear T5 p4 fr4 HN2 HB2 HX2 HF2 HX HBX hld hst
      generalize w2.setCell ⟨wr.heap.size, 4, none⟩ (.slice A2 (Ty.at_ L (k : Nat)).fields.length c2) = W5 at X5 F5 TT5 ⊢
      have OWN5 := Lib.hid (TT5.out.owns HS.out.own (fun g _ h => by cases h))
      have hl5 := load_type X5.out rfl
      have HG7 := Lib.hid (show g7 < W5.heap.size from Nat.lt_of_lt_of_le HS.out.b7.lt TT5.out.size)
      go_wp2_with (at_builtin; refine wpList_append_own_at _ rfl _ _ 22 rfl (g7 + 1) 27 i0 (.agg zType) 7 72 Try.underlying22 HI.out HZ0.out HZ1.out HZ2.out rfl (by decide) u9 l.length (flatT l) rfl (OWN5.out.alloc _) ⟨W5.heap.size, 0, none⟩ 1 1 (tcells (Ty.at_ L (k : Nat)) (.slice A2 (Ty.at_ L (k : Nat)).fields.length c2)).toList rfl rfl ?c2 ?c3 ?c4 ?c5 ?c6 ?_)
      case c3 => (repeat' apply And.intro) <;> first | rfl | exact trivial
      case c4 => have := HLL.out; unfold maxLen; omega
      case c5 => have := HLL.out; omega
      case c6 => have := HG7.out; simp; omega
      intro v' W8 hown8 hgrow8 _ hat8
      have TA := Touch.of_below ((Below.refl _ W5).alloc (Nat.le_refl _) (.cells (tcells (Ty.at_ L (k : Nat)) (.slice A2 (Ty.at_ L (k : Nat)).fields.length c2)) 27)) u9.ownBlock.toList
      have TB := TA.trans (Touch.of_grown hgrow8) (fun g hg _ => hg)
      have hvo : ∀ g, u9.ownBlock = some g → g < wr.heap.size := fun g hg => (own_lt HS.out.own g hg).1
      have hnx := HS.out.next ((TT5.out.mono (fun g h => by cases h)).trans TB (fun g hg _ => hg)) (v' := v') (t := Ty.at_ L (k : Nat)) (fv := .slice A2 (Ty.at_ L (k : Nat)).fields.length c2) (by
        rcases hat8 with e | e
        · exact .inl e
        · refine .inr ⟨_, e, ?_, fun hF he => ?_⟩
          · have := TT5.out.size; (try simp); omega
          · have := F5.out.blk_lt hF _ he; (try simp at this); omega) HLK.out (F5.out.touch2 TB (fun hF g hg hm => by
            simp only [Option.mem_toList, Option.mem_def] at hm
            have := hvo g hm; have := HN5.out g hg; omega)) (fun _ g hg => HN5.out g hg) hown8
      have HNX := Lib.hid hnx
      clear hnx hown8 hgrow8 hat8 TA TB hvo
      go_wp2_with fail
      go_roundw
      case rel => exact ⟨k + 1, _, by omega, by go_num, HNX⟩
      case measure => simp [intOf]; omega
    · obtain rfl : k = L.length := by omega
      have hl7 := load_type HS.out.b7 rfl
      have HG7 := Lib.hid HS.out.b7.lt
      have HOWN := Lib.hid HS.out.own
      go_wp2_with (at_builtin; refine wpList_append_own_at _ rfl _ _ 22 rfl (g7 + 1) 27 i0 (.agg zType) 7 72 Try.underlying22 HI.out HZ0.out HZ1.out HZ2.out rfl (by decide) u9 l.length (flatT l) rfl (HOWN.out.alloc _) ⟨wr.heap.size, 0, none⟩ 1 1 (tcells T tv).toList rfl rfl ?d2 ?d3 ?d4 ?d5 ?d6 ?_)
      case d3 => (repeat' apply And.intro) <;> first | rfl | exact HS.out.ft.one
      case d4 => have := HLL.out; unfold maxLen; omega
      case d5 => have := HLL.out; omega
      case d6 => have := HG7.out; simp; omega
      intro v' W8 hown8 hgrow8 _ hat8
      have TA := Touch.of_below ((Below.refl _ wr).alloc (Nat.le_refl _) (.cells (tcells T tv) 27)) u9.ownBlock.toList
      have TB := TA.trans (Touch.of_grown hgrow8) (fun g hg _ => hg)
      have hvo : ∀ g, u9.ownBlock = some g → g < wr.heap.size ∧ g7 + 1 ≤ g := fun g hg => own_lt HS.out.own g hg
      have old : ∀ fv' F, FldsAt wr fv' F → Sep u9 fv' F → FldsAt W8 fv' F := fun fv' F h1 h2 =>
        h1.touch2 TB (fun hF g hg hm => by simp only [Option.mem_toList, Option.mem_def] at hm; exact h2 hF g hg hm)
      have hbel := HS.out.bel.trans (TB.below HS.out.bel.size (fun g hg => by simp only [Option.mem_toList, Option.mem_def] at hg; have := (hvo _ hg).2; have := HS.out.ge; omega))
      obtain ⟨A', cap', hv8, hTT⟩ := own_tys (l := l ++ [(T, tv)]) (by rw [List.length_append, flatT_snoc]; exact hown8) (fun p hp => by
        rcases List.mem_append.1 hp with hp | hp
        · refine ⟨HH.out.ok _ ?_, old _ _ (HS.out.all p hp).1 (HS.out.all p hp).2⟩
          have : p.1 ∈ l.map Prod.fst := List.mem_map.2 ⟨p, hp, rfl⟩
          rw [HS.out.fst] at this
          exact List.mem_of_mem_take this
        · simp only [List.mem_singleton] at hp
          subst hp
          exact ⟨HTO.out, old _ _ HS.out.ft HS.out.st⟩)
      have hfst : (l ++ [(T, tv)]).map Prod.fst = L ++ [T] := by rw [List.map_append, HS.out.fst, List.take_length]; rfl
      rw [hfst] at hTT
      have hlen : (l ++ [(T, tv)]).length = L.length + 1 := by have := HLL.out; rw [List.length_append]; simp; omega
      rw [hlen] at hv8
      subst hv8
      have HTT := Lib.hid hTT
      have HBEL := Lib.hid hbel
      clear hTT hbel old hvo TB TA hown8 hgrow8 hat8 hfst hlen HLL
      go_wp2_with fail
      go_ret3
      exact ⟨A', cap', rfl, HTT.out, HBEL.out⟩
end
end Go.Proofs.Ytmbnpfjimidggaa
