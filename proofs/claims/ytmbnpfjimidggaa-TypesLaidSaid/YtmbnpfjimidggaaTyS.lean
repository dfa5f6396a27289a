/- AddRecord, Field, Align. -/
import Derived.Test.YtmbnpfjimidggaaTyR
namespace Go.Proofs.Ytmbnpfjimidggaa
open Go Go.RowKit Go.Lib Go.Proofs.Ytmbnpfjimidggaa.Ty
set_option linter.unusedVariables false
set_option linter.unusedSimpArgs false
attribute [local go_sem ↓] exec_load_type exec_store_type exec_load_field exec_store_field
attribute [local go_sem] tcells fcells
/-- Names that came in; numbers. -/
structure StrsAt (w : World) (A : Option Addr) (n : Nat) (l : List ByteArray) : Prop where
  cap : l.length ≤ n
  max : n ≤ maxLen
  ok : ∀ s ∈ l, s.size ≤ maxLen
  at_ : ∀ k s, l[k]? = some s → ∃ b off, A = some ⟨b, off, none⟩ ∧ b < w.heap.size ∧ w.cell? ⟨b, off + k, none⟩ = some (.string s)
structure IntsAt (w : World) (A : Option Addr) (n : Nat) (l : List Int) : Prop where
  cap : l.length ≤ n
  max : n ≤ maxLen
  ok : ∀ s ∈ l, (Lit.int .i64 s).wf = true
  at_ : ∀ k s, l[k]? = some s → ∃ b off, A = some ⟨b, off, none⟩ ∧ b < w.heap.size ∧ w.cell? ⟨b, off + k, none⟩ = some (.int .i64 s)
theorem StrsAt.below {w w' : World} {A : Option Addr} {n : Nat} {l : List ByteArray} (h : StrsAt w A n l) (hb : Below w.heap.size w w') : StrsAt w' A n l :=
  ⟨h.cap, h.max, h.ok, fun k s hs => by
    obtain ⟨b, off, e, hlt, hc⟩ := h.at_ k s hs
    exact ⟨b, off, e, Nat.lt_of_lt_of_le hlt hb.size, (hb.cell (p := ⟨b, off + k, none⟩) hlt).trans hc⟩⟩
theorem IntsAt.below {w w' : World} {A : Option Addr} {n : Nat} {l : List Int} (h : IntsAt w A n l) (hb : Below w.heap.size w w') : IntsAt w' A n l :=
  ⟨h.cap, h.max, h.ok, fun k s hs => by
    obtain ⟨b, off, e, hlt, hc⟩ := h.at_ k s hs
    exact ⟨b, off, e, Nat.lt_of_lt_of_le hlt hb.size, (hb.cell (p := ⟨b, off + k, none⟩) hlt).trans hc⟩⟩
def mkF (ns : List ByteArray) (os : List Int) : List Fld := List.zipWith (fun n t => ⟨n, t, 0⟩) ns os
theorem mkF_length {ns : List ByteArray} {os : List Int} (h : ns.length = os.length) : (mkF ns os).length = ns.length := by unfold mkF; rw [List.length_zipWith]; omega
theorem mkF_get {ns : List ByteArray} {os : List Int} {k : Nat} {s : ByteArray} {t : Int} (h1 : ns[k]? = some s) (h2 : os[k]? = some t) : (mkF ns os)[k]? = some ⟨s, t, 0⟩ := by
  unfold mkF; rw [List.getElem?_zipWith, h1, h2]
theorem mkF_inv {ns : List ByteArray} {os : List Int} {k : Nat} {f : Fld} (h : (mkF ns os)[k]? = some f) : ns[k]? = some f.name ∧ os[k]? = some f.type ∧ f.off = 0 := by
  unfold mkF at h
  rw [List.getElem?_zipWith] at h
  cases h1 : ns[k]? with
  | none => rw [h1] at h; cases h
  | some s =>
    cases h2 : os[k]? with
    | none => rw [h1, h2] at h; cases h
    | some t =>
      rw [h1, h2] at h
      simp only [Option.some.injEq] at h
      subst h; exact ⟨rfl, rfl, rfl⟩
def recO (L : List Typ) (base : Int) (ns : List ByteArray) (os : List Int) : Option Typ := if ns.length ≠ os.length ∨ 200 < ns.length then none else recordT L base (mkF ns os)
section
variable {w : World} {A : Option Addr} {cap : Nat} {L : List Typ}
set_option maxHeartbeats 8000000 in
theorem rec1_any (H : TysAt w A cap L) (hL : 0 < L.length) (G : RowG L) (base : Int) (hbw : (Lit.int .i64 base).wf = true) {An Ao : Option Addr} {cn co : Nat} {ns : List ByteArray} {os : List Int} (HN : StrsAt w An cn ns) (HO : IntsAt w Ao co os)
    (p1 p2 p3 : Nat) (t1 t2 t3 : TypeId) (k1 : Blk w p1 #[.slice An ns.length cn] t1) (k2 : Blk w p2 #[.slice Ao os.length co] t2) (k3 : Blk w p3 #[.int .i64 base] t3) :
    Calls Try.prog 15 #[.slice A L.length cap, .pointer (some ⟨p1, 0, none⟩), .pointer (some ⟨p2, 0, none⟩), .pointer (some ⟨p3, 0, none⟩)] w (RecPost (recO L base ns os) w) := by
  have HB0 := Lib.hid ((Below.refl w.heap.size w).alloc (Nat.le_refl _) (.cells zType 27))
  have HZ := Lib.hid (Blk.new w zType 27)
  have c1 : (w.alloc (.cells zType 27)).cell? ⟨p1, 0, none⟩ = some (.slice An ns.length cn) := (k1.old _).cell 0
  have c2 : (w.alloc (.cells zType 27)).cell? ⟨p2, 0, none⟩ = some (.slice Ao os.length co) := (k2.old _).cell 0
  have c3 : (w.alloc (.cells zType 27)).cell? ⟨p3, 0, none⟩ = some (.int .i64 base) := (k3.old _).cell 0
  have mn := HN.max
  have mo := HO.max
  have ln := HN.cap
  have lo := HO.cap
  unfold maxLen at mn mo
  have HH := Lib.hid H
  have HG := Lib.hid G
  have HNN := Lib.hid HN
  have HOO := Lib.hid HO
  have K1 := Lib.hid k1
  have K2 := Lib.hid k2
  have K3 := Lib.hid k3
  have HBW := Lib.hid hbw
  clear H G HN HO k1 k2 k3 hbw
  have hst := store_type_new w zType _ 27 rfl rfl (tcells_one (t := ⟨0, 0, 0, 0, [], 0, 0⟩) (fv := .slice none 0 0) rfl)
  by_cases h1 : ns.length = os.length
  case neg =>
    have h11 : ((ns.length : Int) != (os.length : Int)) = true := by simp; omega
    have HNO := Lib.hid (show recO L base ns os = none by unfold recO; rw [if_pos (.inl h1)])
    have hres := loadVar_type (Blk.new w zType 27) rfl
    clear h1
    go_enter Try.func15, Try.ntmps15
    go_wp2_with fail
    refine bodyPost_ret (v := .tuple #[.agg (tcells ⟨0, 0, 0, 0, [], 0, 0⟩ (.slice none 0 0)), .bool false]) ?_ rfl (RecPost.no HNO.out (MadeNo.mk ⟨0, 0, 0, 0, [], 0, 0⟩ _ rfl HB0.out))
    simp [results, Try.results15, asAddr, hres]
  have h11 : ((ns.length : Int) != (os.length : Int)) = false := by simp; omega
  by_cases h2 : 200 < ns.length
  case pos =>
    have h21 : (200 : Int) < (ns.length : Int) := by omega
    have HNO := Lib.hid (show recO L base ns os = none by unfold recO; rw [if_pos (.inr h2)])
    have hres := loadVar_type (Blk.new w zType 27) rfl
    clear h1 h2
    go_enter Try.func15, Try.ntmps15
    go_wp2_with fail
    refine bodyPost_ret (v := .tuple #[.agg (tcells ⟨0, 0, 0, 0, [], 0, 0⟩ (.slice none 0 0)), .bool false]) ?_ rfl (RecPost.no HNO.out (MadeNo.mk ⟨0, 0, 0, 0, [], 0, 0⟩ _ rfl HB0.out))
    simp [results, Try.results15, asAddr, hres]
  have h21 : ¬ (200 : Int) < (ns.length : Int) := by omega
  have h22 : ns.length ≤ 200 := by omega
  have HRO := Lib.hid (show recO L base ns os = recordT L base (mkF ns os) by unfold recO; rw [if_neg (by omega)])
  have H1 := Lib.hid h1
  have HFL := Lib.hid (mkF_length h1)
  obtain ⟨i0, hi, hz0, hz1, hz2⟩ := info_parts info_field
  have HI := Lib.hid hi
  have HZ0 := Lib.hid hz0
  have HZ1 := Lib.hid hz1
  have HZ2 := Lib.hid hz2
  clear hi hz0 hz1 hz2 hst h2
  go_enter Try.func15, Try.ntmps15
  go_wp2_with fail
  generalize w.alloc (.cells zType 27) = W0 at HB0 HZ ⊢
  clear c1 c2 c3
  go_loopw [7, 23] (fun v i wr => ∃ k : Nat, k ≤ ns.length ∧ i = .int .i64 k ∧ Hid (wr.ownsRow (w.heap.size + 1) 35 3 v ((mkF ns os).take k).length (flatF ((mkF ns os).take k))) ∧ Hid (Blk wr w.heap.size zType 27) ∧ Hid (Below w.heap.size w wr)) (fun _ i _ => ns.length - (intOf i).toNat)
  case atStart => exact ⟨0, by omega, rfl, World.ownsRow_nil _ _ _ _, HZ, HB0⟩
  case round =>
    obtain ⟨k, hk, rfl, OWN, KZ, HB⟩ := hrel
    clear HZ HB0
    by_cases hlt : k < ns.length
    · obtain ⟨s, hs⟩ : ∃ s, ns[k]? = some s := ⟨ns[k], List.getElem?_eq_getElem hlt⟩
      obtain ⟨o, ho⟩ : ∃ o, os[k]? = some o := ⟨os[k]'(by omega), List.getElem?_eq_getElem (by omega)⟩
      obtain ⟨bn, on, rfl, hbn, hcn⟩ := HNN.out.at_ k s hs
      obtain ⟨bo, oo, rfl, hbo, hco⟩ := HOO.out.at_ k o ho
      have d1 : wr.cell? ⟨bn, on + k, none⟩ = some (.string s) := (HB.out.cell (p := ⟨bn, on + k, none⟩) hbn).trans hcn
      have d2 : wr.cell? ⟨bo, oo + k, none⟩ = some (.int .i64 o) := (HB.out.cell (p := ⟨bo, oo + k, none⟩) hbo).trans hco
      have d3 : wr.cell? ⟨p2, 0, none⟩ = some (.slice (some ⟨bo, oo, none⟩) os.length co) := (HB.out.cell (p := ⟨p2, 0, none⟩) K2.out.lt).trans (K2.out.cell 0)
      have HFK := Lib.hid (mkF_get hs ho)
      have hlt1 : (k : Int) < (ns.length : Int) := by omega
      have hlt2 : (k : Int) < (os.length : Int) := by omega
      clear hs ho hcn hco
      go_wp2_with (at_builtin; go_must (refine wpList_append_own _ rfl _ _ 25 rfl (w.heap.size + 1) 35 i0 (.agg zField) 3 32 Try.underlying25 HI.out HZ0.out HZ1.out HZ2.out rfl (by decide) _ _ _ rfl (OWN.out.alloc _) ⟨wr.heap.size, 0, none⟩ 1 1 (fcells ⟨s, o, 0⟩).toList rfl rfl ?c1 ?c2 ?c3 ?c4 ?c5 ?_))
      case c2 => exact ⟨rfl, rfl, rfl⟩
      case c3 => have : ((mkF ns os).take k).length ≤ k := List.length_take_le _ _; unfold maxLen; omega
      case c4 => have : ((mkF ns os).take k).length ≤ k := List.length_take_le _ _; omega
      case c5 => have := KZ.out.lt; simp; omega
      intro v' w8 hown8 hgrow8 _
      have hno : w.heap.size ∉ u7.ownBlock.toList := fun hm => by
        simp only [Option.mem_toList, Option.mem_def] at hm
        have := own_lt OWN.out _ hm
        omega
      have T8 := ((Touch.of_below ((Below.refl _ wr).alloc (Nat.le_refl _) _) u7.ownBlock.toList).trans (Touch.of_grown hgrow8) (fun g hg _ => hg))
      have KZ8 := Lib.hid (T8.blk KZ.out hno)
      have HB8 := Lib.hid (HB.out.trans (T8.below HB.out.size (fun g hg => by
        simp only [Option.mem_toList, Option.mem_def] at hg
        have := own_lt OWN.out _ hg
        omega)))
      have OWN8 := Lib.hid (show w8.ownsRow (w.heap.size + 1) 35 3 v' ((mkF ns os).take (k + 1)).length (flatF ((mkF ns os).take (k + 1))) by
        rw [List.take_add_one, HFK.out]
        simp only [Option.toList_some]
        rw [List.length_append, flatF_snoc, List.length_take]
        exact hown8)
      clear hown8 hgrow8 T8 hno OWN KZ HB HFK
      go_wp2_with fail
      go_roundw
      case rel => exact ⟨k + 1, by omega, by go_num, OWN8, KZ8, HB8⟩
      case measure => simp [intOf]; omega
    · obtain rfl : k = ns.length := by omega
      have hown := OWN.out
      rw [List.take_of_length_le (by rw [HFL.out]; omega)] at hown
      have hfok : ∀ f ∈ mkF ns os, FOk f := fun f hf => by
        obtain ⟨i, hi⟩ := List.mem_iff_getElem?.1 hf
        obtain ⟨g1, g2, g3⟩ := mkF_inv hi
        exact ⟨HNN.out.ok _ (List.mem_of_getElem? g1), HOO.out.ok _ (List.mem_of_getElem? g2), by rw [g3]; rfl⟩
      have hflds := own_flds hown hfok
      obtain ⟨qa, qc, rfl, _, _, _⟩ := hflds.form
      have HFD := Lib.hid hflds
      have d4 : wr.cell? ⟨p3, 0, none⟩ = some (.int .i64 base) := (HB.out.cell (p := ⟨p3, 0, none⟩) K3.out.lt).trans (K3.out.cell 0)
      clear hown hfok hflds OWN
      cases hrec : recordT L base (mkF ns os) with
      | none =>
        have HRC := Lib.hid hrec
        clear hrec
        go_wp2_with (go_at_call 16; refine (record_no (HH.out.below HB.out) hL HG.out base HBW.out HFD.out HRC.out).mono ?_; rintro e W3 ⟨T, tv, rfl, htv, hb3⟩; have hst3 := store_type (KZ.out.step hb3) rfl rfl (tcells_one (t := T) htv); have hres := loadVar_type ((KZ.out.step hb3).setRow (tcells T tv)) rfl; have HT1 := Lib.hid htv; have HB3 := Lib.hid (HB.out.trans (hb3.mono HB.out.size)); clear hb3)
        refine bodyPost_ret (v := .tuple #[.agg (tcells T tv), .bool false]) ?_ rfl (RecPost.no (HRO.out.trans HRC.out) (MadeNo.mk T _ HT1.out (belRow HB3.out (Nat.le_refl _) _)))
        simp [results, Try.results15, asAddr, hres]
      | some T =>
        have HRC := Lib.hid hrec
        clear hrec
        have kzl := KZ.out.lt
        go_wp2_with (go_at_call 16; refine (record_yes (HH.out.below HB.out) hL HG.out base HBW.out HFD.out HRC.out).mono ?_; rintro e W3 ⟨tv, rfl, htv, hb3, hn3⟩; have hst3 := store_type (KZ.out.step hb3) rfl rfl (tcells_one (t := T) htv.one); have hres := loadVar_type ((KZ.out.step hb3).setRow (tcells T tv)) rfl; have HTV := Lib.hid htv; have HN3 := Lib.hid hn3; have HB3 := Lib.hid (HB.out.trans (hb3.mono HB.out.size)); clear hb3 htv hn3)
        have hbz := HB.out.size
        refine bodyPost_ret (v := .tuple #[.agg (tcells T tv), .bool true]) ?_ rfl (RecPost.yes (HRO.out.trans HRC.out) (Made.mk tv (HTV.out.touch (Touch.row _ _ _) (fun g hg => by have := HN3.out g hg; simp; omega)) (belRow HB3.out (Nat.le_refl _) _) (fun g hg => by have := HN3.out g hg; omega)))
        simp [results, Try.results15, asAddr, hres]
theorem recO_tok {L : List Typ} (G : RowG L) {base : Int} {ns : List ByteArray} {os : List Int} {T : Typ} (hbw : (Lit.int .i64 base).wf = true) (h : recO L base ns os = some T) (hs : T.size ≤ 16384) : TOk T := by
  unfold recO at h
  split at h
  · cases h
  · obtain ⟨acc, sz, h1, h2, h3, h4, rfl⟩ := recordT_some h
    obtain ⟨_, _, s0, _⟩ := recAt_inv G (size0_bd G base) _ acc sz (Nat.le_refl _) h4
    have hl := level0_bd G base
    have hs : (sz + 3) / 4 * 4 ≤ 16384 := hs
    exact ⟨rfl, rfl, rfl, hbw, WalkArith.wf_i64 (by show _ ∧ _; simp only; omega), WalkArith.wf_i64 (by show _ ∧ _; simp only; omega)⟩
/-- What AddRecord answers. -/
def AddPost (L : List Typ) (o : Option Typ) (w : World) (e : Ending) (w' : World) : Prop :=
  (isRowP L ∧ L.length < 200 ∧ ∃ T, o = some T ∧ T.size ≤ 16384 ∧ AddOk L T w e w') ∨ AddNo w e w'
set_option maxHeartbeats 4000000 in
theorem addrecord_any (H : TysAt w A cap L) (base : Int) (hbw : (Lit.int .i64 base).wf = true) {An Ao : Option Addr} {cn co : Nat} {ns : List ByteArray} {os : List Int} (HN : StrsAt w An cn ns) (HO : IntsAt w Ao co os) :
    Calls Try.prog 7 #[.slice A L.length cap, .int .i64 base, .slice An ns.length cn, .slice Ao os.length co] w (AddPost L (recO L base ns os) w) := by
  have hmf := hmf_ty
  have k1 := (Blk.new w #[.int .i64 base] 3)
  have k2 := Blk.new (w.alloc (.cells #[.int .i64 base] 3)) #[.slice An ns.length cn] 29
  have k3 := Blk.new ((w.alloc (.cells #[.int .i64 base] 3)).alloc (.cells #[.slice An ns.length cn] 29)) #[.slice Ao os.length co] 30
  have HB0 := Lib.hid ((((Below.refl w.heap.size w).alloc (Nat.le_refl _) (.cells #[.int .i64 base] 3)).alloc (by simp) (.cells #[.slice An ns.length cn] 29)).alloc (by simp; omega) (.cells #[.slice Ao os.length co] 30))
  simp only [World.size_alloc] at k2 k3
  have K1 := Lib.hid ((k1.old (.cells #[.slice An ns.length cn] 29)).old (.cells #[.slice Ao os.length co] 30))
  have K2 := Lib.hid (k2.old (.cells #[.slice Ao os.length co] 30))
  have K3 := Lib.hid k3
  have HH := Lib.hid H
  have HNN := Lib.hid HN
  have HOO := Lib.hid HO
  have HBW := Lib.hid hbw
  clear H HN HO hbw k1 k2 k3
  have HM := Lib.hid (show isRowP L → ∀ W, Below (((w.alloc (.cells #[.int .i64 base] 3)).alloc (.cells #[.slice An ns.length cn] 29)).alloc (.cells #[.slice Ao os.length co] 30)).heap.size (((w.alloc (.cells #[.int .i64 base] 3)).alloc (.cells #[.slice An ns.length cn] 29)).alloc (.cells #[.slice Ao os.length co] 30)) W → Calls Try.prog 15 #[.slice A L.length cap, .pointer (some ⟨w.heap.size + 1, 0, none⟩), .pointer (some ⟨w.heap.size + 1 + 1, 0, none⟩), .pointer (some ⟨w.heap.size, 0, none⟩)] W (RecPost (recO L base ns os) W) from
    fun hR W hW => rec1_any ((HH.out.below HB0.out).below hW) (by have := hR.1; omega) (rowG_of hR) base HBW.out ((HNN.out.below HB0.out).below hW) ((HOO.out.below HB0.out).below hW) _ _ _ _ _ _ (K2.out.step hW) (K3.out.step hW) (K1.out.step hW))
  by_cases hc : isRowP L ∧ L.length < 200 ∧ ∃ T, recO L base ns os = some T ∧ T.size ≤ 16384
  · obtain ⟨hR, hl, T, hT, hs⟩ := hc
    have HMY := Lib.hid (HM.out hR)
    rw [hT] at HMY
    have HR := Lib.hid hR
    have HL := Lib.hid hl
    have HT := Lib.hid hT
    have HS := Lib.hid hs
    have HTO := Lib.hid (recO_tok (rowG_of hR) HBW.out hT hs)
    clear hR hl hT hs HM
    go_enter Try.func7, Try.ntmps7
    go_wp2_with (go_at_call 14; go_must (refine (add_record_ok (HH.out.below HB0.out) HR.out HL.out HTO.out HS.out _ _ _ HMY.out).mono ?_); rintro e w1 ⟨A', cap', rfl, htt, hb1⟩; have HTT := Lib.hid htt; have HB1 := Lib.hid (HB0.out.trans (hb1.mono HB0.out.size)); clear htt hb1)
    go_ret3
    exact .inl ⟨HR.out, HL.out, T, HT.out, HS.out, A', cap', rfl, HTT.out, HB1.out⟩
  · have HC := Lib.hid hc
    clear hc
    go_enter Try.func7, Try.ntmps7
    go_wp2_with (go_at_call 14; go_must (refine (add_record_no (HH.out.below HB0.out) HC.out _ _ _ HM.out).mono ?_); rintro e w1 ⟨c, rfl, hc0, hb1⟩; have HB1 := Lib.hid (HB0.out.trans (hb1.mono HB0.out.size)); have HC0 := Lib.hid hc0; clear hb1 hc0)
    go_ret3
    exact .inr ⟨c, rfl, HC0.out, HB1.out⟩
set_option maxHeartbeats 4000000 in
theorem Field_any (H : TysAt w A cap L) (hR : isRowP L) (t : Int) (nm : ByteArray) :
    Calls Try.prog 8 #[.slice A L.length cap, .int .i64 t, .string nm] w fun e w' => e = .returned (fldV (fld L t nm)) ∧ Below w.heap.size w w' := by
  have HB0 := Lib.hid ((Below.refl w.heap.size w).alloc (Nat.le_refl _) (.cells zField 35))
  have HZ := Lib.hid (Blk.new w zField 35)
  have HH := Lib.hid H
  have HR := Lib.hid hR
  have hL : 0 < L.length := by have := hR.1; omega
  clear H hR
  cases hf : fld L t nm with
  | some x =>
    have HF := Lib.hid hf
    clear hf
    go_enter Try.func8, Try.ntmps8
    go_wp2_with (first
      | (go_at_call 17; refine (isrow_any (HH.out.below HB0.out) (c := true) ⟨fun _ => HR.out, fun _ => rfl⟩).mono ?_; rintro e w1 ⟨rfl, hb1⟩; have HB1 := Lib.hid (HB0.out.trans (hb1.mono HB0.out.size)); have HZ1 := Lib.hid (HZ.out.step hb1); clear hb1)
      | (go_at_call 18; refine (field_any (HH.out.below HB1.out) hL (rowG_of HR.out) t nm).mono ?_; rw [HF.out]; simp only [fldV]; rintro e w2 ⟨rfl, hb2⟩; have HB2 := Lib.hid (HB1.out.trans (hb2.mono HB1.out.size)); have hst := store_field (HZ1.out.step hb2) rfl rfl (fcells_one x); have hres := loadVar_field ((HZ1.out.step hb2).setRow (fcells x)) rfl; clear hb2))
    refine bodyPost_ret (v := .tuple #[.agg (fcells x), .bool true]) ?_ rfl ⟨rfl, belRow HB2.out (Nat.le_refl _) _⟩
    simp [results, Try.results8, asAddr, hres]
  | none =>
    have HF := Lib.hid hf
    clear hf
    go_enter Try.func8, Try.ntmps8
    go_wp2_with (first
      | (go_at_call 17; refine (isrow_any (HH.out.below HB0.out) (c := true) ⟨fun _ => HR.out, fun _ => rfl⟩).mono ?_; rintro e w1 ⟨rfl, hb1⟩; have HB1 := Lib.hid (HB0.out.trans (hb1.mono HB0.out.size)); have HZ1 := Lib.hid (HZ.out.step hb1); clear hb1)
      | (go_at_call 18; refine (field_any (HH.out.below HB1.out) hL (rowG_of HR.out) t nm).mono ?_; rw [HF.out]; simp only [fldV]; rintro e w2 ⟨rfl, hb2⟩; have HB2 := Lib.hid (HB1.out.trans (hb2.mono HB1.out.size)); have hst := store_field (HZ1.out.step hb2) rfl rfl (fcells_one ⟨⟨#[]⟩, 0, 0⟩); have hres := loadVar_field ((HZ1.out.step hb2).setRow zField) rfl; clear hb2))
    refine bodyPost_ret (v := .tuple #[.agg zField, .bool false]) ?_ rfl ⟨rfl, belRow HB2.out (Nat.le_refl _) _⟩
    simp [results, Try.results8, asAddr, hres]
set_option maxHeartbeats 4000000 in
theorem Align_any (H : TysAt w A cap L) (hR : isRowP L) (k : Nat) (hk : k < L.length) (ht : thing L (k : Int) = true) :
    Calls Try.prog 9 #[.slice A L.length cap, .int .i64 (k : Int)] w fun e w' => e = .returned (.int .i64 (al L (k : Int))) ∧ Below w.heap.size w w' := by
  have HH := Lib.hid H
  have HR := Lib.hid hR
  have HT := Lib.hid ht
  clear H hR ht
  go_enter Try.func9, Try.ntmps9
  go_wp2_with (first
    | (go_at_call 17; refine (isrow_any HH.out (c := true) ⟨fun _ => HR.out, fun _ => rfl⟩).mono ?_; rintro e w1 ⟨rfl, hb1⟩; have HB1 := Lib.hid hb1; clear hb1)
    | (go_at_call 19; refine (thing_any (HH.out.below HB1.out) (k : Int)).mono ?_; rw [HT.out]; rintro e w2 ⟨rfl, hb2⟩; have HB2 := Lib.hid (HB1.out.trans (hb2.mono HB1.out.size)); clear hb2)
    | (go_at_call 20; refine (align_any (HH.out.below HB2.out) (rowG_of HR.out) k hk).mono ?_; rintro e w3 ⟨rfl, rfl⟩))
  go_ret
  exact ⟨rfl, HB2.out⟩
end
end Go.Proofs.Ytmbnpfjimidggaa
