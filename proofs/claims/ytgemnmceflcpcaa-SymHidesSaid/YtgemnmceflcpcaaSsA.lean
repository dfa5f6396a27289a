/- An answer is its owner's: spoil writes into its lists alone. -/
import Derived.Test.YtgemnmceflcpcaaSdS
namespace Go.Proofs.Ytgemnmceflcpcaa
open Go Go.RowKit Go.Lib Go.Proofs.Ytgemnmceflcpcaa.Sy
set_option linter.unusedVariables false
set_option linter.unusedSimpArgs false
attribute [local go_sem ↓] exec_load_const exec_store_const exec_load_var exec_store_var exec_load_proc exec_store_proc exec_load_sym exec_store_sym
/-- A list of n rows of sz cells in a block of R. -/
def Lst (w : World) (R : List Nat) (ty : TypeId) (sz : Nat) (v : Value) (n : Nat) : Prop :=
  ∃ A cap, v = .slice A n cap ∧ n ≤ cap ∧ cap ≤ maxLen ∧ (n = 0 ∨ ∃ g cur, A = some ⟨g, 0, none⟩ ∧ g ∈ R ∧ Blk w g cur ty ∧ n * sz ≤ cur.size)
theorem Lst.own {w : World} {B : Nat} {R : List Nat} {ty : TypeId} {sz : Nat} {v : Value} {rows : List (List Value)} (h : OwnL w B ty sz v rows) (hr : ∀ g, v.ownBlock = some g → g ∈ R) : Lst w R ty sz v rows.length := by
  rcases h.2 with ⟨rfl, h1⟩ | ⟨g, cp, cur, rfl, h1, h2, h3, h4, h5, h6⟩
  · exact ⟨none, 0, by rw [h1], by omega, by unfold maxLen; omega, .inl h1⟩
  · exact ⟨_, cp, rfl, h3, h4, .inr ⟨g, cur, rfl, hr g rfl, h2, by rw [h5]; exact Nat.mul_le_mul_right _ h3⟩⟩
theorem Lst.set {w : World} {R : List Nat} {ty : TypeId} {sz n : Nat} {v : Value} (h : Lst w R ty sz v n) (b i : Nat) (x : Value) : Lst (w.setCell ⟨b, i, none⟩ x) R ty sz v n := by
  obtain ⟨A, cap, e, h1, h2, h3⟩ := h
  refine ⟨A, cap, e, h1, h2, ?_⟩
  rcases h3 with h3 | ⟨g, cur, e, hg, hb, hs⟩
  · exact .inl h3
  · by_cases hgb : g = b
    · subst hgb; exact .inr ⟨g, _, e, hg, hb.set i x, by simpa using hs⟩
    · exact .inr ⟨g, cur, e, hg, hb.far (p := ⟨b, i, none⟩) hgb x, hs⟩
theorem Lst.alloc {w : World} {R : List Nat} {ty : TypeId} {sz n : Nat} {v : Value} (h : Lst w R ty sz v n) (o : Obj) : Lst (w.alloc o) R ty sz v n := by
  obtain ⟨A, cap, e, h1, h2, h3⟩ := h
  refine ⟨A, cap, e, h1, h2, ?_⟩
  rcases h3 with h3 | ⟨g, cur, e, hg, hb, hs⟩
  · exact .inl h3
  · exact .inr ⟨g, cur, e, hg, hb.old o, hs⟩
/-- Procedures, each with a list. -/
def Lps (w : World) (R : List Nat) (v : Value) (pvs : List Value) : Prop :=
  ∃ A cap, v = .slice A pvs.length cap ∧ pvs.length ≤ cap ∧ cap ≤ maxLen ∧ (pvs.length = 0 ∨ ∃ g cur, A = some ⟨g, 0, none⟩ ∧ g ∈ R ∧ Blk w g cur 63 ∧ pvs.length * 3 ≤ cur.size ∧ ∀ k q, pvs[k]? = some q → cur[k * 3 + 1]? = some q)
theorem Lps.setAt {w : World} {R : List Nat} {v : Value} {pvs : List Value} (h : Lps w R v pvs) (b i : Nat) (x : Value) : Lps (w.setCell ⟨b, i * 3, none⟩ x) R v pvs := by
  obtain ⟨A, cap, e, h1, h2, h3⟩ := h
  refine ⟨A, cap, e, h1, h2, ?_⟩
  rcases h3 with h3 | ⟨g, cur, e, hg, hb, hs, hq⟩
  · exact .inl h3
  · by_cases hgb : g = b
    · subst hgb; exact .inr ⟨g, _, e, hg, hb.set _ x, by simpa using hs, fun k q hk => by rw [Array.getElem?_setIfInBounds_ne (by omega)]; exact hq k q hk⟩
    · exact .inr ⟨g, cur, e, hg, hb.far (p := ⟨b, i * 3, none⟩) hgb x, hs, hq⟩
theorem Lps.far {w : World} {R : List Nat} {v : Value} {pvs : List Value} (h : Lps w R v pvs) {b : Nat} {cur : Array Value} {ty : TypeId} (hb : Blk w b cur ty) (ht : ty ≠ 63) (i : Nat) (x : Value) : Lps (w.setCell ⟨b, i, none⟩ x) R v pvs := by
  obtain ⟨A, cap, e, h1, h2, h3⟩ := h
  refine ⟨A, cap, e, h1, h2, ?_⟩
  rcases h3 with h3 | ⟨g, cur, e, hg, hb', hs, hq⟩
  · exact .inl h3
  · have hgb : g ≠ b := by
      rintro rfl
      unfold Blk at hb hb'
      rw [hb] at hb'; cases hb'; exact ht rfl
    exact .inr ⟨g, cur, e, hg, hb'.far (p := ⟨b, i, none⟩) hgb x, hs, hq⟩
theorem Lps.alloc {w : World} {R : List Nat} {v : Value} {pvs : List Value} (h : Lps w R v pvs) (o : Obj) : Lps (w.alloc o) R v pvs := by
  obtain ⟨A, cap, e, h1, h2, h3⟩ := h
  refine ⟨A, cap, e, h1, h2, ?_⟩
  rcases h3 with h3 | ⟨g, cur, e, hg, hb, hs, hq⟩
  · exact .inl h3
  · exact .inr ⟨g, cur, e, hg, hb.old o, hs, hq⟩
theorem Lps.own {w : World} {B : Nat} {R : List Nat} {v : Value} {l : List Pr} {pvs : List Value} (h : OwnPs w B v l pvs) (hr : ∀ g, v.ownBlock = some g → g ∈ R) : Lps w R v pvs := by
  have hl : (prows l pvs).length = pvs.length := by rw [prows_len h.len, h.len]
  have hL : OwnL w B 63 3 v (prows l pvs) := h.own
  rcases hL.2 with ⟨rfl, h1⟩ | ⟨g, cp, cur, rfl, h1, h2, h3, h4, h5, h6⟩
  · rw [hl] at h1
    exact ⟨none, 0, by rw [h1], by omega, by unfold maxLen; omega, .inl h1⟩
  · rw [hl] at h3 h6 ⊢
    refine ⟨_, cp, rfl, h3, h4, .inr ⟨g, cur, rfl, hr g rfl, h2, by rw [h5]; exact Nat.mul_le_mul_right _ h3, fun k q hk => ?_⟩⟩
    have hkl : k < pvs.length := (List.getElem?_eq_some_iff.1 hk).1
    have hkl2 : k < l.length := by have := h.len; omega
    have hrow : (prows l pvs)[k]? = some (pcells l[k] q).toList := by
      unfold prows; rw [List.getElem?_zipWith, List.getElem?_eq_getElem hkl2, hk]
    have := flat_get (fun r hr => by unfold prows at hr; obtain ⟨j, hj, rfl⟩ := List.getElem_of_mem hr; rw [List.getElem_zipWith]; exact (show (pcells _ _).toList.length = 3 from rfl)) k _ hrow 1 q rfl
    rw [← h6, List.getElem?_take_of_lt (by omega)] at this
    simpa using this
/-- What spoil writes into. -/
structure Spo (w : World) (R : List Nat) (s : Sm) (cv vv pv : Value) (pvs : List Value) : Prop where
  c : Lst w R 48 5 cv s.consts.length
  v : Lst w R 73 5 vv s.vars.length
  p : Lps w R pv pvs
  q : ∀ q ∈ pvs, ∃ m, Lst w R 73 5 q m
theorem Spo.alloc {w : World} {R : List Nat} {s : Sm} {cv vv pv : Value} {pvs : List Value} (h : Spo w R s cv vv pv pvs) (o : Obj) : Spo (w.alloc o) R s cv vv pv pvs :=
  ⟨h.c.alloc o, h.v.alloc o, h.p.alloc o, fun q hq => by obtain ⟨m, hm⟩ := h.q q hq; exact ⟨m, hm.alloc o⟩⟩
theorem Spo.far {w : World} {R : List Nat} {s : Sm} {cv vv pv : Value} {pvs : List Value} (h : Spo w R s cv vv pv pvs) {b : Nat} {cur : Array Value} {ty : TypeId} (hb : Blk w b cur ty) (ht : ty ≠ 63) (i : Nat) (x : Value) : Spo (w.setCell ⟨b, i, none⟩ x) R s cv vv pv pvs :=
  ⟨h.c.set b i x, h.v.set b i x, h.p.far hb ht i x, fun q hq => by obtain ⟨m, hm⟩ := h.q q hq; exact ⟨m, hm.set b i x⟩⟩
theorem Spo.setAt {w : World} {R : List Nat} {s : Sm} {cv vv pv : Value} {pvs : List Value} (h : Spo w R s cv vv pv pvs) (b i : Nat) (x : Value) : Spo (w.setCell ⟨b, i * 3, none⟩ x) R s cv vv pv pvs :=
  ⟨h.c.set b _ x, h.v.set b _ x, h.p.setAt b i x, fun q hq => by obtain ⟨m, hm⟩ := h.q q hq; exact ⟨m, hm.set b _ x⟩⟩
/-- The blocks of an answer's lists. -/
def ownR (cv vv pv : Value) (pvs : List Value) : List Nat := cv.ownBlock.toList ++ vv.ownBlock.toList ++ pv.ownBlock.toList ++ pvs.flatMap fun q => q.ownBlock.toList
theorem Spo.of {w : World} {B : Nat} {s : Sm} {cv vv pv : Value} {pvs : List Value} (h : SmOwn w B s cv vv pv pvs) : Spo w (ownR cv vv pv pvs) s cv vv pv pvs := by
  have h1 := Lst.own (R := ownR cv vv pv pvs) h.c (fun g hg => by unfold ownR; simp [hg])
  have h2 := Lst.own (R := ownR cv vv pv pvs) h.v (fun g hg => by unfold ownR; simp [hg])
  rw [List.length_map] at h1 h2
  refine ⟨h1, h2, Lps.own h.p (fun g hg => by unfold ownR; simp [hg]), fun q hq => ?_⟩
  obtain ⟨k, hk⟩ := List.mem_iff_getElem?.1 hq
  have hkl : k < pvs.length := (List.getElem?_eq_some_iff.1 hk).1
  have hkl2 : k < s.procs.length := by have := h.p.len; omega
  exact ⟨_, Lst.own (h.p.each k _ q (List.getElem?_eq_getElem hkl2) hk) (fun g hg => by unfold ownR; simp only [List.mem_append, List.mem_flatMap]; exact .inr ⟨q, hq, by simp [hg]⟩)⟩
theorem ownR_in {w : World} {B : Nat} {s : Sm} {cv vv pv : Value} {pvs : List Value} (h : SmOwn w B s cv vv pv pvs) : ∀ x ∈ ownR cv vv pv pvs, B ≤ x ∧ x < w.heap.size := by
  intro x hx
  unfold ownR at hx
  simp only [List.mem_append, List.mem_flatMap, Option.mem_toList, Option.mem_def] at hx
  rcases hx with ((hx | hx) | hx) | ⟨q, hq, hx⟩
  · have := OwnL.lt h.c x hx; omega
  · have := OwnL.lt h.v x hx; omega
  · have := OwnL.lt h.p.own x hx; omega
  · obtain ⟨k, hk⟩ := List.mem_iff_getElem?.1 hq
    have hkl : k < pvs.length := (List.getElem?_eq_some_iff.1 hk).1
    have hkl2 : k < s.procs.length := by have := h.p.len; omega
    have := OwnL.lt (h.p.each k _ q (List.getElem?_eq_getElem hkl2) hk) x hx; omega
section
variable {w : World}
set_option maxHeartbeats 8000000 in
set_option maxRecDepth 100000 in
theorem spoil_any {R : List Nat} {s : Sm} {cv vv pv : Value} {pvs : List Value} (hS : Spo w R s cv vv pv pvs) (hR : ∀ x ∈ R, x < w.heap.size) (h1 : OneRow (scells s cv vv pv)) :
    Calls Try.prog 20 #[.agg (scells s cv vv pv)] w fun e w' => (∃ a, e = .returned a) ∧ Touch w w' R := by
  have HT0 := Lib.hid ((Touch.alloc w (.cells (scells s cv vv pv) 26)).mono (r' := R) (fun x h => by cases h))
  have KX0 := Lib.hid (Blk.new w (scells s cv vv pv) 26)
  have HS0 := Lib.hid (hS.alloc (.cells (scells s cv vv pv) 26))
  have HR := Lib.hid hR
  clear hS hR
  go_enter Try.func20, Try.ntmps20
  go_upto_region 1 with fail
  generalize w.alloc (.cells (scells s cv vv pv) 26) = w0 at HT0 KX0 HS0 ⊢
  clear h1
  obtain ⟨A1, cap1, rfl, c11, c12, _⟩ := HS0.out.c
  obtain ⟨A2, cap2, rfl, c21, c22, _⟩ := HS0.out.v
  obtain ⟨A3, cap3, rfl, c31, c32, _⟩ := HS0.out.p
  unfold maxLen at c12 c22 c32
  go_wp2_with fail
  go_loopw [2] (fun u wr => ∃ k : Nat, k ≤ s.consts.length ∧ u = .int .i64 k ∧ Hid (Touch w wr R) ∧ Hid (Blk wr w.heap.size (scells s (.slice A1 s.consts.length cap1) (.slice A2 s.vars.length cap2) (.slice A3 pvs.length cap3)) 26) ∧ Hid (Spo wr R s (.slice A1 s.consts.length cap1) (.slice A2 s.vars.length cap2) (.slice A3 pvs.length cap3) pvs)) (fun u _ => s.consts.length - (intOf u).toNat)
  case atStart => exact ⟨0, Nat.zero_le _, rfl, HT0, KX0, HS0⟩
  case round =>
    obtain ⟨k, hk, rfl, HT1, KX1, HS1⟩ := hrel
    clear HT0 KX0 HS0
    have x1 := KX1.out.cell 1
    by_cases hlt : k < s.consts.length
    · obtain ⟨_, _, e, _, _, hz | ⟨g, cur, hA, hg, hb, hs⟩⟩ := HS1.out.c
      · omega
      cases e
      subst hA
      have hi : k * 5 < cur.size := by omega
      have y1 : wr.cell? ⟨g, k * 5, none⟩ = some cur[k * 5] := by rw [hb.cell]; exact Array.getElem?_eq_getElem hi
      have y2 := hb.frozen (k * 5)
      have hgz : g < w.heap.size := HR.out g hg
      have HG := Lib.hid hg
      have HB := Lib.hid hb
      have hk1 : (0 : Int) ≤ (k : Int) := by omega
      have hk2 : (k : Int) < (s.consts.length : Int) := by omega
      clear hb hs hg
      go_wp2_with fail
      go_roundw
      case rel => exact ⟨k + 1, by omega, by go_num, Lib.hid (HT1.out.trans (Touch.set wr ⟨g, k * 5, none⟩ _) (fun x hx _ => by simp only [List.mem_singleton] at hx; subst hx; exact HG.out)), Lib.hid (KX1.out.far (p := ⟨g, k * 5, none⟩) (show w.heap.size ≠ g by omega) _), Lib.hid (HS1.out.far HB.out (by decide) _ _)⟩
      case measure => simp [intOf]; omega
    · obtain rfl : k = s.consts.length := by omega
      go_wp2_with fail
      clear x1
      go_loopw [3] (fun u wr => ∃ k : Nat, k ≤ s.vars.length ∧ u = .int .i64 k ∧ Hid (Touch w wr R) ∧ Hid (Blk wr w.heap.size (scells s (.slice A1 s.consts.length cap1) (.slice A2 s.vars.length cap2) (.slice A3 pvs.length cap3)) 26) ∧ Hid (Spo wr R s (.slice A1 s.consts.length cap1) (.slice A2 s.vars.length cap2) (.slice A3 pvs.length cap3) pvs)) (fun u _ => s.vars.length - (intOf u).toNat)
      case atStart => exact ⟨0, Nat.zero_le _, rfl, HT1, KX1, HS1⟩
      case round =>
        clear HT1 KX1 HS1
        obtain ⟨k, hk, rfl, HT1, KX1, HS1⟩ := hrel
        have x2 := KX1.out.cell 2
        by_cases hlt : k < s.vars.length
        · obtain ⟨_, _, e, _, _, hz | ⟨g, cur, hA, hg, hb, hs⟩⟩ := HS1.out.v
          · omega
          cases e
          subst hA
          have hi : k * 5 < cur.size := by omega
          have y1 : wr.cell? ⟨g, k * 5, none⟩ = some cur[k * 5] := by rw [hb.cell]; exact Array.getElem?_eq_getElem hi
          have y2 := hb.frozen (k * 5)
          have hgz : g < w.heap.size := HR.out g hg
          have HG := Lib.hid hg
          have HB := Lib.hid hb
          have hk1 : (0 : Int) ≤ (k : Int) := by omega
          have hk2 : (k : Int) < (s.vars.length : Int) := by omega
          clear hb hs hg
          go_wp2_with fail
          go_roundw
          case rel => exact ⟨k + 1, by omega, by go_num, Lib.hid (HT1.out.trans (Touch.set wr ⟨g, k * 5, none⟩ _) (fun x hx _ => by simp only [List.mem_singleton] at hx; subst hx; exact HG.out)), Lib.hid (KX1.out.far (p := ⟨g, k * 5, none⟩) (show w.heap.size ≠ g by omega) _), Lib.hid (HS1.out.far HB.out (by decide) _ _)⟩
          case measure => simp [intOf]; omega
        · obtain rfl : k = s.vars.length := by omega
          go_wp2_with fail
          clear x2
          go_loopw [4, 5] (fun u t wr => ∃ k : Nat, k ≤ pvs.length ∧ u = .int .i64 k ∧ Hid (Touch w wr R) ∧ Hid (Blk wr w.heap.size (scells s (.slice A1 s.consts.length cap1) (.slice A2 s.vars.length cap2) (.slice A3 pvs.length cap3)) 26) ∧ Hid (Spo wr R s (.slice A1 s.consts.length cap1) (.slice A2 s.vars.length cap2) (.slice A3 pvs.length cap3) pvs)) (fun u _ _ => pvs.length - (intOf u).toNat)
          case atStart => exact ⟨0, Nat.zero_le _, rfl, HT1, KX1, HS1⟩
          case round =>
            clear HT1 KX1 HS1
            obtain ⟨k, hk, rfl, HT1, KX1, HS1⟩ := hrel
            have x3 := KX1.out.cell 3
            by_cases hlt : k < pvs.length
            · obtain ⟨_, _, e, _, _, hz | ⟨g3, cur3, hA, hg3, hb3, hs3, hq3⟩⟩ := HS1.out.p
              · omega
              cases e
              subst hA
              obtain ⟨qv, hqv⟩ : ∃ qv, pvs[k]? = some qv := ⟨_, List.getElem?_eq_getElem hlt⟩
              obtain ⟨mq, A4, cap4, rfl, c41, c42, _⟩ := HS1.out.q qv (List.mem_of_getElem? hqv)
              unfold maxLen at c42
              have hgz3 : g3 < w.heap.size := HR.out g3 hg3
              have HG3 := Lib.hid hg3
              have HQV := Lib.hid hqv
              have hk1 : (0 : Int) ≤ (k : Int) := by omega
              have hk2 : (k : Int) < (pvs.length : Int) := by omega
              clear hb3 hs3 hg3 hq3 hqv
              go_wp2_with fail
              clear x3
              go_loopw [5] (fun u wr => ∃ kk : Nat, kk ≤ mq ∧ u = .int .i64 kk ∧ Hid (Touch w wr R) ∧ Hid (Blk wr w.heap.size (scells s (.slice A1 s.consts.length cap1) (.slice A2 s.vars.length cap2) (.slice (some ⟨g3, 0, none⟩) pvs.length cap3)) 26) ∧ Hid (Spo wr R s (.slice A1 s.consts.length cap1) (.slice A2 s.vars.length cap2) (.slice (some ⟨g3, 0, none⟩) pvs.length cap3) pvs)) (fun u _ => mq - (intOf u).toNat)
              case atStart => exact ⟨0, Nat.zero_le _, rfl, HT1, KX1, HS1⟩
              case round =>
                clear HT1 KX1 HS1
                obtain ⟨kk, hkk, rfl, HT1, KX1, HS1⟩ := hrel
                have x3 := KX1.out.cell 3
                obtain ⟨_, _, e, _, _, hz | ⟨g3', cur3, hA, hg3, hb3, hs3, hq3⟩⟩ := HS1.out.p
                · omega
                cases e
                cases hA
                have y3 : wr.cell? ⟨g3, k * 3 + 1, none⟩ = some (.slice A4 mq cap4) := by rw [hb3.cell]; exact hq3 k _ HQV.out
                have hi3 : k * 3 < cur3.size := by omega
                have z1 : wr.cell? ⟨g3, k * 3, none⟩ = some cur3[k * 3] := by rw [hb3.cell]; exact Array.getElem?_eq_getElem hi3
                have z2 := hb3.frozen (k * 3)
                clear hb3 hs3 hg3 hq3
                by_cases hlt2 : kk < mq
                · obtain ⟨m2, _, _, e, _, _, hz | ⟨g, cur, hA, hg, hb, hs⟩⟩ := HS1.out.q _ (List.mem_of_getElem? HQV.out)
                  · cases e; omega
                  cases e
                  subst hA
                  have hi : kk * 5 + 1 < cur.size := by omega
                  have y1 : wr.cell? ⟨g, kk * 5 + 1, none⟩ = some cur[kk * 5 + 1] := by rw [hb.cell]; exact Array.getElem?_eq_getElem hi
                  have y2 := hb.frozen (kk * 5 + 1)
                  have hgz : g < w.heap.size := HR.out g hg
                  have HG := Lib.hid hg
                  have HB := Lib.hid hb
                  have hl1 : (0 : Int) ≤ (kk : Int) := by omega
                  have hl2 : (kk : Int) < (mq : Int) := by omega
                  clear hb hs hg z1 z2
                  go_wp2_with fail
                  go_roundw
                  case rel => exact ⟨kk + 1, by omega, by go_num, Lib.hid (HT1.out.trans (Touch.set wr ⟨g, kk * 5 + 1, none⟩ _) (fun x hx _ => by simp only [List.mem_singleton] at hx; subst hx; exact HG.out)), Lib.hid (KX1.out.far (p := ⟨g, kk * 5 + 1, none⟩) (show w.heap.size ≠ g by omega) _), Lib.hid (HS1.out.far HB.out (by decide) _ _)⟩
                  case measure => simp [intOf]; omega
                · obtain rfl : kk = mq := by omega
                  go_wp2_with fail
                  go_roundw
                  case rel => exact ⟨k + 1, by omega, by go_num, Lib.hid (HT1.out.trans (Touch.set wr ⟨g3, k * 3, none⟩ _) (fun x hx _ => by simp only [List.mem_singleton] at hx; subst hx; exact HG3.out)), Lib.hid (KX1.out.far (p := ⟨g3, k * 3, none⟩) (show w.heap.size ≠ g3 by omega) _), Lib.hid (HS1.out.setAt _ _ _)⟩
                  case measure => simp [intOf]; omega
            · obtain rfl : k = pvs.length := by omega
              go_wp2_with fail
              go_end0
              exact ⟨⟨_, rfl⟩, HT1.out⟩
end
end Go.Proofs.Ytgemnmceflcpcaa
