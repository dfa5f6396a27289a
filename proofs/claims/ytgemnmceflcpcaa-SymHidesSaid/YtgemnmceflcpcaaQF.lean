/- A text read: the program's. -/
import Derived.Test.YtgemnmceflcpcaaSdB
namespace Go.Proofs.Ytgemnmceflcpcaa
open Go Go.RowKit Go.Lib Go.Proofs.Ytgemnmceflcpcaa.Sy Pl
set_option linter.unusedVariables false
set_option linter.unusedSimpArgs false
def textV (o : Option (ByteArray × Nat)) : Value := match o with
  | some (s, nx) => .tuple #[.string s, .int .i64 nx, .bool true]
  | none => .tuple #[.string ⟨#[]⟩, .int .i64 0, .bool false]
theorem uintL_len {l : List Int} (ho : Oct l) {n k : Nat} (h : uintL l = some (n, k)) : 1 ≤ k ∧ k ≤ l.length ∧ k ≤ 5 := by
  obtain ⟨h1, h2, h3⟩ := uintL_dec ho h
  have h5 := grps_len5 (n := n) (by omega)
  have hl := congrArg List.length h3
  rw [List.length_append, List.length_drop] at hl
  have h0 : 1 ≤ (grps n).length := by
    by_cases hn : n < 128
    · rw [grps_lt hn]; simp
    · rw [grps_ge hn]; simp
  omega
theorem oct_drop {l : List Int} (h : Oct l) (k : Nat) : Oct (l.drop k) := fun x hx => h x (List.drop_subset _ _ hx)
theorem oct_take {l : List Int} (h : Oct l) (k : Nat) : Oct (l.take k) := fun x hx => h x (List.take_subset _ _ hx)
section
variable {w : World}
theorem uint_any {v : Value} {l : List Int} (hF : BytesAt w v l) (ho : Oct l) (hl : l.length ≤ 2000000000) (p : Nat) (hp : p ≤ l.length) :
    Calls Try.prog 82 #[v, .int .i64 p] w fun e w' => e = .returned (uintV (uintL (l.drop p)) p) ∧ w = w' := by
  obtain ⟨A, cap, rfl, h1, h2, hr⟩ := bytes_form hF
  by_cases h : p < l.length
  · obtain ⟨b, off, rfl, hb, hc⟩ := hr (by omega)
    exact uint_some b off cap l p ho hl h1 h2 h hc
  · obtain rfl : p = l.length := by omega
    rw [List.drop_length, show uintL [] = none from rfl]
    exact uint_end A cap _ hl h1 h2
theorem bytes_cut {b off cap : Nat} {l : List Int} (hb : b < w.heap.size) (hc : ∀ i, i < l.length → w.cell? ⟨b, off + i, none⟩ = some (.int .u8 (l.getD i 0))) (h2 : cap ≤ maxLen) (q n : Nat) (hq : q + n ≤ l.length) (hcap : l.length ≤ cap) :
    BytesAt w (.slice (some ⟨b, off + q, none⟩) n (cap - q)) ((l.drop q).take n) := by
  have hlen : ((l.drop q).take n).length = n := by rw [List.length_take, List.length_drop]; omega
  refine ⟨some ⟨b, off + q, none⟩, cap - q, by rw [List.length_map, hlen], by rw [List.length_map, hlen]; omega, by omega, fun k r hr => ⟨b, off + q, rfl, hb, fun j u hj => ?_⟩⟩
  rw [List.getElem?_map] at hr
  cases hx : ((l.drop q).take n)[k]? with
  | none => rw [hx] at hr; cases hr
  | some x =>
    rw [hx] at hr; cases hr
    have hk : k < n := by have := (List.getElem?_eq_some_iff.1 hx).1; omega
    have hxl : l.getD (q + k) 0 = x := by
      rw [List.getElem?_take, if_pos hk, List.getElem?_drop] at hx
      simp [List.getD, hx]
    cases j with
    | zero =>
      simp only [List.getElem?_cons_zero, Option.some.injEq] at hj; subst hj
      have := hc (q + k) (by omega)
      rw [hxl] at this
      rw [← this]; congr 2; omega
    | succ j => simp at hj
theorem bytes_none (A : Option Addr) (c : Nat) (hc : c ≤ maxLen) : BytesAt w (.slice A 0 c) [] := ⟨A, c, rfl, Nat.zero_le _, hc, fun k r h => by simp at h⟩
theorem ret_text {s t : ByteArray} {a b : Int} (h : s = t) (k : a = b) : Ending.returned (.tuple #[.string s, .int .i64 a, .bool true]) = .returned (.tuple #[.string t, .int .i64 b, .bool true]) := by rw [h, k]
set_option maxHeartbeats 4000000 in
set_option maxRecDepth 100000 in
theorem text_any {v : Value} {l : List Int} (hF : BytesAt w v l) (ho : Oct l) (hl : l.length ≤ 2000000000) (p : Nat) (hp : p ≤ l.length) (most : Nat) (hm : most ≤ 1000) :
    Calls Try.prog 79 #[v, .int .i64 p, .int .i64 most] w fun e w' => e = .returned (textV (textL l most p)) ∧ w = w' := by
  have H1 := Lib.hid (uint_any hF ho hl p hp)
  obtain ⟨A, cap, rfl, h1, h2, hr⟩ := bytes_form hF
  cases hu : uintL (l.drop p) with
  | none =>
    rw [hu] at H1
    have HE := Lib.hid (show textL l most p = none by unfold textL; rw [hu])
    have H1 : Hid (Calls Try.prog 82 #[.slice A l.length cap, .int .i64 p] w fun e w' => e = .returned (.tuple #[.int .u32 0, .int .i64 0, .bool false]) ∧ w = w') := H1
    clear hF ho hr hu
    go_enter Try.func79, Try.ntmps79
    go_wp2_with (go_at_call 82; refine H1.out.mono ?_; rintro e w' ⟨rfl, rfl⟩)
    go_ret3
    rw [HE.out]; exact ⟨rfl, rfl⟩
  | some nk =>
    obtain ⟨n, k⟩ := nk
    rw [hu] at H1
    obtain ⟨k1, k2, k5⟩ := uintL_len (oct_drop ho p) hu
    have hn := (uintL_dec (oct_drop ho p) hu).1
    rw [List.length_drop] at k2
    obtain ⟨b, off, rfl, hb, hc⟩ := hr (by omega)
    obtain ⟨q, hq⟩ : ∃ q, p + k = q := ⟨_, rfl⟩
    have H1 : Hid (Calls Try.prog 82 #[.slice (some ⟨b, off, none⟩) l.length cap, .int .i64 p] w fun e w' => e = .returned (.tuple #[.int .u32 n, .int .i64 (q : Int), .bool true]) ∧ w = w') := by rw [← hq]; exact H1
    have HE := Lib.hid (show textL l most p = if n ≤ most ∧ q + n ≤ l.length then some (strOfNums ((l.drop q).take n), q + n) else none by unfold textL; rw [hu]; simp only [hq])
    have hql : q ≤ l.length := by omega
    have HQ := Lib.hid hq
    clear hq hu k1 k2 k5
    have hn2 : (n : Int) ≤ 4294967295 := by omega
    by_cases c1 : n ≤ most
    · by_cases c2 : q + n ≤ l.length
      · have hi1 : ((n : Int) ≤ (most : Int)) := by omega
        have hi2 : (n : Int) ≤ (l.length : Int) - (q : Int) := by omega
        unfold maxLen at h2
        by_cases hqc : q = cap
        · obtain rfl : n = 0 := by omega
          have hcv := conv_at (bytes_none (w := w) (some ⟨b, off, none⟩) 0 (by decide))
          have hqd : l.length = q := by omega
          rw [hqd] at H1 h1 ⊢
          have HQD := Lib.hid hqd
          clear hqd
          clear hF ho hr hc
          subst hqc
          clear h1 hi2 c2 hql
          go_enter Try.func79, Try.ntmps79
          go_wp2_with (go_at_call 82; refine H1.out.mono ?_; rintro e w' ⟨rfl, rfl⟩)
          go_ret3
          rw [HE.out, if_pos ⟨by omega, by have := HQD.out; omega⟩]
          exact ⟨ret_text (by simp) (by simp), rfl⟩
        · have hcv := conv_at (bytes_cut hb hc (by unfold maxLen; omega) q n c2 h1)
          clear hF ho hr hc
          go_enter Try.func79, Try.ntmps79
          go_wp2_with (go_at_call 82; refine H1.out.mono ?_; rintro e w' ⟨rfl, rfl⟩)
          go_ret3
          rw [HE.out, if_pos ⟨by omega, by omega⟩]
          exact ⟨ret_text rfl (by omega), rfl⟩
      · have hi1 : ((n : Int) ≤ (most : Int)) := by omega
        have hi2 : (l.length : Int) - (q : Int) < (n : Int) := by omega
        clear hF ho hr hc
        go_enter Try.func79, Try.ntmps79
        go_wp2_with (go_at_call 82; refine H1.out.mono ?_; rintro e w' ⟨rfl, rfl⟩)
        go_ret3
        rw [HE.out, if_neg (fun h => c2 h.2)]
        exact ⟨rfl, rfl⟩
    · have hi1 : (most : Int) < (n : Int) := by omega
      clear hF ho hr hc
      go_enter Try.func79, Try.ntmps79
      go_wp2_with (go_at_call 82; refine H1.out.mono ?_; rintro e w' ⟨rfl, rfl⟩)
      go_ret3
      rw [HE.out, if_neg (fun h => c1 h.1)]
      exact ⟨rfl, rfl⟩
end
end Go.Proofs.Ytgemnmceflcpcaa
namespace Go.Proofs.Ytgemnmceflcpcaa
open Go Go.RowKit Go.Lib Go.Proofs.Ytgemnmceflcpcaa.Sy Pl
set_option linter.unusedVariables false
set_option linter.unusedSimpArgs false
@[reducible] def rcells (v : Value) (p b : Int) : Array Value := #[v, .int .i64 p, .int .i64 b]
/-- A reader of the bytes l, at r. -/
structure RdAt (w : World) (g : Nat) (v : Value) (l : List Int) (r : Rd) : Prop where
  blk : Blk w g (rcells v r.pos r.bad) 99
  bytes : BytesAt w v l
  old : l ≠ [] → ∀ b, v.ownBlock = some b → b < g
  oct : Oct l
  len : l.length ≤ 2000000
  pos : r.pos ≤ l.length
theorem Touch.bytes {w w' : World} {v : Value} {l : List Int} {r : List Nat} (h : BytesAt w v l) (T : Touch w w' r) (hn : l ≠ [] → ∀ g, v.ownBlock = some g → g ∉ r) : BytesAt w' v l := RowsAt.touch h T (fun hr => hn (fun e => hr (by rw [e]; rfl)))
theorem RdAt.step {w w' : World} {g : Nat} {v : Value} {l : List Int} {r : Rd} (h : RdAt w g v l r) (b : Below w.heap.size w w') : RdAt w' g v l r := ⟨h.blk.step b, h.bytes.below b, h.old, h.oct, h.len, h.pos⟩
theorem RdAt.touch {w w' : World} {g : Nat} {v : Value} {l : List Int} {r : Rd} {s : List Nat} (h : RdAt w g v l r) (T : Touch w w' s) (hs : ∀ x ∈ s, g < x) : RdAt w' g v l r :=
  ⟨T.blk h.blk (fun hm => Nat.lt_irrefl _ (hs g hm)), Touch.bytes h.bytes T (fun hl b hb hm => by have := h.old hl b hb; have := hs b hm; omega), h.old, h.oct, h.len, h.pos⟩
theorem RdAt.setTo {w w' : World} {g : Nat} {v : Value} {l : List Int} {r r' : Rd} (h : RdAt w g v l r) (hb : Blk w' g (rcells v r'.pos r'.bad) 99) (T : Touch w w' [g]) (hp : r'.pos ≤ l.length) : RdAt w' g v l r' :=
  ⟨hb, Touch.bytes h.bytes T (fun hl b hb => by have := h.old hl b hb; simp only [List.mem_singleton]; omega), h.old, h.oct, h.len, hp⟩
/-- What 'took' comes to. -/
def tookS (r : Rd) (next : Int) (ok : Bool) : Rd := if r.ok = true then (if ok = true then ⟨next.toNat, true⟩ else ⟨r.pos, false⟩) else r
/-- A step of the reader: the answer, the reader behind it; nothing else of what was there has changed. -/
def RdP (g : Nat) (v : Value) (l : List Int) (w : World) (r' : Rd) (a : Value) (e : Ending) (w' : World) : Prop := e = .returned a ∧ RdAt w' g v l r' ∧ Touch w w' [g]
section
variable {w : World} {g : Nat} {v : Value} {l : List Int}
set_option maxHeartbeats 2000000 in
theorem took_any {r : Rd} (hR : RdAt w g v l r) (next : Int) (ok : Bool) (h : ok = true → 0 ≤ next ∧ next ≤ l.length) :
    Calls Try.prog 60 #[.pointer (some ⟨g, 0, none⟩), .int .i64 next, .bool ok] w (RdP g v l w (tookS r next ok) (.bool (r.ok && ok))) := by
  have HR := Lib.hid hR
  have l1 := hR.blk.cell 1
  have l2 := hR.blk.cell 2
  have f1 := hR.blk.frozen 1
  have f2 := hR.blk.frozen 2
  obtain ⟨p, k⟩ := r
  cases k with
  | true =>
    cases ok with
    | true =>
      have h1 := h rfl
      have l2 : w.cell? ⟨g, 2, none⟩ = some (.int .i64 (-1)) := l2
      clear hR h
      go_enter Try.func60, Try.ntmps60
      go_wp2_with fail
      go_ret
      have hb := HR.out.blk.set 1 (.int .i64 next)
      refine ⟨rfl, ?_, (Touch.set w ⟨g, 1, none⟩ _)⟩
      refine HR.out.setTo (r' := tookS ⟨p, true⟩ next true) ?_ (Touch.set w ⟨g, 1, none⟩ _) ?_
      · simp only [tookS, if_true, Rd.bad]; rw [show ((next.toNat : Nat) : Int) = next from by omega]; exact hb
      · simp only [tookS, if_true]; omega
    | false =>
      have l2 : w.cell? ⟨g, 2, none⟩ = some (.int .i64 (-1)) := l2
      have hpp : (0 : Int) ≤ (p : Int) := by omega
      clear hR h
      go_enter Try.func60, Try.ntmps60
      go_wp2_with fail
      go_ret
      have hb := HR.out.blk.set 2 (.int .i64 (p : Int))
      refine ⟨rfl, ?_, (Touch.set w ⟨g, 2, none⟩ _)⟩
      refine HR.out.setTo (r' := tookS ⟨p, true⟩ next false) ?_ (Touch.set w ⟨g, 2, none⟩ _) ?_
      · simp only [tookS, if_true, Rd.bad]; exact hb
      · simp only [tookS, if_true]; exact HR.out.pos
  | false =>
    have l2 : w.cell? ⟨g, 2, none⟩ = some (.int .i64 (p : Int)) := l2
    have hpp : (0 : Int) ≤ (p : Int) := by omega
    clear hR h
    go_enter Try.func60, Try.ntmps60
    go_wp2_with fail
    go_ret
    exact ⟨rfl, by simp only [tookS]; exact HR.out, Touch.refl _ _⟩
end
end Go.Proofs.Ytgemnmceflcpcaa
