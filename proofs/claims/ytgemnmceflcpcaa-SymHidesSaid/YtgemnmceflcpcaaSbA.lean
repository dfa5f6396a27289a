/- The document's numbers, texts and words laid behind bytes. -/
import Derived.Test.YtgemnmceflcpcaaSdT
namespace Go.Proofs.Ytgemnmceflcpcaa
open Go Go.RowKit Go.Lib Go.Proofs.Ytgemnmceflcpcaa.Sy
set_option linter.unusedVariables false
set_option linter.unusedSimpArgs false
section
variable {w : World}
/-- One byte laid in a block of its own is news. -/
theorem one_news (W : World) (x : Int) : ∀ j u, ([x].map encB)[j]? = some u → (W.alloc (.cells #[.int .u8 x] 5)).cell? (Addr.add ⟨W.heap.size, 0, none⟩ j) = some u :=
  World.news_of_block (Blk.new W #[.int .u8 x] 5)
/-- Bytes of a slice whose room is none where there is no block. -/
structure InB (w : World) (v : Value) (l : List Int) : Prop where
  bytes : BytesAt w v l
  none : ∀ c, v = .slice none l.length c → c = 0
theorem InB.own {B : Nat} {v : Value} {l : List Int} (h : OwnB w B v l) : InB w v l :=
  ⟨own_bytes h, fun c e => by
    rcases h.2 with ⟨h1, _⟩ | ⟨g, cp, cur, h1, _⟩
    · rw [h1] at e; injection e with e1 e2 e3; exact e3.symm
    · rw [h1] at e; injection e with e1; cases e1⟩
theorem InB.below {w w' : World} {v : Value} {l : List Int} (h : InB w v l) (b : Below w.heap.size w w') : InB w' v l := ⟨h.bytes.below b, h.none⟩
theorem own_one (W : World) {B : Nat} {v : Value} {l : List Int} (h : OwnB W B v l) (o : Obj) : OwnB (W.alloc o) B v l := World.ownsRow.alloc h o
set_option maxHeartbeats 4000000 in
set_option maxRecDepth 100000 in
theorem rputuint_any {v : Value} {l : List Int} (hF : InB w v l) (n : Nat) (hn : n < 4294967296) (hl : l.length ≤ 100000000) :
    Calls Try.prog 78 #[v, .int .u32 n] w (NewB (l ++ grps n) w) := by
  obtain ⟨A, cap, e, hc1, hc2, _⟩ := bytes_form hF.bytes
  subst e
  have HZ := Lib.hid (fun (h : A = none) => hF.none cap (by rw [h]))
  have HF := Lib.hid hF.bytes
  have HG5 := Lib.hid (grps_len5 hn)
  have HN := Lib.hid hn
  have HL := Lib.hid hl
  have HO0 := Lib.hid (show OwnB w w.heap.size (.slice none 0 0) [] from World.ownsRow_nil _ _ _ _)
  clear hn hl hF
  go_enter Try.func78, Try.ntmps78
  go_wp2_with (at_builtin; go_must (refine list_appV rfl _ _ rfl (by rfl) HO0.out (A := A) (m := l.length) (c := cap) (by rfl) HF.out HZ.out ?c1 ?c2 ?_))
  case c1 => have := HL.out; simp; omega
  case c2 => exact Nat.le_refl _
  intro v1 w1 ho1 ht1
  have HO1 := Lib.hid (show OwnB w1 w.heap.size v1 l from ho1)
  have HB1 := Lib.hid (own_touch_below HO0.out (Below.refl _ _) ht1)
  clear ho1 ht1 HO0
  go_wp2_with fail
  go_loopw [1, 5] (fun x u wr => ∃ (m : Nat) (acc : List Int), x = .int .u32 m ∧ m ≤ n ∧ Hid (acc ++ grps m = l ++ grps n) ∧ Hid (OwnB wr w.heap.size u acc) ∧ Hid (Below w.heap.size w wr)) (fun x _ _ => (intOf x).toNat)
  case atStart => exact ⟨n, l, rfl, Nat.le_refl _, Lib.hid rfl, HO1, HB1⟩
  case round =>
    obtain ⟨m, acc, rfl, hm, HA, OWN, HB⟩ := hrel
    clear HO1 HB1
    have HAL := Lib.hid (show acc.length ≤ 100000005 from by have := congrArg List.length HA.out; have h5 := HG5.out; have hl := HL.out; simp only [List.length_append] at this; omega)
    by_cases hlt : m < 128
    · have hlt1 : (m : Int) < 128 := by omega
      have hm256 : (m : Int) % 256 = (m : Int) := by omega
      go_wp2_with (at_builtin; go_must (refine list_appB rfl _ _ rfl [(m : Int)] (by rfl) (own_one wr OWN.out _) (ad := ⟨wr.heap.size, 0, none⟩) (m := 1) (c := 1) (by rfl) rfl (one_news wr (m : Int)) ?c3 ?c4 ?_))
      case c3 => have := HAL.out; omega
      case c4 => have := HB.out.size; simp; omega
      intro v8 w8 ho8 ht8 _
      have HB8 := Lib.hid (own_touch_below (own_one wr OWN.out (.cells #[.int .u8 (m : Int)] 5)) (HB.out.alloc HB.out.size _) ht8)
      have HO8 := Lib.hid ho8
      clear ho8 ht8
      go_wp2_with fail
      go_ret
      refine ⟨v8, rfl, ?_, HB8.out⟩
      rw [← HA.out, grps_lt hlt]
      exact HO8.out
    · have hge : (128 : Int) ≤ (m : Int) := by omega
      have hm9 : m < 4294967296 := by have := HN.out; omega
      have hm256 : ((m : Int) % 128 + 128) % 256 = (m : Int) % 128 + 128 := by omega
      go_wp2_with (at_builtin; go_must (refine list_appB rfl _ _ rfl [(m : Int) % 128 + 128] (by rfl) (own_one wr OWN.out _) (ad := ⟨wr.heap.size, 0, none⟩) (m := 1) (c := 1) (by rfl) rfl (one_news wr ((m : Int) % 128 + 128)) ?c3 ?c4 ?_))
      case c3 => have := HAL.out; omega
      case c4 => have := HB.out.size; simp; omega
      intro v8 w8 ho8 ht8 _
      have HB8 := Lib.hid (own_touch_below (own_one wr OWN.out (.cells #[.int .u8 ((m : Int) % 128 + 128)] 5)) (HB.out.alloc HB.out.size _) ht8)
      have HO8 := Lib.hid ho8
      clear ho8 ht8
      go_wp2_with fail
      go_roundw
      case rel => exact ⟨m / 128, acc ++ [(m : Int) % 128 + 128], by go_num, by omega, Lib.hid (by rw [← HA.out, grps_ge hlt, List.append_assoc]; congr 2), HO8, HB8⟩
      case measure => simp [intOf]; omega
set_option maxHeartbeats 2000000 in
theorem rput_any {v : Value} {l : List Int} (hF : InB w v l) (n : Int) (h0 : 0 ≤ n) (hn : n < 4294967296) (hl : l.length ≤ 100000000) :
    Calls Try.prog 38 #[v, .int .i64 n] w (NewB (l ++ grps n.toNat) w) := by
  obtain ⟨k, rfl⟩ := Int.eq_ofNat_of_zero_le h0
  have H1 := Lib.hid (rputuint_any hF k (by omega) hl)
  have hk : (k : Int) < 4294967296 := hn
  rw [Int.toNat_natCast]
  clear hF hn hl
  go_enter Try.func38, Try.ntmps38
  go_wp2_with (go_at_call 78; refine H1.out.mono ?_; rintro e w1 ⟨v1, rfl, ho1, hb1⟩; have HO1 := Lib.hid ho1; have HB1 := Lib.hid hb1; clear ho1 hb1)
  go_ret
  exact ⟨v1, rfl, HO1.out, HB1.out⟩
set_option maxHeartbeats 2000000 in
set_option maxRecDepth 100000 in
theorem rputtext_any {v : Value} {l : List Int} (hF : InB w v l) (s : ByteArray) (hs : s.size ≤ 1000) (hl : l.length ≤ 100000000) :
    Calls Try.prog 37 #[v, .string s] w (NewB (l ++ txt s) w) := by
  have H1 := Lib.hid (rputuint_any hF s.size (by omega) hl)
  have HL := Lib.hid hl
  have hs1 : (s.size : Int) ≤ 1000 := by omega
  obtain ⟨i0, hi, hz0, hz1, hz2⟩ := info_parts info_u8
  have HI := Lib.hid hi
  have HZ0 := Lib.hid hz0
  have HZ1 := Lib.hid hz1
  have HZ2 := Lib.hid hz2
  have HG5 := Lib.hid (grps_len5 (n := s.size) (by omega))
  clear hi hz0 hz1 hz2 hl hF
  go_enter Try.func37, Try.ntmps37
  go_wp2_with (first
    | (at_builtin; go_must (refine wpList_append_own_string _ rfl _ _ 30 9 rfl w.heap.size 5 i0 Try.underlying30 Try.underlying9 HI.out HZ0.out HZ1.out HZ2.out _ _ _ rfl HO1.out s rfl ?c3 ?c4 ?c5 ?_))
    | (go_at_call 78; refine H1.out.mono ?_; rintro e w1 ⟨v1, rfl, ho1, hb1⟩; have HO1 := Lib.hid ho1; have HB1 := Lib.hid hb1; clear ho1 hb1))
  case c3 => have := HL.out; have := HG5.out; simp only [List.length_append]; unfold maxLen; omega
  case c4 => have := HL.out; have := HG5.out; simp only [List.length_append]; omega
  case c5 => exact HB1.out.size
  intro v' w8 hown8 hgrow8 _
  have OWN8 := Lib.hid (show OwnB w8 w.heap.size v' (l ++ txt s) by
    unfold OwnB txt
    rw [← List.append_assoc, List.length_append, List.length_append, strI_len, List.map_append, List.map_append, strI_enc, List.append_assoc]
    exact hown8)
  have HB8 := Lib.hid (own_touch_below HO1.out HB1.out (Touch.of_grown hgrow8))
  clear hown8 hgrow8
  go_wp2_with fail
  go_ret
  exact ⟨v', rfl, OWN8.out, HB8.out⟩
/-- The first k bytes of a word. -/
def wrdK (n : Int) : Nat → List Int
  | 0 => []
  | k + 1 => n % 256 :: wrdK (n / 256) k
theorem wrdK_four (n : Int) : wrdK n 4 = wrdB n := by
  unfold wrdB
  simp only [wrdK]
  rw [Int.ediv_ediv_of_nonneg (by decide), Int.ediv_ediv_of_nonneg (by decide)]
  rfl
theorem wrdK_len : ∀ (k : Nat) (n : Int), (wrdK n k).length = k
  | 0, _ => rfl
  | k + 1, n => by rw [wrdK, List.length_cons, wrdK_len]
set_option maxHeartbeats 4000000 in
set_option maxRecDepth 100000 in
theorem rword_any (n : Int) (h0 : 0 ≤ n) (hn : n < 4294967296) :
    Calls Try.prog 39 #[.int .u32 n] w (NewB (wrdB n) w) := by
  have HO0 := Lib.hid (show OwnB w w.heap.size (.slice none 0 0) [] from World.ownsRow_nil _ _ _ _)
  have HN := Lib.hid (show 0 ≤ n ∧ n < 4294967296 from ⟨h0, hn⟩)
  clear h0 hn
  go_enter Try.func39, Try.ntmps39
  go_wp2_with fail
  go_loopw [0, 3, 4] (fun x u i wr => ∃ (k : Nat) (m : Int) (acc : List Int), x = .int .u32 m ∧ i = .int .i64 (acc.length : Nat) ∧ (0 ≤ m ∧ m < 4294967296) ∧ Hid (acc.length + k = 4) ∧ Hid (acc ++ wrdK m k = wrdB n) ∧ Hid (OwnB wr w.heap.size u acc) ∧ Hid (Below w.heap.size w wr)) (fun _ _ i _ => 4 - (intOf i).toNat)
  case atStart => exact ⟨4, n, [], rfl, rfl, HN.out, Lib.hid rfl, Lib.hid (wrdK_four n), HO0, Lib.hid (Below.refl _ _)⟩
  case round =>
    obtain ⟨k, m, acc, rfl, rfl, hm, HK, HA, OWN, HB⟩ := hrel
    clear HO0
    cases k with
    | zero =>
      have hk : (acc.length : Int) = 4 := by have := HK.out; omega
      go_wp2_with fail
      go_ret
      exact ⟨_, rfl, by have := HA.out; rw [wrdK, List.append_nil] at this; rw [← this]; exact OWN.out, HB.out⟩
    | succ k =>
      have hk : (acc.length : Int) < 4 := by have := HK.out; omega
      have hm1 := hm.1
      have hm2 := hm.2
      have hm256 : (m : Int) % 256 % 256 = (m : Int) % 256 := by omega
      have HK2 := Lib.hid (show (acc ++ [m % 256]).length + k = 4 by have := HK.out; simp; omega)
      go_wp2_with (at_builtin; go_must (refine list_appB rfl _ _ rfl [m % 256] (by rfl) (own_one wr OWN.out _) (ad := ⟨wr.heap.size, 0, none⟩) (m := 1) (c := 1) (by rfl) rfl (one_news wr (m % 256)) ?c3 ?c4 ?_))
      case c3 => have := HK.out; omega
      case c4 => have := HB.out.size; simp; omega
      intro v8 w8 ho8 ht8 _
      have HB8 := Lib.hid (own_touch_below (own_one wr OWN.out (.cells #[.int .u8 (m % 256)] 5)) (HB.out.alloc HB.out.size _) ht8)
      have HO8 := Lib.hid ho8
      clear ho8 ht8
      go_wp2_with fail
      go_roundw
      case rel => exact ⟨k, m / 256, acc ++ [m % 256], by go_num, by first | go_num | simp, ⟨by omega, by omega⟩, HK2, Lib.hid (by rw [← HA.out, wrdK, List.append_assoc]; rfl), HO8, HB8⟩
      case measure => simp [intOf]; omega
end
end Go.Proofs.Ytgemnmceflcpcaa
