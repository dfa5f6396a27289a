/- Bytes as a text; the sum over bytes; Key; one of the document's examples. -/
import Derived.Test.YtgemnmceflcpcaaSyV
import Derived.Test.YtgemnmceflcpcaaPlainC
import Derived.Laws.BytesArg
namespace Go.Proofs.Ytgemnmceflcpcaa
open Go Go.RowKit Go.Lib Go.Proofs.Ytgemnmceflcpcaa.Sy Pl
set_option linter.unusedVariables false
set_option linter.unusedSimpArgs false
attribute [local go_sem ↓] exec_load_const exec_store_const exec_load_var exec_store_var exec_load_proc exec_store_proc exec_load_sym exec_store_sym
/-- Each is a byte. -/
def Oct (l : List Int) : Prop := ∀ b ∈ l, 0 ≤ b ∧ b ≤ 255
theorem Oct.app {a b : List Int} (h : Oct a) (k : Oct b) : Oct (a ++ b) := fun x hx => by
  rcases List.mem_append.1 hx with h1 | h1
  · exact h x h1
  · exact k x h1
theorem oct_str (s : ByteArray) : Oct (strI s) := fun x hx => by
  unfold strI at hx
  obtain ⟨b, _, rfl⟩ := List.mem_map.1 hx
  have := b.toNat_lt; omega
theorem oct_grps : ∀ (n : Nat), Oct (grps n) := fun n => by
  induction n using Nat.strongRecOn with
  | ind n ih =>
    by_cases h : n < 128
    · rw [grps_lt h]; intro x hx; rw [List.mem_singleton.1 hx]; omega
    · rw [grps_ge h]; intro x hx
      rcases List.mem_cons.1 hx with h1 | h1
      · rw [h1]; omega
      · exact ih (n / 128) (by omega) x h1
theorem oct_txt (s : ByteArray) : Oct (txt s) := (oct_grps _).app (oct_str s)
theorem oct_one {n : Int} (h : 0 ≤ n ∧ n ≤ 255) : Oct [n] := fun x hx => by rw [List.mem_singleton.1 hx]; exact h
theorem oct_wrd (n : Int) : Oct (wrdB n) := fun x hx => by
  unfold wrdB at hx
  simp only [List.mem_cons, List.not_mem_nil, or_false] at hx
  rcases hx with rfl | rfl | rfl | rfl <;> omega
theorem oct_flat {α : Type} {f : α → List Int} {l : List α} (h : ∀ x ∈ l, Oct (f x)) : Oct (l.flatMap f) := fun x hx => by
  obtain ⟨y, hy, hz⟩ := List.mem_flatMap.1 hx
  exact h y hy x hz
theorem oct_sym {s : Sm} (h : smOk s) : Oct (symB s) := by
  obtain ⟨_, k1, k2, k3, _, _, kc, kv, kp⟩ := id h
  unfold symB cstsB varsB prsB
  refine ((((((((?_ : Oct [67, 82, 83, 49]).app (oct_txt _)).app (oct_grps _)).app (oct_flat fun c hc => ?_)).app (oct_grps _)).app (oct_flat fun c hc => ?_)).app (oct_grps _)).app (oct_flat fun c hc => ?_))
  · intro x hx; simp only [List.mem_cons, List.not_mem_nil, or_false] at hx; omega
  · unfold cstB
    refine ((oct_txt _).app (oct_one ?_)).app ?_
    · have := (cst_fit (kc c hc)).1; omega
    · split
      · exact oct_txt _
      · exact oct_wrd _
  · unfold varB
    refine (((oct_grps _).app (oct_str _)).app (oct_one ?_)).app (oct_grps _)
    have := (kv c hc).1; unfold plainF at this; omega
  · unfold prB
    refine (((oct_txt _).app (oct_grps _)).app (oct_flat fun q hq => ?_)).app (oct_one ?_)
    · unfold parB howI
      have h1 := ((kp c hc).1 q hq).1
      unfold plainF at h1
      intro x hx; simp only [List.mem_cons, List.not_mem_nil, or_false] at hx
      rcases hx with rfl | rfl
      · omega
      · split <;> split <;> omega
    · have := (kp c hc).2.2; unfold plainF at this; omega
section
variable {w : World}
theorem RowsAt.slice {fv : Value} {sz : Nat} {rows : List (List Value)} (h : RowsAt w fv sz rows) : ∃ A cap, fv = .slice A rows.length cap := by
  obtain ⟨A, cap, h, _⟩ := h; exact ⟨A, cap, h⟩
theorem bytes_form {v : Value} {l : List Int} (h : BytesAt w v l) : ∃ A cap, v = .slice A l.length cap ∧ l.length ≤ cap ∧ cap ≤ maxLen ∧ RdI .u8 w A l.length (fun i => l.getD i 0) := by
  obtain ⟨A, cap, rfl, h1, h2, h3⟩ := list_of h (List.length_map _)
  refine ⟨A, cap, rfl, h1, h2, fun hn => ?_⟩
  rcases h3 with hz | ⟨b, off, rfl, hb, hr⟩
  · omega
  · refine ⟨b, off, rfl, hb, fun i hi => ?_⟩
    have := hr i [encB l[i]] (by rw [List.getElem?_map, List.getElem?_eq_getElem hi]; rfl) 0 (encB l[i]) rfl
    rw [show off + i * 1 + 0 = off + i from by omega] at this
    rw [this]; simp [encB, List.getD, List.getElem?_eq_getElem hi]
theorem conv_at {A : Option Addr} {n cap : Nat} {l : List Int} (h : BytesAt w (.slice A n cap) l) : (convert 30 9 (.slice A n cap)).run Try.prog w = .ok (.string (strOfNums l)) w := by
  obtain ⟨A', cap', e, _, _, hr⟩ := bytes_form h
  cases e
  by_cases h0 : 0 < l.length
  · obtain ⟨b, off, rfl, _, hc⟩ := hr h0
    exact run_convert_bytes_arg (P := Try.prog) w 30 5 Try.underlying30 Try.underlying5 b off l.length _ l rfl hc 9 Try.underlying9
  · obtain rfl : l = [] := List.length_eq_zero_iff.1 (by omega)
    rw [run_convert_bytes_string w 30 9 5 _ _ _ Try.underlying30 Try.underlying5 Try.underlying9]
    cases A <;> simp [Conv.bytesToString, loadCells]
    all_goals rfl
theorem strI_of {l : List Int} (h : Oct l) : strI (strOfNums l) = l := by
  unfold strI strOfNums
  simp only [List.toList_toArray, List.map_map]
  conv => rhs; rw [← List.map_id l]
  refine List.map_congr_left fun x hx => ?_
  have := h x hx
  simp only [Function.comp, id]
  rw [UInt8.toNat_ofNat_of_lt' (by have : UInt8.size = 256 := rfl; omega)]
  omega
theorem size_of {l : List Int} : (strOfNums l).size = l.length := by
  unfold strOfNums; rw [ByteArray.size]; simp
/-- The sum over bytes. -/
def sumL (l : List Int) : Int := sumK (fun i => l.getD i 0) l.length
theorem oct_getD {l : List Int} (h : Oct l) (i : Nat) : 0 ≤ l.getD i 0 ∧ l.getD i 0 ≤ 255 := by
  by_cases hi : i < l.length
  · have := h l[i] (List.getElem_mem hi); simp [List.getD, List.getElem?_eq_getElem hi]; exact this
  · simp [List.getD, List.getElem?_eq_none (by omega : l.length ≤ i)]
theorem sum_fn (A : Option Addr) (n c : Nat) (f : Nat → Int) (hn : n ≤ 9223372036854775807) (hf : ∀ i, 0 ≤ f i ∧ f i ≤ 255) (hr : RdI .u8 w A n f) :
    Calls Try.prog 40 #[.slice A n c] w fun e w' => e = .returned (.int .u32 (sumK f n)) ∧ w = w' := by
  have HR := Lib.hid hr; clear hr
  have HF := Lib.hid hf; clear hf
  go_enter Try.func40, Try.ntmps40
  go_wp2_with fail
  go_loop [3, 8] (fun x i => ∃ k : Nat, k ≤ n ∧ i = .int .i64 k ∧ x = .int .u32 (sumK f k)) (fun _ i => n - (intOf i).toNat)
  case atStart => exact ⟨0, Nat.zero_le _, rfl, rfl⟩
  case round =>
    obtain ⟨k, hk, rfl, rfl⟩ := hrel
    by_cases hlt : k < n
    · obtain ⟨b, off, rfl, _, hc⟩ := HR.out (by omega)
      have hcell := hc k hlt
      clear hc
      have hb := HF.out k
      have hs := sumK_bd f k
      have hx := xor_bd _ _ hs.1 hs.2 hb.1 (by omega : f k < 4294967296)
      go_wp2_with fail
      go_round
      case rel => exact ⟨k + 1, by omega, by go_num, rfl⟩
      case measure => simp [intOf]; omega
    · obtain rfl : k = n := by omega
      go_wp2_with fail
      go_ret
      exact ⟨rfl, rfl⟩
theorem rsum_fn (A : Option Addr) (n c : Nat) (f : Nat → Int) (hn : n ≤ 9223372036854775807) (hf : ∀ i, 0 ≤ f i ∧ f i ≤ 255) (hr : RdI .u8 w A n f) :
    Calls Try.prog 41 #[.slice A n c] w fun e w' => e = .returned (.int .u32 (sumK f n)) ∧ w = w' := by
  have HR := Lib.hid hr; clear hr
  have HF := Lib.hid hf; clear hf
  go_enter Try.func41, Try.ntmps41
  go_wp2_with fail
  go_loop [3, 4] (fun x i => ∃ k : Nat, k ≤ n ∧ i = .int .i64 k ∧ x = .int .u64 (sumK f k)) (fun _ i => n - (intOf i).toNat)
  case atStart => exact ⟨0, Nat.zero_le _, rfl, rfl⟩
  case round =>
    obtain ⟨k, hk, rfl, rfl⟩ := hrel
    have hs := sumK_bd f k
    by_cases hlt : k < n
    · obtain ⟨b, off, rfl, _, hc⟩ := HR.out (by omega)
      have hcell := hc k hlt
      clear hc
      have hb := HF.out k
      have hx := xor_bd _ _ hs.1 hs.2 hb.1 (by omega : f k < 4294967296)
      have HS : Hid (sumK f (k + 1) = (sumK f k / 256 * 256 + bits .xor .u64 (sumK f k % 256) (f k)) * 16777619 % 4294967296) := by
        unfold Hid; rw [xor_low _ _ hs.1 hs.2 hb.1 hb.2]; rfl
      have hx2 : 0 ≤ sumK f k / 256 * 256 + bits .xor .u64 (sumK f k % 256) (f k) ∧ sumK f k / 256 * 256 + bits .xor .u64 (sumK f k % 256) (f k) < 4294967296 := by
        rw [xor_low _ _ hs.1 hs.2 hb.1 hb.2]; exact hx
      go_wp2_with fail
      go_round
      case rel => exact ⟨k + 1, by omega, by go_num, by rw [HS.out]⟩
      case measure => simp [intOf]; omega
    · obtain rfl : k = n := by omega
      go_wp2_with fail
      go_ret
      exact ⟨rfl, rfl⟩
theorem sum_any {v : Value} {l : List Int} (h : BytesAt w v l) (ho : Oct l) : Calls Try.prog 40 #[v] w fun e w' => e = .returned (.int .u32 (sumL l)) ∧ w = w' := by
  obtain ⟨A, cap, rfl, h1, h2, hr⟩ := bytes_form h
  unfold maxLen at h2
  exact sum_fn A _ cap _ (by omega) (oct_getD ho) hr
theorem rsum_any {v : Value} {l : List Int} (h : BytesAt w v l) (ho : Oct l) : Calls Try.prog 41 #[v] w fun e w' => e = .returned (.int .u32 (sumL l)) ∧ w = w' := by
  obtain ⟨A, cap, rfl, h1, h2, hr⟩ := bytes_form h
  unfold maxLen at h2
  exact rsum_fn A _ cap _ (by omega) (oct_getD ho) hr
/-- What Key answers. -/
def keyV (q : Bool) (s : Sm) : Value := .tuple #[.int .u32 (if q then sumL (symB s) else 0), .int .i64 (if q then 0 else 130)]
set_option maxHeartbeats 4000000 in
theorem key_any (s : Sm) {cv vv pv : Value} (hS : SmAt w s cv vv pv) {q : Bool} (hc : IsB q (smOk s)) :
    Calls Try.prog 13 #[.agg (scells s cv vv pv)] w fun e w' => e = .returned (keyV q s) ∧ Below w.heap.size w w' := by
  have c1 := hS.c.1.one
  have c2 := hS.v.1.one
  have c3 : pv.oneCell' = true := by obtain ⟨pvs, _, h, _⟩ := hS.p; exact h.one
  have HB0 := Lib.hid ((Below.refl w.heap.size w).alloc (Nat.le_refl _) (.cells (scells s cv vv pv) 26))
  have hl0 := load_blk Try.underlying26 rfl sz_sym (Blk.new w (scells s cv vv pv) 26) rfl
  cases q with
  | false =>
    have H1 := Lib.hid (encode_no (w := w.alloc (.cells (scells s cv vv pv) 26)) s (hS.below HB0.out) (fun h => by cases hc.yes h))
    clear hS hc
    go_enter Try.func13, Try.ntmps13
    go_wp2_with (go_at_call 11; refine H1.out.mono ?_; rintro e w1 ⟨v1, rfl, _, hb1⟩; have HB1 := Lib.hid (HB0.out.trans (hb1.mono HB0.out.size)); clear hb1)
    go_ret2
    exact ⟨rfl, HB1.out⟩
  | true =>
    have hok := hc.iff.1 rfl
    have H1 := Lib.hid (encode_yes (w := w.alloc (.cells (scells s cv vv pv) 26)) s (hS.below HB0.out) hok)
    have HO := Lib.hid (oct_sym hok)
    clear hS hc hok
    go_enter Try.func13, Try.ntmps13
    go_wp2_with (first
      | (go_at_call 40; refine (sum_any HV1.out HO.out).mono ?_; rintro e w2 ⟨rfl, rfl⟩)
      | (go_at_call 11; refine H1.out.mono ?_; rintro e w1 ⟨v1, rfl, ho1, hb1⟩; have HB1 := Lib.hid (HB0.out.trans (hb1.mono HB0.out.size)); have HV1 := Lib.hid (own_bytes ho1); clear hb1 ho1))
    go_ret2
    exact ⟨rfl, HB1.out⟩
def symA : Sm := ⟨⟨#[65]⟩, [], [], []⟩
theorem symA_ok : smOk symA := by
  refine ⟨⟨by decide, by decide, fun i hi => ?_⟩, by decide, by decide, by decide, (fun n h => by cases h), List.nodup_nil, (fun c h => by cases h), (fun c h => by cases h), (fun c h => by cases h)⟩
  have hi : i < 1 := hi
  obtain rfl : i = 0 := by omega
  exact .inl (.inr (by decide))
theorem symA_at : SmAt w symA (.slice none 0 0) (.slice none 0 0) (.slice none 0 0) :=
  ⟨by decide, ⟨RowsAt.nil_ _ _, (fun c h => by cases h)⟩, ⟨RowsAt.nil_ _ _, (fun c h => by cases h)⟩, [], rfl, RowsAt.nil_ _ _, (fun k p pv h => by cases h)⟩
theorem symA_b : symB symA = [67, 82, 83, 49, 1, 65, 0, 0, 0] := by
  unfold symB txt cstsB varsB prsB symA
  simp only [List.length_nil, List.flatMap_nil, List.append_nil]
  rw [grps_lt (by decide), grps_lt (by decide)]
  rfl
set_option maxHeartbeats 4000000 in
theorem shown_any : Calls Try.prog 8 #[] w fun e w' => e = .returned (.bool true) ∧ Below w.heap.size w w' := by
  have H1 : Hid (Calls Try.prog 11 #[.agg #[.string ⟨#[65]⟩, .slice none 0 0, .slice none 0 0, .slice none 0 0]] w (fun e w' => ∃ A cap, e = .returned (.tuple #[.slice A 9 cap, .int .i64 0]) ∧ BytesAt w' (.slice A 9 cap) [67, 82, 83, 49, 1, 65, 0, 0, 0] ∧ Below w.heap.size w w')) := Lib.hid ((encode_yes (w := w) symA symA_at symA_ok).mono (fun e w' ⟨v1, he, ho, hb⟩ => by
    have hf := own_bytes ho
    rw [if_pos rfl, symA_b] at hf
    obtain ⟨A, cap, rfl, _⟩ := bytes_form hf
    exact ⟨A, cap, he, hf, hb⟩))
  go_enter Try.func8, Try.ntmps8
  go_wp2_with (go_at_call 11; refine H1.out.mono ?_; rintro e w1 ⟨A, cap, rfl, hf1, hb1⟩; have HB1 := Lib.hid hb1; have hcv := conv_at hf1; clear hb1 hf1)
  go_ret
  exact ⟨ret_bool (by rw [ByteArray.toList_eq]; rfl), HB1.out⟩
end
end Go.Proofs.Ytgemnmceflcpcaa
