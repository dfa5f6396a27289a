/- Plain facts on sums over bytes. No program in sight. -/
import Derived.Test.YtgemnmceflcpcaaPlain
import Derived.ProofKit
import Derived.OpenShut
import Derived.Laws.CopyOwn
namespace Go.Proofs.Ytgemnmceflcpcaa.Pl
open Go Go.RowKit

/-- A slice of integers that reads as f, index by index. -/
def RdI (k : IntKind) (w : World) (A : Option Addr) (n : Nat) (f : Nat → Int) : Prop :=
  0 < n → ∃ b off, A = some ⟨b, off, none⟩ ∧ b < w.heap.size ∧ ∀ i, i < n → w.cell? ⟨b, off + i, none⟩ = some (.int k (f i))

theorem RdI.below {k : IntKind} {w w' : World} {A : Option Addr} {n : Nat} {f : Nat → Int} (h : RdI k w A n f) (hb : Below w.heap.size w w') : RdI k w' A n f := fun hn => by
  obtain ⟨b, off, hA, hlt, hc⟩ := h hn
  exact ⟨b, off, hA, Nat.lt_of_lt_of_le hlt hb.size, fun i hi => (hb.cell (p := ⟨b, off + i, none⟩) hlt).trans (hc i hi)⟩
theorem cell_lt {w : World} {p : Addr} {v : Value} (h : w.cell? p = some v) : p.block < w.heap.size := by
  rcases Nat.lt_or_ge p.block w.heap.size with g | g
  · exact g
  · exfalso
    unfold World.cell? at h
    rw [Array.getElem?_eq_none g] at h
    simp at h
theorem RdI.of_row {k : IntKind} {w : World} {A : Option Addr} {n cap : Nat} {zs : List Int}
    (h : (A = none ∧ n = 0 ∧ cap = 0 ∧ zs = []) ∨ ∃ x, A = some x ∧ n ≤ cap ∧ cap ≤ maxLen ∧ zs.length = cap ∧ (∀ i, i < zs.length → w.cell? (x.add i) = some (.int k (zs.getD i 0))) ∧ ∀ n ∈ zs, (Lit.int k n).wf = true) :
    RdI k w A n (fun i => zs.getD i 0) ∧ n ≤ 9223372036854775807 ∧ ((Lit.int k 0).wf = true → ∀ i, (Lit.int k (zs.getD i 0)).wf = true) := by
  rcases h with ⟨rfl, rfl, rfl, rfl⟩ | ⟨x, rfl, hl, hm, hz, hc, hw⟩
  · exact ⟨fun h => absurd h (by omega), by omega, fun h i => by simpa using h⟩
  · refine ⟨fun hn => ?_, by unfold maxLen at hm; omega, fun h0 i => ?_⟩
    · obtain ⟨b, off, spot⟩ := x
      have h0 := hc 0 (by omega)
      have hs : spot = none := by simpa [Addr.add] using World.cell?_spot h0
      subst hs
      have hlt := cell_lt h0
      refine ⟨b, off, rfl, by simpa [Addr.add] using hlt, fun i hi => ?_⟩
      have := hc i (by omega)
      by_cases hi0 : i = 0
      · subst hi0; simpa [Addr.add] using this
      · simpa [Addr.add, hi0] using this
    · rcases Nat.lt_or_ge i zs.length with g | g
      · rw [List.getD_eq_getElem?_getD, List.getElem?_eq_getElem g]; exact hw _ (List.getElem_mem g)
      · rw [List.getD_eq_getElem?_getD, List.getElem?_eq_none g]; exact h0

def sumK (f : Nat → Int) : Nat → Int
  | 0 => 2166136261
  | k + 1 => bits .xor .u32 (sumK f k) (f k) * 16777619 % 4294967296
theorem sumK_bd (f : Nat → Int) (k : Nat) : 0 ≤ sumK f k ∧ sumK f k < 4294967296 := by
  cases k with
  | zero => unfold sumK; omega
  | succ k => unfold sumK; omega
theorem xor_bd (x y : Int) (hx : 0 ≤ x) (hx' : x < 4294967296) (hy : 0 ≤ y) (hy' : y < 4294967296) : 0 ≤ bits .xor .u32 x y ∧ bits .xor .u32 x y < 4294967296 := by
  rw [u32_xor _ _ hx hx' hy hy']
  have := xor_lt x.toNat y.toNat (by omega) (by omega)
  omega
theorem xor_low (x y : Int) (hx : 0 ≤ x) (hx' : x < 4294967296) (hy : 0 ≤ y) (hy' : y ≤ 255) : x / 256 * 256 + bits .xor .u64 (x % 256) y = bits .xor .u32 x y := by
  rw [u32_xor _ _ hx hx' hy (by omega), u64_xor _ _ (by omega) (by omega) hy (by omega)]
  obtain ⟨x, rfl⟩ := Int.eq_ofNat_of_zero_le hx
  obtain ⟨y, rfl⟩ := Int.eq_ofNat_of_zero_le hy
  have e : ((x : Int) % 256).toNat = x % 256 := by omega
  rw [e]
  simp only [Int.toNat_natCast]
  have h1 : (x ^^^ y) / 2 ^ 8 = x / 2 ^ 8 ^^^ y / 2 ^ 8 := Nat.xor_div_two_pow
  have h2 : (x ^^^ y) % 2 ^ 8 = x % 2 ^ 8 ^^^ y % 2 ^ 8 := Nat.xor_mod_two_pow
  have h3 : y / 2 ^ 8 = 0 := by omega
  have h4 : y % 2 ^ 8 = y := by omega
  rw [h3, Nat.xor_zero] at h1
  rw [h4] at h2
  have h5 : (2 : Nat) ^ 8 = 256 := rfl
  rw [h5] at h1 h2
  rw [← h2]
  omega

theorem or_join (x y : Int) (i : Nat) (hx : 0 ≤ x) (hx' : x < 4294967296) (hxi : x < 2 ^ i) (hy : 0 ≤ y) (hy' : y < 4294967296) (hyi : y % 2 ^ i = 0) : bits .or .u32 x y = x + y := by
  rw [u32_or _ _ hx hx' hy hy']
  obtain ⟨x, rfl⟩ := Int.eq_ofNat_of_zero_le hx
  obtain ⟨y, rfl⟩ := Int.eq_ofNat_of_zero_le hy
  simp only [Int.toNat_natCast]
  have h1 : y % 2 ^ i = 0 := by exact_mod_cast hyi
  have h2 : x < 2 ^ i := by exact_mod_cast hxi
  rw [Nat.or_comm, nat_join i y x h1 h2]
  omega
theorem whole4 (x0 x1 x2 x3 : Int) (h0 : 0 ≤ x0 ∧ x0 ≤ 255) (h1 : 0 ≤ x1 ∧ x1 ≤ 255) (h2 : 0 ≤ x2 ∧ x2 ≤ 255) (h3 : 0 ≤ x3 ∧ x3 ≤ 255) :
    bits .or .u32 (bits .or .u32 (bits .or .u32 (bits .or .u32 0 x0) (x1 * 256)) (x2 * 65536)) (x3 * 16777216) = x0 + x1 * 256 + x2 * 65536 + x3 * 16777216 := by
  rw [or_join 0 x0 0 (by omega) (by omega) (by simp) (by omega) (by omega) (by simp), or_join (0 + x0) (x1 * 256) 8 (by omega) (by omega) (by simp; omega) (by omega) (by omega) (by simp),
    or_join (0 + x0 + x1 * 256) (x2 * 65536) 16 (by omega) (by omega) (by simp; omega) (by omega) (by omega) (by simp),
    or_join (0 + x0 + x1 * 256 + x2 * 65536) (x3 * 16777216) 24 (by omega) (by omega) (by simp; omega) (by omega) (by omega) (by simp)]
  omega
/-- The word at a place of bytes. -/
def getV (f : Nat → Int) (k : Nat) : Int := f k + f (k + 1) * 256 + f (k + 2) * 65536 + f (k + 3) * 16777216
def getOk (n : Nat) (i : Int) : Bool := decide (0 ≤ i) && decide (i + 4 ≤ n)
def getR (n : Nat) (f : Nat → Int) (i : Int) : Int := if getOk n i then getV f i.toNat else 0
theorem getOk_yes {n : Nat} {i : Int} (h : 0 ≤ i) (h' : i + 4 ≤ n) : getOk n i = true := by unfold getOk; simp [h, h']
theorem getOk_no {n : Nat} {i : Int} (h : i < 0 ∨ (n : Int) < i + 4) : getOk n i = false := by
  unfold getOk
  rcases h with h | h
  · rw [decide_eq_false (by omega)]; rfl
  · rw [decide_eq_false (p := i + 4 ≤ n) (by omega), Bool.and_false]
theorem getV_bd (f : Nat → Int) (k : Nat) (hf : ∀ i, 0 ≤ f i ∧ f i ≤ 255) : 0 ≤ getV f k ∧ getV f k < 4294967296 := by
  have h0 := hf k; have h1 := hf (k + 1); have h2 := hf (k + 2); have h3 := hf (k + 3)
  unfold getV; omega

/-! A block of the call's own that reads as L, index by index. -/
def OwnI (k : IntKind) (w : World) (g N : Nat) (t : TypeId) (L : Nat → Int) : Prop :=
  ∃ cs : Array Value, w.heap[g]? = some (.cells cs t (0, 0)) ∧ cs.size = N ∧ ∀ i, i < N → cs[i]? = some (.int k (L i))
theorem OwnI.lt {k : IntKind} {w : World} {g N : Nat} {t : TypeId} {L : Nat → Int} (h : OwnI k w g N t L) : g < w.heap.size := by
  obtain ⟨cs, h1, _⟩ := h
  rcases Nat.lt_or_ge g w.heap.size with hl | hl
  · exact hl
  · rw [Array.getElem?_eq_none hl] at h1; cases h1
theorem OwnI.cell {k : IntKind} {w : World} {g N : Nat} {t : TypeId} {L : Nat → Int} (h : OwnI k w g N t L) {i : Nat} (hi : i < N) : w.cell? ⟨g, i, none⟩ = some (.int k (L i)) := by
  obtain ⟨cs, h1, _, h3⟩ := h
  rw [cell_of_row w g i cs t (0, 0) h1]; exact h3 i hi
theorem OwnI.frozen {k : IntKind} {w : World} {g N : Nat} {t : TypeId} {L : Nat → Int} (h : OwnI k w g N t L) (i : Nat) : w.frozen? ⟨g, i, none⟩ = false := by
  obtain ⟨cs, h1, _, _⟩ := h
  exact frozen_of_row w g i cs t h1
theorem OwnI.rd {k : IntKind} {w : World} {g N : Nat} {t : TypeId} {L : Nat → Int} (h : OwnI k w g N t L) {n : Nat} (hn : n ≤ N) : RdI k w (some ⟨g, 0, none⟩) n L :=
  fun _ => ⟨g, 0, rfl, h.lt, fun i hi => by rw [Nat.zero_add]; exact h.cell (by omega)⟩
theorem OwnI.below {k : IntKind} {w w' : World} {B g N : Nat} {t : TypeId} {L : Nat → Int} (h : OwnI k w g N t L) (hb : Below B w w') (hg : g < B) : OwnI k w' g N t L := by
  obtain ⟨cs, h1, h2, h3⟩ := h
  exact ⟨cs, by rw [hb.block g hg]; exact h1, h2, h3⟩
theorem OwnI.set {k : IntKind} {w : World} {g N : Nat} {t : TypeId} {L : Nat → Int} (h : OwnI k w g N t L) (j : Nat) (x : Int) :
    OwnI k (w.setCell ⟨g, j, none⟩ (.int k x)) g N t (fun i => if i = j then x else L i) := by
  obtain ⟨cs, h1, h2, h3⟩ := h
  refine ⟨cs.setIfInBounds j (.int k x), ?_, by simpa using h2, fun i hi => ?_⟩
  · simp [World.setCell, Array.getElem?_modify, h1]
  · by_cases hij : i = j
    · subst hij; rw [Array.getElem?_setIfInBounds_self_of_lt (by omega)]; simp
    · rw [Array.getElem?_setIfInBounds_ne (fun e => hij e.symm), h3 i hi]; simp [hij]
theorem OwnI.congr {k : IntKind} {w : World} {g N : Nat} {t : TypeId} {L L' : Nat → Int} (h : OwnI k w g N t L) (hl : ∀ i, i < N → L i = L' i) : OwnI k w g N t L' := by
  obtain ⟨cs, h1, h2, h3⟩ := h
  exact ⟨cs, h1, h2, fun i hi => by rw [h3 i hi, hl i hi]⟩
/-- A word's byte. -/
def wbyte (x : Int) : Nat → Int
  | 0 => x % 256
  | 1 => x / 256 % 256
  | 2 => x / 65536 % 256
  | _ => x / 16777216 % 256
theorem wbyte_bd (x : Int) (j : Nat) : 0 ≤ wbyte x j ∧ wbyte x j ≤ 255 := by unfold wbyte; split <;> omega
/-- Four bytes are laid. -/
def put4 (w : World) (g i : Nat) (x : Int) : World :=
  (((w.setCell ⟨g, i, none⟩ (.int .u8 (x % 256))).setCell ⟨g, i + 1, none⟩ (.int .u8 (x / 256 % 256))).setCell ⟨g, i + 2, none⟩ (.int .u8 (x / 65536 % 256))).setCell ⟨g, i + 3, none⟩ (.int .u8 (x / 16777216))
def laid4 (L : Nat → Int) (i : Nat) (x : Int) (j : Nat) : Int := if i ≤ j ∧ j < i + 4 then wbyte x (j - i) else L j
theorem put4_own {w : World} {g N : Nat} {t : TypeId} {L : Nat → Int} (h : OwnI .u8 w g N t L) (i : Nat) (x : Int) (hx : 0 ≤ x) (hx' : x < 4294967296) : OwnI .u8 (put4 w g i x) g N t (laid4 L i x) := by
  refine ((((h.set i (x % 256)).set (i + 1) (x / 256 % 256)).set (i + 2) (x / 65536 % 256)).set (i + 3) (x / 16777216)).congr fun j _ => ?_
  unfold laid4
  by_cases h0 : j = i
  · subst h0; rw [if_neg (by omega), if_neg (by omega), if_neg (by omega), if_pos rfl, if_pos (by omega), Nat.sub_self]; rfl
  · by_cases h1 : j = i + 1
    · subst h1; rw [if_neg (by omega), if_neg (by omega), if_pos rfl, if_pos (by omega), show i + 1 - i = 1 from by omega]; rfl
    · by_cases h2 : j = i + 2
      · subst h2; rw [if_neg (by omega), if_pos rfl, if_pos (by omega), show i + 2 - i = 2 from by omega]; rfl
      · by_cases h3 : j = i + 3
        · subst h3; rw [if_pos rfl, if_pos (by omega), show i + 3 - i = 3 from by omega]; unfold wbyte; simp; omega
        · rw [if_neg h3, if_neg h2, if_neg h1, if_neg h0, if_neg (by omega)]
theorem put4_below {w : World} {B g : Nat} (hB : B ≤ g) (i : Nat) (x : Int) : Below B w (put4 w g i x) :=
  ((((Below.refl B w).setCell (p := ⟨g, i, none⟩) hB _).setCell (p := ⟨g, i + 1, none⟩) hB _).setCell (p := ⟨g, i + 2, none⟩) hB _).setCell (p := ⟨g, i + 3, none⟩) hB _
theorem put4_size (w : World) (g i : Nat) (x : Int) : (put4 w g i x).heap.size = w.heap.size := by simp [put4, World.setCell]

theorem made_u8 (N i : Nat) (hi : i < N) : (madeCells (Value.int .u8 0).cells (N * 1))[i]? = some (.int .u8 0) := by
  have h1 : i < (madeCells (Value.int .u8 0).cells (N * 1)).size := by rw [size_madeCells]; omega
  rw [Array.getElem?_eq_getElem h1]
  simp [madeCells, Value.cells, Nat.mod_one]
theorem made_own {w : World} {base g N : Nat} {e : TypeId} {xs : List Value} (h : w.ownsRow base e 1 (.slice (some ⟨g, 0, none⟩) N N) N xs) : w.heap[g]? = some (.cells xs.toArray e (0, 0)) := by
  obtain ⟨hl, hh⟩ := h
  rcases hh with ⟨h1, _⟩ | ⟨g', cap, cur, h1, _, h2, _, _, h5, h6⟩
  · cases h1
  · injection h1 with h1 h7 h8
    injection h1 with h1
    injection h1 with h1
    subst h1 h8
    rw [h2]
    have : cur.toList = xs := by
      rw [← h6, List.take_of_length_le]
      simp; omega
    rw [← this]
/-- Bytes, and as many noughts behind them. -/
def padded (f : Nat → Int) (n : Nat) (i : Nat) : Int := if i < n then f i else 0
theorem splice_padded {w : World} {g n m : Nat} {t : TypeId} {cur : List Value} {f : Nat → Int} (h : w.heap[g]? = some (.cells (splice cur 0 ((List.range n).map fun i => Value.int .u8 (f i))).toArray t (0, 0)))
    (hl : cur.length = n + m) (hz : ∀ i, i < n + m → cur[i]? = some (.int .u8 0)) : OwnI .u8 w g (n + m) t (padded f n) := by
  refine ⟨_, h, ?_, fun i hi => ?_⟩
  · rw [List.size_toArray, length_splice _ _ _ (by simp; omega)]; exact hl
  · rw [List.getElem?_toArray]
    unfold splice padded
    simp only [List.take_zero, List.nil_append, List.length_map, List.length_range, Nat.zero_add]
    by_cases hin : i < n
    · rw [if_pos hin, List.getElem?_append_left (by simpa using hin)]
      simp [hin]
    · rw [if_neg hin, List.getElem?_append_right (by simp; omega)]
      simp only [List.length_map, List.length_range, List.getElem?_drop]
      rw [show n + (i - n) = i from by omega]
      exact hz i hi

/-! Digits. -/
def isDig (c : UInt8) : Bool := decide (48 ≤ (c.toNat : Int) ∧ (c.toNat : Int) ≤ 57) || decide (65 ≤ (c.toNat : Int) ∧ (c.toNat : Int) ≤ 70)
def digV (c : UInt8) : Int := if (c.toNat : Int) ≤ 57 then (c.toNat : Int) - 48 else (c.toNat : Int) - 55
def valL (l : List UInt8) : Int := l.foldl (fun v c => v * 16 + digV c) 0
def goodS (s : ByteArray) : Bool := decide (1 ≤ s.size) && decide (s.size ≤ 8) && s.data.toList.all isDig
def unV (s : ByteArray) : Int := if goodS s then valL s.data.toList else 0
def unE (s : ByteArray) : Int := if goodS s then 0 else 10
theorem take_snoc (s : ByteArray) (k : Nat) (h : k < s.size) : s.data.toList.take (k + 1) = s.data.toList.take k ++ [s[k]] := by
  rw [List.take_succ_eq_append_getElem (by simpa using h)]; rfl
theorem valL_snoc (l : List UInt8) (c : UInt8) : valL (l ++ [c]) = valL l * 16 + digV c := by simp [valL, List.foldl_append]
theorem digV_bd {c : UInt8} (h : isDig c = true) : 0 ≤ digV c ∧ digV c ≤ 15 := by
  unfold isDig at h; unfold digV
  simp only [Bool.or_eq_true, decide_eq_true_eq] at h
  split <;> omega
theorem foldl_bd : ∀ (l : List UInt8) (v : Int), 0 ≤ v → l.all isDig = true → 0 ≤ l.foldl (fun v c => v * 16 + digV c) v ∧ l.foldl (fun v c => v * 16 + digV c) v < (v + 1) * 16 ^ l.length
  | [], v, h, _ => by simp; omega
  | c :: l, v, h, ha => by
    simp only [List.all_cons, Bool.and_eq_true] at ha
    have hd := digV_bd ha.1
    have ih := foldl_bd l (v * 16 + digV c) (by omega) ha.2
    rw [List.foldl_cons, List.length_cons, Int.pow_succ]
    refine ⟨ih.1, Int.lt_of_lt_of_le ih.2 ?_⟩
    have hp : (0 : Int) ≤ 16 ^ l.length := Int.le_of_lt (Int.pow_pos (by decide))
    have : (v * 16 + digV c + 1) * 16 ^ l.length ≤ ((v + 1) * 16) * 16 ^ l.length := Int.mul_le_mul_of_nonneg_right (by omega) hp
    rw [Int.mul_assoc, Int.mul_comm 16 (16 ^ l.length)] at this
    exact this
theorem valL_bd {l : List UInt8} (ha : l.all isDig = true) (hl : l.length ≤ 8) : 0 ≤ valL l ∧ valL l < 4294967296 := by
  have h := foldl_bd l 0 (by omega) ha
  refine ⟨h.1, Int.lt_of_lt_of_le h.2 ?_⟩
  rw [Int.zero_add, Int.one_mul]
  have h8 : l.length = 0 ∨ l.length = 1 ∨ l.length = 2 ∨ l.length = 3 ∨ l.length = 4 ∨ l.length = 5 ∨ l.length = 6 ∨ l.length = 7 ∨ l.length = 8 := by omega
  rcases h8 with e | e | e | e | e | e | e | e | e <;> rw [e] <;> decide
theorem un_step (v d : Int) (hd : 0 ≤ d) (hd' : d ≤ 15) : bits .or .u32 (v % 4294967296 * 16 % 4294967296) d = (v * 16 + d) % 4294967296 := by
  have h := or_join d (v % 4294967296 * 16 % 4294967296) 4 hd (by omega) (by simp; omega) (by omega) (by omega) (by simp)
  rw [u32_or _ _ (by omega) (by omega) hd (by omega), Nat.or_comm, ← u32_or _ _ hd (by omega) (by omega) (by omega), h]
  omega
theorem bad_at {s : ByteArray} {k : Nat} (hk : k < s.size) (h : isDig s[k] = false) : goodS s = false := by
  unfold goodS
  have : s.data.toList.all isDig = false := by
    rw [List.all_eq_false]
    exact ⟨s[k], by have := List.getElem_mem (l := s.data.toList) (n := k) (by simpa using hk); exact this, by simp [h]⟩
  rw [this, Bool.and_false]
theorem notDig {c : UInt8} (h1 : ¬ (48 ≤ (c.toNat : Int) ∧ (c.toNat : Int) ≤ 57)) (h2 : ¬ (65 ≤ (c.toNat : Int) ∧ (c.toNat : Int) ≤ 70)) : isDig c = false := by
  unfold isDig; rw [decide_eq_false h1, decide_eq_false h2]; rfl
theorem un_bad {s : ByteArray} (h : goodS s = false) : unV s = 0 ∧ unE s = 10 := by unfold unV unE; rw [h]; exact ⟨rfl, rfl⟩
theorem bad_len {s : ByteArray} (h : s.size = 0 ∨ 8 < s.size) : goodS s = false := by
  unfold goodS
  rcases h with h | h
  · rw [decide_eq_false (by omega : ¬ 1 ≤ s.size)]; rfl
  · rw [decide_eq_false (by omega : ¬ s.size ≤ 8), Bool.and_false]; rfl
theorem un_good {s : ByteArray} (h1 : 1 ≤ s.size) (h2 : s.size ≤ 8) (ha : s.data.toList.all isDig = true) : unV s = valL s.data.toList % 4294967296 ∧ unE s = 0 := by
  have hg : goodS s = true := by unfold goodS; rw [decide_eq_true h1, decide_eq_true h2, ha]; rfl
  have hb := valL_bd ha (by simpa using h2)
  unfold unV unE; rw [hg]
  refine ⟨?_, rfl⟩
  rw [if_pos rfl]; omega
theorem take_all {s : ByteArray} {k : Nat} (hk : s.size ≤ k) : s.data.toList.take k = s.data.toList := List.take_of_length_le (by simpa using hk)
theorem dig_yes {c : UInt8} (h : (48 ≤ (c.toNat : Int) ∧ (c.toNat : Int) ≤ 57) ∨ (65 ≤ (c.toNat : Int) ∧ (c.toNat : Int) ≤ 70)) : isDig c = true := by
  unfold isDig
  rcases h with h | h
  · rw [decide_eq_true h]; rfl
  · rw [decide_eq_true h, Bool.or_true]
theorem all_snoc {s : ByteArray} {k : Nat} (h : k < s.size) (ha : (s.data.toList.take k).all isDig = true) (hd : isDig s[k] = true) : (s.data.toList.take (k + 1)).all isDig = true := by
  rw [take_snoc s k h, List.all_append, ha]; simp [hd]
theorem val_snoc (s : ByteArray) (k : Nat) (h : k < s.size) : valL (s.data.toList.take (k + 1)) = valL (s.data.toList.take k) * 16 + digV s[k] := by rw [take_snoc s k h, valL_snoc]
theorem toList_nil {s : ByteArray} : s.toList = [] ↔ s.size = 0 := by
  rw [ByteArray.toList_eq]
  constructor
  · intro h; have := congrArg List.length h; simpa using this
  · intro h; exact List.eq_nil_of_length_eq_zero (by simpa using h)

/-! The eight digits. -/
def nib (x : Int) : Nat → Int
  | 0 => x / 268435456 % 16
  | 1 => x / 16777216 % 16
  | 2 => x / 1048576 % 16
  | 3 => x / 65536 % 16
  | 4 => x / 4096 % 16
  | 5 => x / 256 % 16
  | 6 => x / 16 % 16
  | _ => x % 16
def hexd (d : Int) : Int := if d < 10 then 48 + d else 55 + d
theorem nib_bd (x : Int) (k : Nat) : 0 ≤ nib x k ∧ nib x k < 16 := by unfold nib; split <;> omega
theorem OwnI.new (w : World) (k : IntKind) (cs : Array Value) (t : TypeId) (L : Nat → Int) (h : ∀ i, i < cs.size → cs[i]? = some (.int k (L i))) : OwnI k (w.alloc (.cells cs t)) w.heap.size cs.size t L :=
  ⟨cs, heap_alloc_new w _, rfl, h⟩
theorem and15 (x : Int) (h : 0 ≤ x) (h' : x < 4294967296) : bits .and .u32 x 15 = x % 16 := by
  rw [u32_and _ _ h h' (by omega) (by omega)]
  have : (15 : Int).toNat = 15 := rfl
  rw [this, nat_mask4]; omega
theorem shr_nib (x : Int) (hx : 0 ≤ x) (hx' : x < 4294967296) (k : Nat) (hk : k < 8) : bits .and .u32 (x / 2 ^ (28 - 4 * (k : Int)).toNat) 15 = nib x k := by
  have h8 : k = 0 ∨ k = 1 ∨ k = 2 ∨ k = 3 ∨ k = 4 ∨ k = 5 ∨ k = 6 ∨ k = 7 := by omega
  rcases h8 with rfl | rfl | rfl | rfl | rfl | rfl | rfl | rfl
  · have : (2 : Int) ^ (28 - 4 * ((0 : Nat) : Int)).toNat = 268435456 := by decide
    rw [this, and15 _ (by omega) (by omega)]; rfl
  · have : (2 : Int) ^ (28 - 4 * ((1 : Nat) : Int)).toNat = 16777216 := by decide
    rw [this, and15 _ (by omega) (by omega)]; rfl
  · have : (2 : Int) ^ (28 - 4 * ((2 : Nat) : Int)).toNat = 1048576 := by decide
    rw [this, and15 _ (by omega) (by omega)]; rfl
  · have : (2 : Int) ^ (28 - 4 * ((3 : Nat) : Int)).toNat = 65536 := by decide
    rw [this, and15 _ (by omega) (by omega)]; rfl
  · have : (2 : Int) ^ (28 - 4 * ((4 : Nat) : Int)).toNat = 4096 := by decide
    rw [this, and15 _ (by omega) (by omega)]; rfl
  · have : (2 : Int) ^ (28 - 4 * ((5 : Nat) : Int)).toNat = 256 := by decide
    rw [this, and15 _ (by omega) (by omega)]; rfl
  · have : (2 : Int) ^ (28 - 4 * ((6 : Nat) : Int)).toNat = 16 := by decide
    rw [this, and15 _ (by omega) (by omega)]; rfl
  · have : (2 : Int) ^ (28 - 4 * ((7 : Nat) : Int)).toNat = 1 := by decide
    rw [this, and15 _ (by omega) (by omega), Int.ediv_one]; rfl
def hexN (x : Int) (k : Nat) : List Int := (List.range k).map fun i => hexd (nib x i)
def hexS (x : Int) : ByteArray := strOfNums (hexN x 8)
theorem shr_nib' (x : Int) (hx : 0 ≤ x) (hx' : x < 4294967296) (k : Nat) (hk : k < 8) : bits .and .u32 (x / 2 ^ (28 - 4 * k)) 15 = nib x k := by
  rw [← shr_nib x hx hx' k hk, show (28 - 4 * (k : Int)).toNat = 28 - 4 * k from by omega]
theorem dig_get (d : Int) (h0 : 0 ≤ d) (h1 : d < 16) (h : d.toNat < (⟨#[48, 49, 50, 51, 52, 53, 54, 55, 56, 57, 65, 66, 67, 68, 69, 70]⟩ : ByteArray).size) :
    (((⟨#[48, 49, 50, 51, 52, 53, 54, 55, 56, 57, 65, 66, 67, 68, 69, 70]⟩ : ByteArray)[d.toNat]'h).toNat : Int) = hexd d := by
  have h8 : d = 0 ∨ d = 1 ∨ d = 2 ∨ d = 3 ∨ d = 4 ∨ d = 5 ∨ d = 6 ∨ d = 7 ∨ d = 8 ∨ d = 9 ∨ d = 10 ∨ d = 11 ∨ d = 12 ∨ d = 13 ∨ d = 14 ∨ d = 15 := by omega
  rcases h8 with rfl | rfl | rfl | rfl | rfl | rfl | rfl | rfl | rfl | rfl | rfl | rfl | rfl | rfl | rfl | rfl <;> rfl
theorem hexN_get (x : Int) (k i : Nat) (hi : i < k) : (hexN x k).getD i 0 = hexd (nib x i) := by
  unfold hexN; simp [hi]
theorem nib_pow (x : Int) (k : Nat) (h : k < 8) : x / 16 ^ k % 16 = nib x (7 - k) := by
  have h8 : k = 0 ∨ k = 1 ∨ k = 2 ∨ k = 3 ∨ k = 4 ∨ k = 5 ∨ k = 6 ∨ k = 7 := by omega
  rcases h8 with rfl | rfl | rfl | rfl | rfl | rfl | rfl | rfl
  · show x / 1 % 16 = _; rw [Int.ediv_one]; rfl
  all_goals rfl
theorem div_16 (x : Int) (k : Nat) : x / 16 ^ k / 16 = x / 16 ^ (k + 1) := by
  rw [Int.ediv_ediv_of_nonneg (Int.le_of_lt (Int.pow_pos (by decide))), Int.pow_succ]
def hexT (x : Int) (k : Nat) : ByteArray := strOfNums ((List.range k).map fun i => hexd (nib x (8 - k + i)))
theorem hexT_all (x : Int) : hexT x 8 = hexS x := by
  unfold hexT hexS hexN
  simp
theorem hexT_size (x : Int) (k : Nat) : (hexT x k).size = k := by unfold hexT; rw [strOfNums_size]; simp
theorem dig_cut (d : Nat) (h : d < 16) : (⟨#[48, 49, 50, 51, 52, 53, 54, 55, 56, 57, 65, 66, 67, 68, 69, 70]⟩ : ByteArray).extract d (d + 1) = strOfNums [hexd d] := by
  have key : ∀ d : Fin 16, (⟨#[48, 49, 50, 51, 52, 53, 54, 55, 56, 57, 65, 66, 67, 68, 69, 70]⟩ : ByteArray).extract d.val (d.val + 1) = strOfNums [hexd d.val] := by decide +kernel
  exact key ⟨d, h⟩
theorem hexT_succ (x : Int) (k : Nat) (h : k < 8) : strOfNums [hexd (nib x (7 - k))] ++ hexT x k = hexT x (k + 1) := by
  refine WideShapes.bytes_inj ?_
  unfold hexT
  rw [List.range_succ_eq_map]
  simp only [ByteArray.data_append, Array.toList_append, strOfNums_data, List.map_cons, List.map_nil, List.map_map, List.singleton_append]
  rw [show 8 - (k + 1) + 0 = 7 - k from by omega]
  congr 1
  refine List.map_congr_left fun i hi => ?_
  simp only [Function.comp]
  rw [show 8 - (k + 1) + (i + 1) = 8 - k + i from by omega]
end Go.Proofs.Ytgemnmceflcpcaa.Pl
