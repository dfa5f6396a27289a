/- What an access to a bus does: by what the bus says, no memory in sight. -/
import Derived.Test.YtmamocdkmmkkjaaBusA
namespace Go.Proofs.Ytmamocdkmmkkjaa
open Go Go.RowKit Go.Lib Go.Proofs.Ytmamocdkmmkkjaa.Pl
set_option linter.unusedVariables false

def u8Of (x : Int) : UInt8 := UInt8.ofNat (x % 256).toNat
theorem u8Of_toNat (x : Int) : ((u8Of x).toNat : Int) = x % 256 := by
  unfold u8Of
  rw [UInt8.toNat_ofNat']
  omega
def ofBs (l : List UInt8) : ByteArray := ⟨l.toArray⟩
theorem ofBs_cells (l : List UInt8) : strCells (ofBs l) = bcells l := by simp [strCells, ofBs, bcells]
theorem ofBs_size (l : List UInt8) : (ofBs l).size = l.length := by simp [ofBs, ByteArray.size]
/-- A sector's bytes in memory. -/
def memBytes (M : Nat → Int) (a n : Nat) : List UInt8 := (List.range n).map fun i => u8Of (M (a + i))
theorem memBytes_length (M : Nat → Int) (a n : Nat) : (memBytes M a n).length = n := by simp [memBytes]
def byteAt (s : ByteArray) (i : Nat) : Int := (s.data.toList.getD i 0).toNat
theorem byteAt_bd (s : ByteArray) (i : Nat) : 0 ≤ byteAt s i ∧ byteAt s i ≤ 255 := by
  unfold byteAt
  have := (s.data.toList.getD i 0).toNat_lt
  omega
def laidS (M : Nat → Int) (a n : Nat) (s : ByteArray) (i : Nat) : Int := if a ≤ i ∧ i < a + n then byteAt s (i - a) else M i
def setB (M : Nat → Int) (a : Nat) (x : Int) (i : Nat) : Int := if i = a then x else M i

def BS.may (x : BS) : Bool := decide (x.ad % 4 = 0) && decide (x.ad ≤ 1047552) && decide (x.se < x.N)
def BS.fail (x : BS) : BS := { x with fl := 1 }
def BS.cmd (x : BS) (w : Int) : BS :=
  if x.may then
    if w = 1 then { x with fl := 0, M := laidS x.M x.ad.toNat 1024 (x.sec x.se.toNat) }
    else if w = 2 then
      if x.ws.length < 4096 then { x with fl := 0, sec := upd x.sec x.se.toNat (ofBs (memBytes x.M x.ad.toNat 1024)), ws := x.ws ++ [(x.se.toNat, x.sec x.se.toNat)] }
      else x.fail
    else x.fail
  else x.fail
def BS.put (x : BS) (w : Int) : BS := if x.o.length < 65536 then { x with o := x.o ++ [u8Of w] } else x
/-- A device's word, loaded. -/
def BS.load (x : BS) (a : Int) : Int × Int × BS :=
  if a = 4294967232 then (x.tk, 0, x)
  else if a = 4294967236 then (match x.q with | [] => (0, 2, x) | c :: r => (c.toNat, 0, { x with q := r }))
  else if a = 4294967240 then (match x.q with | [] => (2, 0, x) | _ => (3, 0, x))
  else if a = 4294967244 then (x.se, 0, x)
  else if a = 4294967248 then (x.ad, 0, x)
  else if a = 4294967252 then (x.fl, 0, x)
  else if a = 4294967256 then (x.N, 0, x)
  else (0, 1, x)
/-- .. and stored. -/
def BS.store (x : BS) (a w : Int) : Int × Int × BS :=
  if a = 4294967236 then (0, 0, x.put w)
  else if a = 4294967244 then (0, 0, { x with se := w })
  else if a = 4294967248 then (0, 0, { x with ad := w })
  else if a = 4294967252 then (0, 0, x.cmd w)
  else (0, 1, x)
def BS.act (x : BS) (k a w : Int) : Int × Int × BS :=
  if k = 0 then (0, 0, x)
  else if k = 2 ∧ a < 1048576 then (x.M a.toNat, 0, x)
  else if k = 4 ∧ a < 1048576 then (0, 0, { x with M := setB x.M a.toNat (w % 256) })
  else if k = 1 ∧ a < 1048576 then (if a % 4 = 0 then (getV x.M a.toNat, 0, x) else (0, 1, x))
  else if k = 3 ∧ a < 1048576 then (if a % 4 = 0 then (0, 0, { x with M := laid4 x.M a.toNat w }) else (0, 1, x))
  else if k = 1 then x.load a
  else if k = 3 then x.store a w
  else (0, 1, x)
end Go.Proofs.Ytmamocdkmmkkjaa
