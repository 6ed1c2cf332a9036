/- Chapter 3: checksums, in plain Lean. -/
import Derived.Test.YtllpkagplfmlbaaL13
namespace Go.Proofs.Ytllpkagplfmlbaa
open Go Go.Sp

/-- One bit of a checksum. -/
def crc1 (c : BitVec 32) : BitVec 32 := (c >>> 1) ^^^ (2197175160#32 &&& -(c &&& 1#32))
def crcN : Nat → BitVec 32 → BitVec 32
  | 0, c => c
  | n + 1, c => crcN n (crc1 c)
def crcB (c : BitVec 32) (b : UInt8) : BitVec 32 := crcN 8 (c ^^^ BitVec.ofNat 32 b.toNat)
def crcS (l : List UInt8) : BitVec 32 := l.foldl crcB 4294967295#32
def crc (l : List UInt8) : BitVec 32 := ~~~ crcS l

theorem and_one (c : BitVec 32) : c &&& 1#32 = BitVec.ofNat 32 (c.toNat % 2) := by
  apply BitVec.eq_of_toNat_eq
  rw [BitVec.toNat_and]
  show c.toNat &&& 1 = _
  rw [Nat.and_one_is_mod, BitVec.toNat_ofNat]; omega

/-- The same, as the document reckons it. -/
theorem crc1_odd {c : BitVec 32} (h : c.toNat % 2 = 1) : crc1 c = (c >>> 1) ^^^ 2197175160#32 := by
  unfold crc1; rw [and_one, h]; rfl
theorem crc1_even {c : BitVec 32} (h : c.toNat % 2 = 0) : crc1 c = c >>> 1 := by
  unfold crc1; rw [and_one, h]
  show (c >>> 1) ^^^ (2197175160#32 &&& 0#32) = _
  simp

theorem crcS_snoc (l : List UInt8) (i : Nat) {b : UInt8} (h : l[i]? = some b) : crcS (l.take (i + 1)) = crcB (crcS (l.take i)) b := by
  unfold crcS; rw [List.take_add_one, h, List.foldl_append]; rfl

theorem u8_u32 (b : UInt8) : IntKind.u32.wrap (b.toNat : Int) = ((BitVec.ofNat 32 b.toNat).toNat : Int) := by
  rw [wrap_un rfl]; rfl
end Go.Proofs.Ytllpkagplfmlbaa
