/- Chapter 3: batches and records of metadata, in plain Lean. -/
import Derived.Test.YtllpkagplfmlbaaDefs3e
namespace Go.Proofs.Ytllpkagplfmlbaa
open Go Go.Sp

structure Rec where
  key : List UInt8
  value : List UInt8
  time : Int
  deriving DecidableEq
structure Bat where
  base : Int
  epoch : Int
  pid : Int
  pidEpoch : Int
  seq : Int
  recs : List Rec
def Rec.cells (r : Rec) : List Value := [.string (str r.key), .string (str r.value), .int .i64 r.time]
theorem Rec.cells_len (r : Rec) : r.cells.length = 3 := rfl
theorem Rec.cells_ones (r : Rec) : ones r.cells := .of rfl
def Bat.cells (b : Bat) (a : Option Addr) (c : Nat) : List Value := [.int .i64 b.base, .int .i64 b.epoch, .int .i64 b.pid, .int .i64 b.pidEpoch, .int .i64 b.seq, .slice a b.recs.length c]
theorem Bat.cells_ones (b : Bat) (a c) : ones (b.cells a c) := .of rfl
/-- What fits. -/
structure Bat.fits (b : Bat) : Prop where
  base : i64 b.base
  epoch : i64 b.epoch
  pid : i64 b.pid
  pidEpoch : i64 b.pidEpoch
  seq : i64 b.seq
  time : ∀ r ∈ b.recs, i64 r.time
  key : ∀ r ∈ b.recs, r.key.length ≤ 140737488351232
  value : ∀ r ∈ b.recs, r.value.length ≤ 140737488351232
  len : b.recs.length * 40 ≤ 140737488351232

def recBody (r : Rec) : List UInt8 := eint r.time ++ eint (r.key.length : Int) ++ r.key ++ eint (r.value.length : Int) ++ r.value
def body (b : Bat) : List UInt8 := eint b.base ++ eint b.epoch ++ eint b.pid ++ eint b.pidEpoch ++ eint b.seq ++ eint (b.recs.length : Int) ++ b.recs.flatMap recBody
def wth (n m : Int) : Bool := decide (0 ≤ n ∧ n ≤ m)
/-- May it be? -/
def right (b : Bat) : Int :=
  if b.base < 0 ∨ ¬ (0 ≤ b.epoch ∧ b.epoch ≤ 1000000000) ∨ ¬ (0 ≤ b.pid ∧ b.pid ≤ 1000000000) ∨ ¬ (0 ≤ b.pidEpoch ∧ b.pidEpoch ≤ 1000000000) ∨ ¬ (0 ≤ b.seq ∧ b.seq ≤ 1000000000) ∨ (b.pid = 0 ∧ (b.pidEpoch ≠ 0 ∨ b.seq ≠ 0)) ∨ b.recs.length = 0 then 1
  else if ∃ r ∈ b.recs, ¬ (0 ≤ r.time ∧ r.time ≤ 1000000000) then 1
  else if 64 < b.recs.length then 3
  else if ∃ r ∈ b.recs, 1000 < r.key.length ∨ 1000 < r.value.length then 2
  else if 1000000000 - (b.recs.length : Int) + 1 < b.base ∨ 1000000 - (b.recs.length : Int) + 1 < b.seq then 20
  else if 4088 < (body b).length then 2
  else 0
def wbatch (b : Bat) : List UInt8 × Int := if right b = 0 then (fours (body b).length ++ fours (crc (body b)).toNat ++ body b, 0) else ([], right b)
end Go.Proofs.Ytllpkagplfmlbaa
