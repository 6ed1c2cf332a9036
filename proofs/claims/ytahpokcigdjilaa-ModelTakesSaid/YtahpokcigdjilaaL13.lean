/- A separation logic over the given machine. Part 13: texts and rows of bytes, as lists of bytes. -/
import Derived.Test.YtahpokcigdjilaaL12
import Derived.Laws.IdiomStrings
import Derived.Laws.BytesArg
namespace Go.Sp
open Go

/-- A text of these bytes. -/
def str (l : List UInt8) : ByteArray := ⟨l.toArray⟩
/-- The cells of these bytes. -/
def bcs (l : List UInt8) : List Value := l.map fun b => .int .u8 (b.toNat : Int)

theorem str_data (s : ByteArray) : str s.data.toList = s := by cases s; simp [str]
theorem str_size (l : List UInt8) : (str l).size = l.length := by simp [str, ByteArray.size]
theorem str_inj {l m : List UInt8} : str l = str m ↔ l = m := by
  constructor
  · intro h
    have := congrArg (fun s : ByteArray => s.data.toList) h
    simpa [str] using this
  · rintro rfl; rfl
theorem str_append (l m : List UInt8) : str l ++ str m = str (l ++ m) := by
  apply ByteArray.ext
  simp [str, ByteArray.data_append]
theorem str_extract (l : List UInt8) (a b : Nat) : (str l).extract a b = str ((l.drop a).take (b - a)) := by
  apply ByteArray.ext
  simp [str, ByteArray.data_extract, List.extract_eq_take_drop]
theorem bcs_len (l : List UInt8) : (bcs l).length = l.length := by simp [bcs]
theorem bcs_ones (l : List UInt8) : ones (bcs l) := ones.map l fun _ => rfl
theorem bcs_append (l m : List UInt8) : bcs (l ++ m) = bcs l ++ bcs m := by simp [bcs]
theorem byteCells_str (l : List UInt8) : byteCells (str l) = bcs l := by simp [byteCells, str, bcs]

section
variable {P : Program} {N : Nat} {E : Env} {Γ Γ' : List SProp} {dst : Option Tmp} {ty : TypeId} {pos : String} {after : Array Edge} {guard : Option (Nat × Bool)}

theorem Reads.lenT {args : Array Operand} {x t ts} {l : List UInt8} (ha : args = #[x]) (hts : ts = #[t]) (hu : P.underlying t = some .string) (hx : ev E x = some (.string (str l))) :
    Reads P N E Γ ⟨dst, .call ⟨.builtin .len, args, ts⟩, ty, pos, after, guard⟩ (.int .i64 l.length) := by
  have := Reads.lenS (P := P) (N := N) (Γ := Γ) (dst := dst) (ty := ty) (pos := pos) (after := after) (guard := guard) ha hts hu hx
  rwa [str_size] at this
theorem Reads.indexT {t x i} {l : List UInt8} {k : IntKind} {n : Int} {b : UInt8} (hu : P.underlying t = some .string) (hx : ev E x = some (.string (str l))) (hi : ev E i = some (.int k n)) (h0 : 0 ≤ n)
    (hb : l[n.toNat]? = some b) : Reads P N E Γ ⟨dst, .index t x i, ty, pos, after, guard⟩ (.int .u8 b.toNat) := .indexS hu hx hi h0 (by simpa [str] using hb)
theorem Reads.sliceT {t x} {l : List UInt8} {lo hi : Option Operand} {a h : Nat} (hu : P.underlying t = some .string) (hx : ev E x = some (.string (str l)))
    (hlo : match lo with | none => a = 0 | some o => ∃ k, ev E o = some (.int k (a : Int))) (hhi : match hi with | none => h = l.length | some o => ∃ k, ev E o = some (.int k (h : Int)))
    (h1 : a ≤ h) (h2 : h ≤ l.length) : Reads P N E Γ ⟨dst, .slice t x lo hi none, ty, pos, after, guard⟩ (.string (str ((l.drop a).take (h - a)))) := by
  have := Reads.sliceS (P := P) (N := N) (Γ := Γ) (dst := dst) (ty := ty) (pos := pos) (after := after) (guard := guard) hu hx hlo (by rw [str_size]; exact hhi) h1 (by rw [str_size]; exact h2)
  rwa [str_extract] at this
theorem Reads.catT {t x y t'} {l m : List UInt8} (hx : ev E x = some (.string (str l))) (hy : ev E y = some (.string (str m))) (hl : l.length + m.length ≤ 9223372036854775807) :
    Reads P N E Γ ⟨dst, .binOp .add t x y t', ty, pos, after, guard⟩ (.string (str (l ++ m))) := by
  have := Reads.cat (P := P) (N := N) (Γ := Γ) (dst := dst) (t := t) (t' := t') (ty := ty) (pos := pos) (after := after) (guard := guard) hx hy (by rw [str_size, str_size]; exact hl)
  rwa [str_append] at this
theorem Reads.eqT {t x y t'} {l m : List UInt8} (hx : ev E x = some (.string (str l))) (hy : ev E y = some (.string (str m))) :
    Reads P N E Γ ⟨dst, .binOp .eql t x y t', ty, pos, after, guard⟩ (.bool (decide (l = m))) := by
  have := Reads.eqS (P := P) (N := N) (Γ := Γ) (dst := dst) (t := t) (t' := t') (ty := ty) (pos := pos) (after := after) (guard := guard) hx hy
  rwa [decide_eq_decide.2 str_inj] at this
theorem Reads.neT {t x y t'} {l m : List UInt8} (hx : ev E x = some (.string (str l))) (hy : ev E y = some (.string (str m))) :
    Reads P N E Γ ⟨dst, .binOp .neq t x y t', ty, pos, after, guard⟩ (.bool (!decide (l = m))) := by
  have := Reads.neS (P := P) (N := N) (Γ := Γ) (dst := dst) (t := t) (t' := t') (ty := ty) (pos := pos) (after := after) (guard := guard) hx hy
  rwa [decide_eq_decide.2 str_inj] at this

/-- string(b). -/
theorem Reads.bytesToStr {s d e x} {a : Option Addr} {n c : Nat} {l : List UInt8} (hs : P.underlying s = some (.slice e)) (he : P.underlying e = some (.int .u8)) (hd : P.underlying d = some .string)
    (hx : ev E x = some (.slice a n c)) (hn : n = l.length) (k : Knows Γ (RowAt a (bcs l))) : Reads P N E Γ ⟨dst, .convert s d x, ty, pos, after, guard⟩ (.string (str l)) := fun A w ac hf hsat => by
  subst hn
  have hr := k A w hsat
  have key : (convert s d (.slice a l.length c)).run P w = .ok (.string (str l)) w := by
    rcases hr with h | ⟨b, o, rfl, h⟩
    · have : l = [] := by simpa [bcs] using h
      subst this
      cases a with
      | none => exact run_convert_bytes_nil w s e hs he _ _ d hd
      | some q => exact run_convert_bytes_back w s d e q c [] hs he hd (fun j hj => by cases hj)
    · refine run_convert_bytes_back w s d e _ c l hs he hd fun j hj => ?_
      rw [Addr_add]
      exact h.1 j _ (by simp [bcs, List.getElem?_eq_getElem hj])
  simp [execOp, hf.eval hx, key]

theorem Knows.srcT {t} {l : List UInt8} (hu : P.underlying t = some .string) : Knows Γ (SrcAt P 1 t (.string (str l)) l.length (bcs l)) := by
  have := Knows.srcStr (P := P) (Γ := Γ) (s := str l) hu
  rwa [str_size, byteCells_str] at this

end
end Go.Sp
