/- A separation logic over the given machine. Part 15: a string's bytes as a row. -/
import Derived.Test.YtahpokcigdjilaaL14
import Derived.Test.YtahpokcigdjilaaL11
import Derived.Laws.IdiomStrings
namespace Go.Sp
open Go

section
variable {P : Program} {N : Nat} {E : Env} {Γ Γ' : List SProp} {dst : Option Tmp} {ty : TypeId} {pos : String} {after : Array Edge} {guard : Option (Nat × Bool)}

theorem bytesRow_list (l : List UInt8) (c : Nat) : bytesRow (str l) c = (bcs l ++ List.replicate (c - l.length) (Value.int .u8 0)).toArray := by
  apply Array.ext'
  simp [bytesRow, str, bcs, ByteArray.size]

/-- []byte(s). -/
theorem Eff.strToBytes {s d e x} {l : List UInt8} (hs : P.underlying s = some .string) (hd : P.underlying d = some (.slice e)) (he : P.underlying e = some (.int .u8)) (hx : ev E x = some (.string (str l))) :
    Eff P N E Γ ⟨dst, .convert s d x, ty, pos, after, guard⟩ fun v Γ'' => ∃ b c, v = .slice (some ⟨b, 0, none⟩) l.length c ∧ Γ'' = arr e 1 (some ⟨b, 0, none⟩) c (bcs l) :: Γ := by
  intro A F w a nx Z hf hsat hn
  have hr := run_bytes_of_string (P := P) w s d e (str l) hs hd he
  unfold Oper.wp
  simp only [execOp, hf.eval hx, Sem.run_bind, hr, Result.andThen_ok, Sem.run_pure, Oper.upon]
  rw [str_size] at hr ⊢
  have hge := grownCap_ge w l.length 0 e
  rw [bytesRow_list]
  refine hn _ _ _ ⟨w.heap.size, _, rfl, rfl⟩ ?_
  have hl : (bcs l ++ List.replicate (grownCap w l.length 0 e - l.length) (Value.int .u8 0)).length = grownCap w l.length 0 e := by
    rw [List.length_append, bcs_len, List.length_replicate]; omega
  have ho : ones (bcs l ++ List.replicate (grownCap w l.length 0 e - l.length) (Value.int .u8 0)) := (bcs_ones l).append fun v hv => by
    rw [(List.mem_replicate.1 hv).2]; rfl
  have s4 := Sat.blk_of ((hsat.drew (w := w)).alloc (.cells (bcs l ++ List.replicate (grownCap w l.length 0 e - l.length) (Value.int .u8 0)).toArray e ((bcs l ++ List.replicate (grownCap w l.length 0 e - l.length) (Value.int .u8 0)).toArray.size, (bcs l ++ List.replicate (grownCap w l.length 0 e - l.length) (Value.int .u8 0)).toArray.size + 1))) ho (.inr (by simp))
  refine Sat.close (Γ := Γ ++ F) (B := [blk w.heap.size ([] ++ (bcs l ++ List.replicate (grownCap w l.length 0 e - l.length) (Value.int .u8 0))) e]) (fun h' H => ?_) (by rw [List.nil_append]; exact s4)
  exact sat.arr_close (pre := []) (by rw [← List.length_append, hl, Nat.mul_one]) H

end
end Go.Sp
