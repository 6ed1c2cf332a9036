/- Steps through functions of the program, under conditions that each theorem states (part net4 of a claim). -/
import Derived.Test.YtfbmbhajpmlffaaProg
import Derived.Test.YtfbmbhajpmlffaaL9
import Derived.Test.YtfbmbhajpmlffaaDefs
import Derived.Test.YtfbmbhajpmlffaaNet2
import Derived.Test.YtfbmbhajpmlffaaNet1
namespace Go.Proofs.Ytfbmbhajpmlffaa
open Go Go.Sp

set_option linter.unusedVariables false

namespace net4
theorem ts32 : TS Try.prog 32 21 := .of (by kernel_rfl)
theorem ti32 : TI Try.prog 32 21 232 (.agg #[.int .i64 0, .int .i64 0, .int .i64 0, .int .i64 0, .int .i64 0, .int .i64 0, .int .i64 0, .int .i64 0, .int .i64 0, .int .i64 0, .int .i64 0, .int .i64 0, .int .i64 0, .int .i64 0, .int .i64 0, .int .i64 0, .string ⟨#[]⟩, .string ⟨#[]⟩, .slice none 0 0, .slice none 0 0, .slice none 0 0]) := .of (by kernel_rfl)
end net4
open net4

theorem srcTail {R : SProp} (l : List Pm) (i : Nat) (hi : i < l.length) (b c : Nat) (pre post : List Value) (hc : l.length ≤ c) :
    Knows (blk b (pre ++ (l.flatMap pcell ++ post)) 32 :: [R]) (SrcAt Try.prog 21 42 (.slice (if c = i + 1 then some ⟨b, pre.length, none⟩ else Option.map (fun x : Addr => x.add ((i + 1) * 21)) (some ⟨b, pre.length, none⟩)) (l.length - (i + 1)) (c - (i + 1))) (l.length - (i + 1)) ((l.drop (i + 1)).flatMap pcell)) := by
  have hl : ((l.drop (i + 1)).flatMap pcell).length = (l.length - (i + 1)) * 21 := by rw [flat_length pcell_len, List.length_drop]
  refine Knows.srcRow (e := 32) ?_ Try.underlying42 hl (by decide)
  by_cases h : c = i + 1
  · have : (l.drop (i + 1)).flatMap pcell = [] := by rw [List.drop_eq_nil_of_le (by omega)]; rfl
    rw [this]
    exact fun _ _ _ => .inl rfl
  · rw [if_neg h]
    refine (Knows.blkAt (o := pre.length + (i + 1) * 21) (cs := (l.drop (i + 1)).flatMap pcell) .head ?_).mono fun w hw => .inr ⟨b, pre.length + (i + 1) * 21, by simp [Addr_add], hw⟩
    intro j v hv
    rw [← flat_drop pcell_len, List.getElem?_drop] at hv
    rw [Nat.add_assoc]
    exact at_mid hv
def zc : List Value := (Builtin.zeroCells (Value.agg (mcells (toS 0 0 0) .sn .sn .sn).toArray).cells 1).toList
theorem zc_len : zc.length = 21 := by simp [zc, Builtin.zeroCells, Value.cells, mcells]
theorem cut_len (l : List Pm) (i : Nat) (hi : i < l.length) {pre post : List Value} : (splice (pre ++ (l.flatMap pcell ++ post)) (pre.length + i * 21) ((l.drop (i + 1)).flatMap pcell)).length = pre.length + l.length * 21 + post.length := by
  rw [length_splice _ _ _ (by rw [flat_length pcell_len, List.length_append, List.length_append, flat_length pcell_len, List.length_drop]; omega), List.length_append, List.length_append, flat_length pcell_len]; omega
theorem del_cells (l : List Pm) (i : Nat) (hi : i < l.length) {pre post : List Value} :
    splice (splice (pre ++ (l.flatMap pcell ++ post)) (pre.length + i * 21) ((l.drop (i + 1)).flatMap pcell)) (pre.length + (l.length - 1) * 21) zc = pre ++ ((l.eraseIdx i).flatMap pcell ++ (zc ++ post)) := by
  have hl : ((l.drop (i + 1)).flatMap pcell).length = (l.length - (i + 1)) * 21 := by rw [flat_length pcell_len, List.length_drop]
  have hf := flat_length pcell_len l
  rw [splice_mid (by omega), splice_mid, cut_cells pcell_len l i hi zc zc_len]
  · simp [List.append_assoc]
  · rw [length_splice _ _ _ (by omega), zc_len, hf]; omega

theorem Delete_ok (a : Option Addr) (c : Nat) (l : List Pm) (i : Nat) (hi : i < l.length) (hc : l.length ≤ c) (hb : l.length ≤ 100000) : Cn Try.prog 38 [.slice a l.length c, .int .i64 i, .int .i64 ((i : Int) + 1)] (fun _ => True) [arr 32 21 a c (l.flatMap pcell)] fun v G =>
    v = .slice a (l.length - 1) c ∧ G = [arr 32 21 a c ((l.eraseIdx i).flatMap pcell)] := by
  refine .enter Try.func38 rfl (by kernel_rfl) rfl fun R k => ?_
  refine .open_ .head (fun h => arr.blk_of (by omega)) (fun x hx => ?_)
  obtain ⟨b, pre, post⟩ := x
  obtain ⟨rfl, hlen⟩ := hx
  dsimp only at hlen
  simp only [List.cons_append, List.nil_append]
  have hfl : (l.flatMap pcell).length = l.length * 21 := flat_length pcell_len l
  refine .seq ?_
  refine .region ?_   -- R0 slices.go:224
  refine .rd (.assign rfl) ?_
  refine .nil ?_
  refine .seq ?_
  refine .region ?_   -- R1 slices.go:225
  refine .rd (.move rfl) ?_
  refine .rd (.move rfl) ?_
  refine .rd (.move rfl) ?_
  refine .rd (.move rfl) ?_
  refine .rd (.lenL rfl rfl Try.underlying42 rfl) ?_
  refine .rd (.slice (l := i) (h := i + 1) (m := l.length) Try.underlying42 ts32 rfl ⟨_, rfl⟩ ⟨_, rfl⟩ ⟨_, rfl⟩ (by omega) (by omega) (by omega)) ?_
  refine .nil ?_
  refine .seq ?_
  refine .seq ?_
  refine .region ?_   -- R2 slices.go:227
  refine .rd (.move rfl) ?_
  refine .rd (.move rfl) ?_
  refine .rd (.eqI rfl rfl) ?_
  refine .nil ?_
  refine .condP rfl (fun c2 => absurd c2 (by omega)) (fun c2 => ?_)
  refine .skip ?_
  refine .seq ?_
  refine .region ?_   -- R4 slices.go:231
  refine .rd (.move rfl) ?_
  refine .rd (.lenL rfl rfl Try.underlying42 rfl) ?_
  refine .rd (.assign rfl) ?_
  refine .nil ?_
  refine .seq ?_
  refine .draws [] [] (by kernel_rfl) ?_   -- R5 slices.go:232
  refine .rp 0 rfl (by kernel_rfl) (by kernel_rfl) (by kernel_rfl) (Reads.pure (.move rfl)) ?_
  refine .rp 1 rfl (by kernel_rfl) (by kernel_rfl) (by kernel_rfl) (Reads.pure (.move rfl)) ?_
  refine .rp 2 rfl (by kernel_rfl) (by kernel_rfl) (by kernel_rfl) (Reads.pure (.slice (l := 0) (h := i) (m := c) Try.underlying42 ts32 rfl rfl ⟨_, rfl⟩ rfl (by omega) (by omega) (by omega))) ?_
  refine .rp 3 rfl (by kernel_rfl) (by kernel_rfl) (by kernel_rfl) (Reads.pure (.move rfl)) ?_
  refine .rp 4 rfl (by kernel_rfl) (by kernel_rfl) (by kernel_rfl) (Reads.pure (.move rfl)) ?_
  refine .rp 5 rfl (by kernel_rfl) (by kernel_rfl) (by kernel_rfl) (Reads.pure (.slice (l := i + 1) (h := l.length) (m := c) Try.underlying42 ts32 rfl rfl ⟨rfl, rfl⟩ ⟨_, rfl⟩ (by omega) (by omega) (by omega))) ?_
  refine .ef 6 (by kernel_rfl) rfl (.appendRoom (b := b) (o := pre.length) (n := i) (cap := c) rfl rfl Try.underlying42 ts32 (by show some _ = some _; rw [if_neg (by omega)]; simp [Addr_add]) rfl .head (srcTail l i hi b c pre post hc) (by omega) (by rw [flat_length pcell_len, List.length_drop, List.length_append, List.length_append, hfl]; omega)) ?_
  rintro _ _ ⟨rfl, rfl⟩
  refine ⟨.inl (by kernel_rfl), ?_⟩
  refine .rp 7 rfl (by kernel_rfl) (by kernel_rfl) (by kernel_rfl) (Reads.pure (.assign rfl)) ?_
  refine .done (by kernel_rfl) ?_
  refine .seq ?_
  refine .region ?_   -- R6 slices.go:233
  refine .rd (.move rfl) ?_
  refine .rd (.move rfl) ?_
  refine .rd (.lenL rfl rfl Try.underlying42 rfl) ?_
  refine .rd (.move rfl) ?_
  refine .rd (.slice (l := i + (l.length - (i + 1))) (h := l.length) (m := c) Try.underlying42 ts32 rfl rfl ⟨_, rfl⟩ ⟨_, rfl⟩ (by omega) (by omega) (by omega)) ?_
  refine .ef0 (.clear (b := b) (o := pre.length + (l.length - 1) * 21) (n := 1) (cap := c - (i + (l.length - (i + 1)))) rfl rfl Try.underlying42 ti32 rfl (ones.of rfl) (by show some _ = some _; rw [if_neg (by omega), show i + (l.length - (i + 1)) = l.length - 1 by omega, show l.length - (l.length - 1) = 1 by omega]; simp [Addr_add]) .head (by have := cut_len l i hi (pre := pre) (post := post); omega)) ?_
  rintro _ _ rfl
  refine .nil ?_
  refine .seq ?_
  refine .region ?_   -- R7 slices.go:234
  refine .rd (.move rfl) ?_
  refine .rd (.assign rfl) ?_
  refine .nil ?_
  refine .close (X := arr 32 21 (some ⟨b, pre.length, none⟩) c ((l.eraseIdx i).flatMap pcell)) (.cons .head .nil) (fun h H => sat.arr_close (post := zc ++ post) (by rw [flat_length pcell_len, List.length_eraseIdx_of_lt hi, List.length_append, zc_len]; omega) (by rw [← del_cells l i hi]; exact H)) ?_
  refine .retP Try.func38 (.cons (.tmp rfl) .nil) (.cons .head (.cons .head .nil)) ?_
  exact ⟨[_], ⟨by simp only [resVal]; congr 1; omega, rfl⟩, rfl⟩

end Go.Proofs.Ytfbmbhajpmlffaa

