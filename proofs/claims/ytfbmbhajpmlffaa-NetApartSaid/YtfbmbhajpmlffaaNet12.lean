/- Steps through functions of the program, under conditions that each theorem states (part net12 of a claim). -/
import Derived.Test.YtfbmbhajpmlffaaProg
import Derived.Test.YtfbmbhajpmlffaaL9
import Derived.Test.YtfbmbhajpmlffaaDefs
import Derived.Test.YtfbmbhajpmlffaaNet8
import Derived.Test.YtfbmbhajpmlffaaNet11
namespace Go.Proofs.Ytfbmbhajpmlffaa
open Go Go.Sp

set_option linter.unusedVariables false

namespace net12
theorem ti32 : TI Try.prog 32 21 232 (.agg #[.int .i64 0, .int .i64 0, .int .i64 0, .int .i64 0, .int .i64 0, .int .i64 0, .int .i64 0, .int .i64 0, .int .i64 0, .int .i64 0, .int .i64 0, .int .i64 0, .int .i64 0, .int .i64 0, .int .i64 0, .int .i64 0, .string ⟨#[]⟩, .string ⟨#[]⟩, .slice none 0 0, .slice none 0 0, .slice none 0 0]) := .of (by kernel_rfl)
theorem bld32_  (w : World) : (Instr.build 32 (([] : List Nat).zip []).toArray).run Try.prog w = .ok (.agg #[.int .i64 0, .int .i64 0, .int .i64 0, .int .i64 0, .int .i64 0, .int .i64 0, .int .i64 0, .int .i64 0, .int .i64 0, .int .i64 0, .int .i64 0, .int .i64 0, .int .i64 0, .int .i64 0, .int .i64 0, .int .i64 0, .string ⟨#[]⟩, .string ⟨#[]⟩, .slice none 0 0, .slice none 0 0, .slice none 0 0]) w := by kernel_rfl
theorem ts32 : TS Try.prog 32 21 := .of (by kernel_rfl)
theorem ia32 : IsAgg Try.prog 32 := ⟨_, Try.underlying32, trivial⟩
theorem fd45_0 : FD Try.prog 45 0 0 := .of Try.underlying45 (by kernel_rfl)
theorem na42 : NotAgg Try.prog 42 := ⟨_, Try.underlying42, trivial⟩
theorem ts42 : TS Try.prog 42 1 := .of (by kernel_rfl)
end net12
open net12

theorem srcSub {Γ : List SProp} {l : List Pm} {b o : Nat} (k : Knows Γ (RowAt (some ⟨b, o, none⟩) (l.flatMap pcell))) (lo hi c : Nat) (h1 : lo ≤ hi) (h2 : hi ≤ l.length) (h3 : hi ≤ c) :
    Knows Γ (SrcAt Try.prog 21 42 (.slice (if c = lo then some ⟨b, o, none⟩ else Option.map (fun x : Addr => x.add (lo * 21)) (some ⟨b, o, none⟩)) (hi - lo) (c - lo)) (hi - lo) (((l.drop lo).take (hi - lo)).flatMap pcell)) := by
  have hl : (((l.drop lo).take (hi - lo)).flatMap pcell).length = (hi - lo) * 21 := by rw [flat_length pcell_len, List.length_take, List.length_drop]; congr 1; omega
  refine Knows.srcRow (e := 32) ?_ Try.underlying42 hl (by decide)
  by_cases h : c = lo
  · have : hi - lo = 0 := by omega
    rw [this, List.take_zero]
    exact fun _ _ _ => .inl rfl
  · rw [if_neg h]
    refine k.mono fun w hw => ?_
    rcases hw with hw | ⟨b', o', e, hw⟩
    · left
      have := flat_length pcell_len l
      rw [hw] at this
      have h0 : l.length = 0 := by simp at this; omega
      rw [List.length_eq_zero_iff] at h0; subst h0; simp
    · cases e
      have := hw.sub (lo * 21) ((hi - lo) * 21)
      rw [flat_drop pcell_len, flat_take pcell_len] at this
      exact .inr ⟨b, o + lo * 21, by simp [Addr_add], this⟩
theorem mat_zero (w : World) : mat zeroP.1 zeroP.2 w := ⟨rfl, .inl rfl, .inl rfl, .inl rfl, fun _ h => by cases h⟩
theorem know_true {φ : World → Prop} (H : ∀ w, φ w) (h : Hp) : know φ h := ⟨fun _ => none, fun _ _ e => by simp at e, fun _ _ e => by simp at e, fun w _ => H w⟩
def rTaken (n : Nat) (qs : List Pm) (ap : List (Int × Int)) (i : Int) (v : Value) (G : List SProp) : Prop :=
  ∃ qs' p ok, TakeR qs i qs' p ok ∧ v = .tuple #[.agg (mval p.1 p.2).toArray, .bool ok] ∧ G = [rnet n qs' ap, know (mat p.1 p.2)]
def rTwice (qs : List Pm) (i : Int) (qs' : List Pm) (ok : Bool) : Prop :=
  (ok = true ∧ qs.length < 500 ∧ ∃ (j : Nat) (p : Pm), i = j ∧ qs[j]? = some p ∧ qs' = qs ++ [p]) ∨ (ok = false ∧ ¬ twiceB qs i ∧ qs' = qs)
theorem erase_cells (qs : List Pm) (j : Nat) (hj : j < qs.length) : ([] ++ ((qs.drop 0).take (j - 0)).flatMap pcell) ++ ((qs.drop (j + 1)).take (qs.length - (j + 1))).flatMap pcell = (qs.eraseIdx j).flatMap pcell := by
  rw [List.eraseIdx_eq_take_drop_succ, List.flatMap_append, List.take_of_length_le (l := qs.drop (j + 1)) (by simp)]; simp

theorem rTake_ok (n qs ap) (i : Int) (hps : qs.length ≤ 500) : Cn Try.prog 17 [.pointer (some ⟨n, 0, none⟩), .int .i64 i] (fun _ => True) [rnet n qs ap] fun v G => rTaken n qs ap i v G := by
  refine .enter Try.func17 rfl (by kernel_rfl) rfl fun R k => ?_
  refine .open_ .head rnet_open (fun x _ => ?_)
  obtain ⟨sa, sc, pa, pc⟩ := x
  simp only [List.cons_append, List.nil_append]
  refine .seq ?_
  refine .region ?_   -- R0 ref.go:46
  refine .ef (.alloc ti32 rfl (ones.of rfl)) ?_
  rintro _ _ ⟨b4, rfl, rfl⟩
  refine .rd (.assign rfl) ?_
  refine .nil ?_
  refine .seq ?_
  refine .seq ?_
  refine .region ?_   -- R1 ref.go:47
  refine .rd (.move rfl) ?_
  refine .rd (.lt rfl rfl) ?_
  refine .rd (.move rfl) ?_
  refine .split (t := 10) rfl (fun g1_2 => ?_) (fun g1_2 => ?_)
  · replace g1_2 := of_decide_eq_true g1_2
    refine .off (t := 10) rfl rfl rfl ?_
    refine .off (t := 10) rfl rfl rfl ?_
    refine .off (t := 10) rfl rfl rfl ?_
    refine .off (t := 10) rfl rfl rfl ?_
    refine .off (t := 10) rfl rfl rfl ?_
    refine .off (t := 10) rfl rfl rfl ?_
    refine .off (t := 10) rfl rfl rfl ?_
    refine .rd (.pickT rfl rfl) ?_
    refine .nil ?_
    refine .condT rfl ?_
    refine .seq ?_
    refine .region ?_   -- R2 ref.go:48
    refine .rd (.build rfl (bld32_)) ?_
    refine .ef0 (.storeAll (vs := mval zeroP.1 zeroP.2) ts32 rfl rfl rfl .head rfl (ones.of rfl)) ?_
    rintro _ _ rfl
    refine .rd (.assign rfl) ?_
    refine .nil ?_
    refine .close (.cons (.tail .head) (.cons (.tail .head) (.cons (.tail .head) (.cons (.tail .head) .nil)))) (rnet_close _ _ _ _) ?_
    refine .nothing ?_
    refine .close (X := know (mat zeroP.1 zeroP.2)) (.cons .head .nil) (fun h _ => know_true mat_zero h) ?_
    refine .retP Try.func17 (.cons (.blkN ia32 ts32 rfl (.tail (.tail .head)) rfl) (.cons (.tmp rfl) .nil)) (.cons (.tail .head) (.cons .head (.cons (.tail .head) .nil))) ?_
    exact ⟨[_, _], ⟨qs, zeroP, false, .inr ⟨rfl, by omega, rfl, rfl⟩, rfl, rfl⟩, rfl⟩
  · replace g1_2 := of_decide_eq_false g1_2
    refine .on (t := 10) rfl rfl ?_
    refine .rd (.move rfl) ?_
    refine .on (t := 10) rfl rfl ?_
    refine .rd (.move rfl) ?_
    refine .on (t := 10) rfl rfl ?_
    refine .rd (.nilCheck rfl) ?_
    refine .on (t := 10) rfl rfl ?_
    refine .rd (.fieldAddr fd45_0 rfl) ?_
    refine .on (t := 10) rfl rfl ?_
    refine .rd (.ld na42 rfl (.tail .head) rfl) ?_
    refine .on (t := 10) rfl rfl ?_
    refine .rd (.lenL rfl rfl Try.underlying42 rfl) ?_
    refine .on (t := 10) rfl rfl ?_
    refine .rd (.ge rfl rfl) ?_
    refine .rd (.pickF rfl rfl) ?_
    refine .nil ?_
    refine .condP rfl (fun c1 => ?_) (fun c1 => ?_)
    · refine .seq ?_
      refine .region ?_   -- R2 ref.go:48
      refine .rd (.build rfl (bld32_)) ?_
      refine .ef0 (.storeAll (vs := mval zeroP.1 zeroP.2) ts32 rfl rfl rfl .head rfl (ones.of rfl)) ?_
      rintro _ _ rfl
      refine .rd (.assign rfl) ?_
      refine .nil ?_
      refine .close (.cons (.tail .head) (.cons (.tail .head) (.cons (.tail .head) (.cons (.tail .head) .nil)))) (rnet_close _ _ _ _) ?_
      refine .nothing ?_
      refine .close (X := know (mat zeroP.1 zeroP.2)) (.cons .head .nil) (fun h _ => know_true mat_zero h) ?_
      refine .retP Try.func17 (.cons (.blkN ia32 ts32 rfl (.tail (.tail .head)) rfl) (.cons (.tmp rfl) .nil)) (.cons (.tail .head) (.cons .head (.cons (.tail .head) .nil))) ?_
      exact ⟨[_, _], ⟨qs, zeroP, false, .inr ⟨rfl, by omega, rfl, rfl⟩, rfl, rfl⟩, rfl⟩
    · refine .skip ?_
      refine .seq ?_
      obtain ⟨j, rfl⟩ : ∃ j : Nat, i = j := ⟨i.toNat, by omega⟩
      have hj : j < qs.length := by omega
      obtain ⟨p, hp⟩ : ∃ p, qs[j]? = some p := ⟨_, List.getElem?_eq_getElem hj⟩
      have hfl : (qs.flatMap pcell).length = qs.length * 21 := flat_length pcell_len qs
      refine .tell (Knows.arrCap (.tail (.tail .head))) (fun hcap => ?_)
      refine .tell (φ := ∃ b o, sa = some ⟨b, o, none⟩) ((Knows.arr (.tail (.tail .head))).mono fun _ h => h.addr (by rw [flat_length pcell_len]; omega)) (fun hx => ?_)
      obtain ⟨bb, oo, rfl⟩ := hx
      refine .region ?_   -- R3 ref.go:50
      refine .rd (.move rfl) ?_
      refine .rd (.nilCheck rfl) ?_
      refine .rd (.fieldAddr fd45_0 rfl) ?_
      refine .rd (.ld na42 rfl (.tail .head) rfl) ?_
      refine .rd (.move rfl) ?_
      refine .rd (.indexAddr Try.underlying42 ts32 rfl rfl (by omega) (by omega)) ?_
      refine .rd (.loadN ia32 ts32 rfl rfl (Knows.elem pcell_len (by decide) (Knows.arr (.tail (.tail .head))) hp)) ?_
      refine .ef (.alloc ti32 rfl (ones.of rfl)) ?_
      rintro _ _ ⟨b6, rfl, rfl⟩
      refine .ef0 (.storeAll (vs := mval p.1 p.2) ts32 rfl rfl rfl .head rfl (ones.of rfl)) ?_
      rintro _ _ rfl
      refine .nil ?_
      refine .seq ?_
      refine .region ?_   -- R4 ref.go:51
      refine .ef (.buildNone Try.underlying42 ti32) ?_
      rintro _ _ ⟨al, rfl, rfl⟩
      refine .blkArr 21 0 .head rfl ?_
      refine .rd (.move rfl) ?_
      refine .rd (.nilCheck rfl) ?_
      refine .rd (.fieldAddr fd45_0 rfl) ?_
      refine .rd (.ld na42 rfl (.tail (.tail (.tail .head))) rfl) ?_
      refine .rd (.move rfl) ?_
      refine .rd (.slice (l := 0) (h := j) (m := sc) Try.underlying42 ts32 rfl rfl ⟨_, rfl⟩ rfl (by omega) (by omega) (by omega)) ?_
      refine .ef (.append rfl rfl Try.underlying42 ti32 rfl (ones.of rfl) (by decide) (by decide) rfl rfl .head (n := 0) (m := j - 0) rfl (srcSub (Knows.arr (.tail (.tail (.tail (.tail .head))))) 0 j sc (by omega) (by omega) (by omega)) (by omega)) ?_
      rintro _ _ ⟨ra, rc, rfl, rn, rfl⟩
      refine .rd (.assign rfl) ?_
      refine .nil ?_
      refine .seq ?_
      refine .region ?_   -- R5 ref.go:52
      refine .rd (.move rfl) ?_
      refine .rd (.move rfl) ?_
      refine .rd (.move rfl) ?_
      refine .rd (.nilCheck rfl) ?_
      refine .rd (.fieldAddr fd45_0 rfl) ?_
      refine .rd (.ld na42 rfl (.tail (.tail (.tail .head))) rfl) ?_
      refine .rd (.move rfl) ?_
      refine .rd (.add rfl rfl (by omega) (by omega)) ?_
      refine .rd (.slice (l := j + 1) (h := qs.length) (m := sc) Try.underlying42 ts32 rfl rfl ⟨rfl, rfl⟩ ⟨_, rfl⟩ (by omega) (by omega) (by omega)) ?_
      refine .ef (.append rfl rfl Try.underlying42 ti32 rfl (ones.of rfl) (by decide) (by decide) rfl rfl .head (n := 0 + (j - 0)) (m := qs.length - (j + 1)) (by simp only [List.nil_append, flat_length pcell_len, List.length_take, List.length_drop]; omega) (srcSub (Knows.arr (.tail (.tail (.tail (.tail .head))))) (j + 1) qs.length sc (by omega) (by omega) (by omega)) (by omega)) ?_
      rintro _ _ ⟨za, zc, rfl, zn, rfl⟩
      refine .rd (.nilCheck rfl) ?_
      refine .rd (.fieldAddr fd45_0 rfl) ?_
      refine .ef0 (.store ts42 rfl rfl (.tail (.tail (.tail .head))) rfl (Nat.le_of_ble_eq_true rfl)) ?_
      rintro _ _ rfl
      refine .nil ?_
      refine .seq ?_
      refine .region ?_   -- R6 ref.go:53
      refine .rd (.ldN ia32 ts32 rfl (.tail (.tail .head)) rfl) ?_
      refine .ef0 (.storeAll (vs := mval p.1 p.2) ts32 rfl rfl rfl (.tail (.tail (.tail .head))) rfl (ones.of rfl)) ?_
      rintro _ _ rfl
      refine .rd (.assign rfl) ?_
      refine .nil ?_
      refine .dup (.tail (.tail (.tail (.tail (.tail (.tail .head)))))) ?_
      refine .close (X := know (mat p.1 p.2)) (.cons (.tail .head) .nil) (fun h H => sat.know_mono (fun w hw => hw p (List.mem_of_getElem? hp)) H) ?_
      refine .close (X := know fun w => ∀ q ∈ qs.eraseIdx j, mat q.1 q.2 w) (.cons (.tail .head) .nil) (fun h H => sat.know_mono (fun w hw q hq => hw q (List.mem_of_mem_eraseIdx hq)) H) ?_
      refine .close (X := rnet n (qs.eraseIdx j) ap) (.cons (.tail (.tail (.tail .head))) (.cons (.tail (.tail (.tail .head))) (.cons (.tail (.tail (.tail (.tail (.tail .head))))) (.cons .head .nil)))) (fun h H => rnet_close (qs := qs.eraseIdx j) za zc pa pc h (by rw [← erase_cells qs j hj, List.length_eraseIdx_of_lt hj, show qs.length - 1 = 0 + (j - 0) + (qs.length - (j + 1)) by omega]; exact H)) ?_
      refine .retP Try.func17 (.cons (.blkN ia32 ts32 rfl (.tail (.tail .head)) rfl) (.cons (.tmp rfl) .nil)) (.cons .head (.cons .head (.cons (.tail (.tail (.tail .head))) .nil))) ?_
      exact ⟨[_, _], ⟨_, p, true, .inl ⟨rfl, j, rfl, hp, rfl⟩, rfl, rfl⟩, rfl⟩

theorem rTwice_ok (n qs ap) (i : Int) : Cn Try.prog 20 [.pointer (some ⟨n, 0, none⟩), .int .i64 i] (fun _ => True) [rnet n qs ap] fun v G => ∃ qs' ok, rTwice qs i qs' ok ∧ v = .bool ok ∧ G = [rnet n qs' ap] := by
  refine .enter Try.func20 rfl (by kernel_rfl) rfl fun R k => ?_
  refine .open_ .head rnet_open (fun x _ => ?_)
  obtain ⟨sa, sc, pa, pc⟩ := x
  simp only [List.cons_append, List.nil_append]
  refine .seq ?_
  refine .region ?_   -- R0 ref.go:56
  refine .rd (.assign rfl) ?_
  refine .nil ?_
  refine .seq ?_
  refine .seq ?_
  refine .region ?_   -- R1 ref.go:57
  refine .rd (.move rfl) ?_
  refine .rd (.lt rfl rfl) ?_
  refine .rd (.move rfl) ?_
  refine .split (t := 7) rfl (fun g1_2 => ?_) (fun g1_2 => ?_)
  · replace g1_2 := of_decide_eq_true g1_2
    refine .off (t := 7) rfl rfl rfl ?_
    refine .off (t := 7) rfl rfl rfl ?_
    refine .off (t := 7) rfl rfl rfl ?_
    refine .off (t := 7) rfl rfl rfl ?_
    refine .off (t := 7) rfl rfl rfl ?_
    refine .off (t := 7) rfl rfl rfl ?_
    refine .off (t := 7) rfl rfl rfl ?_
    refine .rd (.pickT rfl rfl) ?_
    refine .rd (.move rfl) ?_
    refine .off (t := 16) rfl rfl rfl ?_
    refine .off (t := 16) rfl rfl rfl ?_
    refine .off (t := 16) rfl rfl rfl ?_
    refine .off (t := 16) rfl rfl rfl ?_
    refine .off (t := 16) rfl rfl rfl ?_
    refine .off (t := 16) rfl rfl rfl ?_
    refine .rd (.pickT rfl rfl) ?_
    refine .nil ?_
    refine .condT rfl ?_
    refine .seq ?_
    refine .region ?_   -- R2 ref.go:58
    refine .rd (.assign rfl) ?_
    refine .nil ?_
    refine .close (.cons .head (.cons .head (.cons .head (.cons .head .nil)))) (rnet_close _ _ _ _) ?_
    refine .retP Try.func20 (.cons (.tmp rfl) .nil) (.cons .head (.cons .head .nil)) ?_
    exact ⟨[_], ⟨qs, false, .inr ⟨rfl, by unfold twiceB; omega, rfl⟩, rfl, rfl⟩, rfl⟩
  · replace g1_2 := of_decide_eq_false g1_2
    refine .on (t := 7) rfl rfl ?_
    refine .rd (.move rfl) ?_
    refine .on (t := 7) rfl rfl ?_
    refine .rd (.move rfl) ?_
    refine .on (t := 7) rfl rfl ?_
    refine .rd (.nilCheck rfl) ?_
    refine .on (t := 7) rfl rfl ?_
    refine .rd (.fieldAddr fd45_0 rfl) ?_
    refine .on (t := 7) rfl rfl ?_
    refine .rd (.ld na42 rfl .head rfl) ?_
    refine .on (t := 7) rfl rfl ?_
    refine .rd (.lenL rfl rfl Try.underlying42 rfl) ?_
    refine .on (t := 7) rfl rfl ?_
    refine .rd (.ge rfl rfl) ?_
    refine .rd (.pickF rfl rfl) ?_
    refine .rd (.move rfl) ?_
    refine .split (t := 16) rfl (fun g1_11 => ?_) (fun g1_11 => ?_)
    · replace g1_11 := of_decide_eq_true g1_11
      refine .off (t := 16) rfl rfl rfl ?_
      refine .off (t := 16) rfl rfl rfl ?_
      refine .off (t := 16) rfl rfl rfl ?_
      refine .off (t := 16) rfl rfl rfl ?_
      refine .off (t := 16) rfl rfl rfl ?_
      refine .off (t := 16) rfl rfl rfl ?_
      refine .rd (.pickT rfl rfl) ?_
      refine .nil ?_
      refine .condT rfl ?_
      refine .seq ?_
      refine .region ?_   -- R2 ref.go:58
      refine .rd (.assign rfl) ?_
      refine .nil ?_
      refine .close (.cons .head (.cons .head (.cons .head (.cons .head .nil)))) (rnet_close _ _ _ _) ?_
      refine .retP Try.func20 (.cons (.tmp rfl) .nil) (.cons .head (.cons .head .nil)) ?_
      exact ⟨[_], ⟨qs, false, .inr ⟨rfl, by unfold twiceB; omega, rfl⟩, rfl, rfl⟩, rfl⟩
    · replace g1_11 := of_decide_eq_false g1_11
      refine .on (t := 16) rfl rfl ?_
      refine .rd (.move rfl) ?_
      refine .on (t := 16) rfl rfl ?_
      refine .rd (.nilCheck rfl) ?_
      refine .on (t := 16) rfl rfl ?_
      refine .rd (.fieldAddr fd45_0 rfl) ?_
      refine .on (t := 16) rfl rfl ?_
      refine .rd (.ld na42 rfl .head rfl) ?_
      refine .on (t := 16) rfl rfl ?_
      refine .rd (.lenL rfl rfl Try.underlying42 rfl) ?_
      refine .on (t := 16) rfl rfl ?_
      refine .rd (.ge rfl rfl) ?_
      refine .rd (.pickF rfl rfl) ?_
      refine .nil ?_
      refine .condP rfl (fun c1 => ?_) (fun c1 => ?_)
      · refine .seq ?_
        refine .region ?_   -- R2 ref.go:58
        refine .rd (.assign rfl) ?_
        refine .nil ?_
        refine .close (.cons .head (.cons .head (.cons .head (.cons .head .nil)))) (rnet_close _ _ _ _) ?_
        refine .retP Try.func20 (.cons (.tmp rfl) .nil) (.cons .head (.cons .head .nil)) ?_
        exact ⟨[_], ⟨qs, false, .inr ⟨rfl, by unfold twiceB; omega, rfl⟩, rfl, rfl⟩, rfl⟩
      · refine .skip ?_
        refine .seq ?_
        obtain ⟨j, rfl⟩ : ∃ j : Nat, i = j := ⟨i.toNat, by omega⟩
        have hj : j < qs.length := by omega
        obtain ⟨p, hp⟩ : ∃ p, qs[j]? = some p := ⟨_, List.getElem?_eq_getElem hj⟩
        have hfl : (qs.flatMap pcell).length = qs.length * 21 := flat_length pcell_len qs
        refine .tell (Knows.arrCap (.tail .head)) (fun hcap => ?_)
        refine .tell (φ := ∃ b o, sa = some ⟨b, o, none⟩) ((Knows.arr (.tail .head)).mono fun _ h => h.addr (by rw [flat_length pcell_len]; omega)) (fun hx => ?_)
        obtain ⟨bb, oo, rfl⟩ := hx
        refine .draws [4, 8, 11] [blk n [.slice (some ⟨bb, oo, none⟩) qs.length sc, .slice pa ap.length pc] 45, arr 32 21 (some ⟨bb, oo, none⟩) sc (qs.flatMap pcell)] (by kernel_rfl) ?_   -- R3 ref.go:60
        refine .rp 0 rfl (by kernel_rfl) (by kernel_rfl) (by kernel_rfl) (Reads.pure (.move rfl)) ?_
        refine .rp 1 rfl (by kernel_rfl) (by kernel_rfl) (by kernel_rfl) (Reads.pure (.move rfl)) ?_
        refine .rp 2 rfl (by kernel_rfl) (by kernel_rfl) (by kernel_rfl) (Reads.pure (.nilCheck rfl)) ?_
        refine .rp 3 rfl (by kernel_rfl) (by kernel_rfl) (by kernel_rfl) (Reads.pure (.fieldAddr fd45_0 rfl)) ?_
        refine .rd 4 rfl rfl (by kernel_rfl) (by kernel_rfl) (by kernel_rfl) (.ld na42 rfl .head rfl) (.cons .head (.cons .head .nil)) ?_
        refine .rp 5 rfl (by kernel_rfl) (by kernel_rfl) (by kernel_rfl) (Reads.pure (.move rfl)) ?_
        refine .rp 6 rfl (by kernel_rfl) (by kernel_rfl) (by kernel_rfl) (Reads.pure (.nilCheck rfl)) ?_
        refine .rp 7 rfl (by kernel_rfl) (by kernel_rfl) (by kernel_rfl) (Reads.pure (.fieldAddr fd45_0 rfl)) ?_
        refine .rd 8 rfl rfl (by kernel_rfl) (by kernel_rfl) (by kernel_rfl) (.ld na42 rfl .head rfl) (.cons .head (.cons .head .nil)) ?_
        refine .rp 9 rfl (by kernel_rfl) (by kernel_rfl) (by kernel_rfl) (Reads.pure (.move rfl)) ?_
        refine .rp 10 rfl (by kernel_rfl) (by kernel_rfl) (by kernel_rfl) (Reads.pure (.indexAddr Try.underlying42 ts32 rfl rfl (by omega) (by omega))) ?_
        refine .rd 11 rfl rfl (by kernel_rfl) (by kernel_rfl) (by kernel_rfl) (.loadN ia32 ts32 rfl rfl (Knows.elem pcell_len (by decide) (Knows.arr (.tail .head)) hp)) (.cons .head (.cons .head .nil)) ?_
        refine .ef 12 (by kernel_rfl) rfl (.buildOne (cs := mval p.1 p.2) Try.underlying42 ti32 (by decide) rfl rfl rfl (ones.of rfl)) ?_
        rintro _ _ ⟨bs, rfl, rfl⟩
        refine ⟨.inr ⟨_, (.cons (.tail .head) (.cons (.tail .head) .nil))⟩, ?_⟩
        refine .ef 13 (by kernel_rfl) rfl (.append rfl rfl Try.underlying42 ti32 rfl (ones.of rfl) (by decide) (by decide) rfl rfl (.tail (.tail .head)) (n := qs.length) (m := 1) (flat_length pcell_len _) (.srcBlk .head Try.underlying42 rfl (by decide)) (by omega)) ?_
        rintro _ _ ⟨ra, rc, rfl, rn, rfl⟩
        refine ⟨.inl (by kernel_rfl), ?_⟩
        refine .rp 14 rfl (by kernel_rfl) (by kernel_rfl) (by kernel_rfl) (Reads.pure (.nilCheck rfl)) ?_
        refine .rp 15 rfl (by kernel_rfl) (by kernel_rfl) (by kernel_rfl) (Reads.pure (.fieldAddr fd45_0 rfl)) ?_
        refine .ef0 16 (by kernel_rfl) rfl (.store ts42 rfl rfl (.tail (.tail .head)) rfl (Nat.le_of_ble_eq_true rfl)) ?_
        rintro _ _ rfl
        refine ⟨.inl (by kernel_rfl), ?_⟩
        refine .done (by kernel_rfl) ?_
        refine .seq ?_
        refine .region ?_   -- R4 ref.go:61
        refine .rd (.assign rfl) ?_
        refine .nil ?_
        refine .close (X := know fun w => ∀ q ∈ qs ++ [p], mat q.1 q.2 w) (.cons (.tail (.tail (.tail (.tail .head)))) .nil) (fun h H => sat.know_mono (fun w hw q hq => hw q (by rcases List.mem_append.1 hq with hq | hq; exact hq; obtain rfl := List.mem_singleton.1 hq; exact List.mem_of_getElem? hp)) H) ?_
        refine .close (X := rnet n (qs ++ [p]) ap) (.cons (.tail .head) (.cons (.tail .head) (.cons (.tail (.tail .head)) (.cons .head .nil)))) (fun h H => rnet_close (qs := qs ++ [p]) ra rc pa pc h (by rw [show (qs ++ [p]).flatMap pcell = qs.flatMap pcell ++ mval p.1 p.2 by simp [pcell], List.length_append]; exact H)) ?_
        refine .retP Try.func20 (.cons (.tmp rfl) .nil) (.cons .head (.cons (.tail .head) .nil)) ?_
        exact ⟨[_], ⟨_, true, .inl ⟨rfl, by omega, j, p, rfl, hp, rfl⟩, rfl, rfl⟩, rfl⟩

end Go.Proofs.Ytfbmbhajpmlffaa

