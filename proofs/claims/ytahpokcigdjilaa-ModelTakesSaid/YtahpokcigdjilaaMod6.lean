/- Steps through functions of the program, under conditions that each theorem states (part mod6 of a claim). -/
import Derived.Test.YtahpokcigdjilaaProg
import Derived.Test.YtahpokcigdjilaaMod5
namespace Go.Proofs.Ytahpokcigdjilaa
open Go Go.Sp

set_option linter.unusedVariables false

namespace mod6
theorem bld59_0_1_2_3_4_5_6_7_8_9_10_11 (x0 : Option Nat) (x1 : Option Nat) (x2 : Option Nat) (x3 : Option Nat) (x4 : Option Nat) (x5 : Option Nat) (x6 : Option Nat) (x7 : Option Nat) (x8 : Option Nat) (x9 : Option Nat) (x10 : Option Nat) (x11 : Option Nat) (w : World) : (Instr.build 59 (([0, 1, 2, 3, 4, 5, 6, 7, 8, 9, 10, 11] : List Nat).zip [.map x0, .map x1, .map x2, .map x3, .map x4, .map x5, .map x6, .map x7, .map x8, .map x9, .map x10, .map x11]).toArray).run Try.prog w = .ok (.agg #[.map x0, .map x1, .map x2, .map x3, .map x4, .map x5, .map x6, .map x7, .map x8, .map x9, .map x10, .map x11]) w := by kernel_rfl
theorem ts36 : TS Try.prog 36 12 := .of (by kernel_rfl)
theorem ia36 : IsAgg Try.prog 36 := ⟨_, Try.underlying36, trivial⟩
theorem ti36 : TI Try.prog 36 12 112 (.agg #[.int .i64 0, .int .i64 0, .int .i64 0, .int .i64 0, .int .i64 0, .int .i64 0, .int .i64 0, .int .i64 0, .string ⟨#[]⟩, .string ⟨#[]⟩, .int .i64 0, .bool false]) := .of (by kernel_rfl)
end mod6
open mod6

def S0 : CS := ⟨[], [], [], [], [], [], [], [], [], [], [], [], []⟩
theorem chk_new {c : Nat} {b : Bl} (h : Hp) (H : sat [blk c b.cells 59, mp encI inV b.m0 S0.calls, mp encI askV b.m1 S0.kinds, mp encI Value.bool b.m2 S0.done, mp encI txV b.m3 S0.values, mp encI Value.bool b.m4 S0.acked, mp encL inV b.m5 S0.sent, mp encL rowV b.m6 S0.offsets, mp enc3 rowV b.m7 S0.sends, mp encN rowV b.m8 S0.deletes, mp encS rowV b.m9 S0.gens, mp encP rowV b.m10 S0.commits, mp encI ptrV b.m11 S0.opened] h) : chk c .start 0 h := by
  refine ⟨S0, b, Rel.start, ?_⟩
  have e : Hp.ok (fun _ : Nat => (none : Option (Bool × Obj))) (fun _ => none) := fun _ => .inl rfl
  have l : Hp.le (fun _ : Nat => (none : Option (Bool × Obj))) (fun _ => none) := .refl _
  exact sat.join (h1 := h) (h2 := fun _ => none) (fun _ => .inr (.inl rfl)) (.refl _) (fun _ _ e => by simp at e) H ⟨_, _, e, l, l, trivial, _, _, e, l, l, trivial, _, _, e, l, l, trivial, _, _, e, l, l, trivial, _, _, e, l, l, trivial, _, _, e, l, l, trivial, trivial⟩
theorem calls_none {p : PS} {s : Sn} (h : wrongP p s = []) (hd : s.done = false) : p.calls s.id = none := by
  cases hc : p.calls s.id with
  | none => rfl
  | some i =>
    have : wrongP p s = wCall := if_pos (.inl ⟨hd, by rw [hc]; simp⟩)
    rw [this] at h; cases h
theorem go_here {p : PS} {i : Int} {l : List Sn} {k : Nat} {s : Sn} (hs : l[k]? = some s) (h : wrongP p s ≠ []) : checkGo p i (l.drop k) = (i, wrongP p s) := by
  obtain ⟨hk, e⟩ := List.getElem?_eq_some_iff.1 hs
  rw [List.drop_eq_getElem_cons hk, e, checkGo, if_neg h]
theorem go_on {p : PS} {i : Int} {l : List Sn} {k : Nat} {s : Sn} (hs : l[k]? = some s) (h : wrongP p s = []) : checkGo p i (l.drop k) = checkGo (noteP p i s) (i + 1) (l.drop (k + 1)) := by
  obtain ⟨hk, e⟩ := List.getElem?_eq_some_iff.1 hs
  rw [List.drop_eq_getElem_cons hk, e, checkGo, if_pos h]

set_option maxHeartbeats 1000000 in
set_option maxRecDepth 20000 in
theorem Check_ok (l : List Sn) (a : Option Addr) (c : Nat) (hl : l.length ≤ 1000000) : Cn Try.prog 9 [.slice a l.length c] (RowAt a (l.flatMap Sn.cells)) [] fun v G => v = .tuple #[.int .i64 (check l).1, .string (str (check l).2)] ∧ G = [] := by
  refine .enter Try.func9 rfl (by kernel_rfl) rfl fun R k => ?_
  refine .seq ?_
  refine .region ?_   -- R0 model.go:69
  refine .rd (.assign rfl) ?_
  refine .rd (.assign rfl) ?_
  refine .nil ?_
  refine .seq ?_
  refine .region ?_   -- R1 model.go:70
  refine .ef (.makeMap (enc := encI) (venc := inV)) ?_
  rintro _ _ ⟨m0, rfl, rfl⟩
  refine .ef (.makeMap (enc := encI) (venc := askV)) ?_
  rintro _ _ ⟨m1, rfl, rfl⟩
  refine .ef (.makeMap (enc := encI) (venc := Value.bool)) ?_
  rintro _ _ ⟨m2, rfl, rfl⟩
  refine .ef (.makeMap (enc := encI) (venc := txV)) ?_
  rintro _ _ ⟨m3, rfl, rfl⟩
  refine .ef (.makeMap (enc := encI) (venc := Value.bool)) ?_
  rintro _ _ ⟨m4, rfl, rfl⟩
  refine .ef (.makeMap (enc := encL) (venc := inV)) ?_
  rintro _ _ ⟨m5, rfl, rfl⟩
  refine .ef (.makeMap (enc := encL) (venc := (rowV (α := Int)))) ?_
  rintro _ _ ⟨m6, rfl, rfl⟩
  refine .ef (.makeMap (enc := enc3) (venc := (rowV (α := Sn)))) ?_
  rintro _ _ ⟨m7, rfl, rfl⟩
  refine .ef (.makeMap (enc := encN) (venc := (rowV (α := Mark)))) ?_
  rintro _ _ ⟨m8, rfl, rfl⟩
  refine .ef (.makeMap (enc := encS) (venc := (rowV (α := Mark)))) ?_
  rintro _ _ ⟨m9, rfl, rfl⟩
  refine .ef (.makeMap (enc := encP) (venc := (rowV (α := Nat)))) ?_
  rintro _ _ ⟨m10, rfl, rfl⟩
  refine .ef (.makeMap (enc := encI) (venc := ptrV)) ?_
  rintro _ _ ⟨m11, rfl, rfl⟩
  refine .rd (.build rfl (bld59_0_1_2_3_4_5_6_7_8_9_10_11 _ _ _ _ _ _ _ _ _ _ _ _)) ?_
  refine .ef (.box (l := Bl.cells (⟨m0, m1, m2, m3, m4, m5, m6, m7, m8, m9, m10, m11⟩ : Bl)) rfl rfl (ones.of rfl)) ?_
  rintro _ _ ⟨c0, rfl, rfl⟩
  refine .rd (.assign rfl) ?_
  refine .nil ?_
  refine .close (X := chk c0 .start 0) (B := [blk c0 (Bl.cells (⟨m0, m1, m2, m3, m4, m5, m6, m7, m8, m9, m10, m11⟩ : Bl)) 59, mp encI inV m0 S0.calls, mp encI askV m1 S0.kinds, mp encI Value.bool m2 S0.done, mp encI txV m3 S0.values, mp encI Value.bool m4 S0.acked, mp encL inV m5 S0.sent, mp encL (rowV (α := Int)) m6 S0.offsets, mp enc3 (rowV (α := Sn)) m7 S0.sends, mp encN (rowV (α := Mark)) m8 S0.deletes, mp encS (rowV (α := Mark)) m9 S0.gens, mp encP (rowV (α := Nat)) m10 S0.commits, mp encI ptrV m11 S0.opened]) (.cons .head (.cons (.tail (.tail (.tail (.tail (.tail (.tail (.tail (.tail (.tail (.tail (.tail .head))))))))))) (.cons (.tail (.tail (.tail (.tail (.tail (.tail (.tail (.tail (.tail (.tail .head)))))))))) (.cons (.tail (.tail (.tail (.tail (.tail (.tail (.tail (.tail (.tail .head))))))))) (.cons (.tail (.tail (.tail (.tail (.tail (.tail (.tail (.tail .head)))))))) (.cons (.tail (.tail (.tail (.tail (.tail (.tail (.tail .head))))))) (.cons (.tail (.tail (.tail (.tail (.tail (.tail .head)))))) (.cons (.tail (.tail (.tail (.tail (.tail .head))))) (.cons (.tail (.tail (.tail (.tail .head)))) (.cons (.tail (.tail (.tail .head))) (.cons (.tail (.tail .head)) (.cons (.tail .head) (.cons .head .nil))))))))))))) (chk_new (b := (⟨m0, m1, m2, m3, m4, m5, m6, m7, m8, m9, m10, m11⟩ : Bl))) ?_
  refine .seq ?_
  refine .seq ?_
  refine .region ?_   -- R2 model.go:71
  refine .rd (.move rfl) ?_
  refine .rd (.lenL rfl rfl Try.underlying22 rfl) ?_
  refine .rd (.move rfl) ?_
  refine .nil ?_
  refine .block ?_
  refine .loop (σ := Nat × PS) (fun ⟨i, p⟩ => i ≤ l.length ∧ check l = checkGo p (i : Int) (l.drop i)) (fun ⟨i, p⟩ => l.length - i) (fun ⟨i, p⟩ => [(4, .pointer (some ⟨c0, 0, none⟩)), (22, .slice a l.length c), (23, .int .i64 l.length), (24, .int .i64 (i : Nat))]) (fun ⟨i, p⟩ => [chk c0 p i, R]) (0, .start) ⟨Nat.zero_le _, rfl⟩ (.cons rfl (.cons rfl (.cons rfl (.cons rfl .nil)))) (.cons .head (.cons .head .nil)) (fun s' hI ih => ?_)
  obtain ⟨i, p⟩ := s'
  dsimp only at hI ih ⊢
  have hil := hI.1
  refine .seq ?_
  refine .region ?_   -- R3 model.go:71
  refine .rd (.lt rfl rfl) ?_
  refine .nil ?_
  refine .seq ?_
  refine .condP rfl (fun h3 => ?_) (fun h3 => ?_)
  · refine .skip ?_
    refine .seq ?_
    refine .block ?_
    refine .seq ?_
    obtain ⟨s, hs⟩ : ∃ s, l[i]? = some s := ⟨_, List.getElem?_eq_getElem (by omega)⟩
    refine .tell (φ := ∃ b o, a = some ⟨b, o, none⟩) (Knows.pick (.tail .head) (k.mono fun _ h => RowAt.addr h (by rw [flat_length Sn.cells_len]; omega))) (fun hh => ?_)
    obtain ⟨bb, oo, rfl⟩ := hh
    refine .region ?_   -- R4 model.go:71
    refine .rd (.move rfl) ?_
    refine .rd (.indexAddr Try.underlying22 ts36 rfl rfl (by omega) (by omega)) ?_
    refine .rd (.loadN ia36 ts36 rfl rfl (Knows.elem (f := Sn.cells) Sn.cells_len (by decide) (Knows.pick (.tail .head) k) hs)) ?_
    refine .ef (.alloc ti36 rfl (ones.of rfl)) ?_
    rintro _ _ ⟨b6, rfl, rfl⟩
    refine .rd (.assign rfl) ?_
    refine .ef0 (.storeAll (vs := s.cells) ts36 rfl rfl rfl .head rfl (ones.of rfl)) ?_
    rintro _ _ rfl
    refine .nil ?_
    refine .seq ?_
    refine .seq ?_
    refine .region ?_   -- R5 model.go:72
    refine .rd (.move rfl) ?_
    refine .rd (.ldN ia36 ts36 rfl .head rfl) ?_
    refine .fn rfl rfl (.cons (.tail .head) .nil) (fun _ _ _ => trivial) (wrong_ok c0 p i s (by omega)) (fun v G1 hq => ?_)
    obtain ⟨rfl, rfl⟩ := hq
    simp only [List.cons_append, List.nil_append]
    refine .rd (.assign rfl) ?_
    refine .nil ?_
    refine .seq ?_
    refine .region ?_   -- R6 model.go:72
    refine .rd (.move rfl) ?_
    refine .rd (.neT (m := []) rfl rfl) ?_
    refine .nil ?_
    refine .condN rfl (fun h6 => ?_) (fun h6 => ?_)
    · refine .seq ?_
      refine .region ?_   -- R7 model.go:73
      refine .rd (.move rfl) ?_
      refine .rd (.move rfl) ?_
      refine .rd (.assign rfl) ?_
      refine .rd (.assign rfl) ?_
      refine .nil ?_
      rw [hI.2, go_here hs h6]
      refine .retP Try.func9 (.cons (.tmp rfl) (.cons (.tmp rfl) .nil)) (.cons (.tail (.tail .head)) .nil) ?_
      exact ⟨[], ⟨rfl, rfl⟩, rfl⟩
    · refine .skip ?_
      refine .region ?_   -- R8 model.go:75
      refine .rd (.move rfl) ?_
      refine .rd (.move rfl) ?_
      refine .rd (.ldN ia36 ts36 rfl (.tail .head) rfl) ?_
      refine .fn rfl rfl (.cons .head .nil) (fun _ _ _ => trivial) (note_ok c0 p i (i : Int) s (by omega) (calls_none h6)) (fun v G1 hq => ?_)
      obtain rfl := hq
      simp only [List.cons_append, List.nil_append]
      refine .nil ?_
      refine .inBlock ?_
      refine .region ?_   -- R9 model.go:71
      refine .rd (.add rfl rfl (by omega) (by omega)) ?_
      refine .rd (.move rfl) ?_
      refine .nil ?_
      exact (ih (i + 1, noteP p i s) ⟨by show i + 1 ≤ _; omega, by show check l = checkGo (noteP p i s) ((i + 1 : Nat) : Int) _; rw [hI.2, go_on hs h6]; rfl⟩ (by show l.length - (i + 1) < l.length - i; omega)).to (.cons rfl (.cons rfl (.cons rfl (.cons rfl .nil)))) (.cons .head (.cons (.tail .head) .nil))
  · refine .exit rfl ?_
    refine .seq ?_
    refine .region ?_   -- R10 model.go:77
    refine .rd (.assign rfl) ?_
    refine .rd (.assign rfl) ?_
    refine .nil ?_
    obtain rfl : i = l.length := by omega
    rw [hI.2, List.drop_length]
    refine .retP Try.func9 (.cons (.tmp rfl) (.cons (.tmp rfl) .nil)) (.cons (.tail .head) .nil) ?_
    exact ⟨[], ⟨rfl, rfl⟩, rfl⟩

end Go.Proofs.Ytahpokcigdjilaa

