/- Steps through functions of the program, under conditions that each theorem states (part net3 of a claim). -/
import Derived.Test.YtfbmbhajpmlffaaProg
import Derived.Test.YtfbmbhajpmlffaaL8
import Derived.Test.YtfbmbhajpmlffaaDefs
import Derived.Test.YtfbmbhajpmlffaaNet2
import Derived.Test.YtfbmbhajpmlffaaNet1
namespace Go.Proofs.Ytfbmbhajpmlffaa
open Go Go.Sp

set_option linter.unusedVariables false

namespace net3
theorem fd32_1 : FD Try.prog 32 1 1 := .of Try.underlying32 (by kernel_rfl)
theorem na3 : NotAgg Try.prog 3 := ⟨_, Try.underlying3, trivial⟩
theorem fd32_2 : FD Try.prog 32 2 2 := .of Try.underlying32 (by kernel_rfl)
theorem fd57_0 : FD Try.prog 57 0 0 := .of Try.underlying57 (by kernel_rfl)
theorem fd55_0 : FD Try.prog 55 0 0 := .of Try.underlying55 (by kernel_rfl)
theorem na42 : NotAgg Try.prog 42 := ⟨_, Try.underlying42, trivial⟩
theorem ia32 : IsAgg Try.prog 32 := ⟨_, Try.underlying32, trivial⟩
theorem ts32 : TS Try.prog 32 21 := .of (by kernel_rfl)
theorem ti32 : TI Try.prog 32 21 232 (.agg #[.int .i64 0, .int .i64 0, .int .i64 0, .int .i64 0, .int .i64 0, .int .i64 0, .int .i64 0, .int .i64 0, .int .i64 0, .int .i64 0, .int .i64 0, .int .i64 0, .int .i64 0, .int .i64 0, .int .i64 0, .int .i64 0, .string ⟨#[]⟩, .string ⟨#[]⟩, .slice none 0 0, .slice none 0 0, .slice none 0 0]) := .of (by kernel_rfl)
theorem ts42 : TS Try.prog 42 1 := .of (by kernel_rfl)
end net3
open net3

theorem net_snoc {n ps pt m s'} (a : Option Addr) (c mb : Nat) : ∀ h, sat [blk n [.slice a (ps.length + 1) c, .map (some mb)] 57, arr 32 21 a c (ps.flatMap pcell ++ mval m s'), sat (owms ps), owm m s', mp encP Value.bool mb pt] h → net n (ps ++ [(m, s')]) pt h := by
  intro h H
  refine net_close a c mb h ?_
  have e1 : (ps ++ [(m, s')]).length = ps.length + 1 := by simp
  have e2 : (ps ++ [(m, s')]).flatMap pcell = ps.flatMap pcell ++ mval m s' := by simp [pcell]
  rw [e1, e2]
  refine sat.cons (fun h H => sat.cons (fun h H => ?_) H) H
  obtain ⟨h1, h2, ok, l1, l2, a, h3, h4, ok2, m1, m2, b, c⟩ := H
  refine ⟨Hp.un h1 h3, h4, (Hp.ok_un (ok.mono (.refl _) m2).symm ok2.symm).symm, Hp.un_le l1 (m1.trans l2), m2.trans l2, ?_, c⟩
  have : owms (ps ++ [(m, s')]) = owms ps ++ [owm m s'] := by simp [owms]
  rw [this]
  exact sat.all_snoc ⟨h3, h1, (ok.mono (.refl _) m1).symm, Hp.le_un_right (ok.mono (.refl _) m1), Hp.le_un_left _ _, b, h1, fun _ => none, fun _ => .inr (.inl rfl), .refl _, fun _ _ e => by simp at e, a, trivial⟩
def sentS (ps : List Pm) (pt : Pt) (m : Msg) : Bool := !(partedS pt m.hd.frm m.hd.to || decide (500 ≤ ps.length))


theorem Send_ok (n ps pt) (m : Msg) (s : Ms) (hok : m.ok) : Cn Try.prog 10 [.pointer (some ⟨n, 0, none⟩), .agg (mval m s).toArray] (mat m s) [net n ps pt] fun v G =>
    (∃ s', sentS ps pt m = true ∧ v = .bool true ∧ G = [net n (ps ++ [(m, s')]) pt]) ∨ (sentS ps pt m = false ∧ v = .bool false ∧ G = [net n ps pt]) := by
  refine .enter Try.func10 rfl (by kernel_rfl) rfl fun R k => ?_
  refine .seq ?_
  refine .region ?_   -- R0 network.go:51
  refine .ef (.box (l := mval m s) rfl rfl (ones.of rfl)) ?_
  rintro _ _ ⟨b3, rfl, rfl⟩
  refine .rd (.assign rfl) ?_
  refine .nil ?_
  refine .seq ?_
  refine .seq ?_
  refine .region ?_   -- R1 network.go:52
  refine .rd (.move rfl) ?_
  refine .rd (.fieldAddr fd32_1 rfl) ?_
  refine .rd (.ld na3 rfl .head rfl) ?_
  refine .rd (.fieldAddr fd32_2 rfl) ?_
  refine .rd (.ld na3 rfl .head rfl) ?_
  refine .fn rfl rfl (.cons (.tail .head) .nil) (fun _ _ _ => trivial) (Parted_ok n ps pt m.hd.frm m.hd.to) (fun v G1 hq => ?_)
  obtain ⟨rfl, rfl⟩ := hq
  simp only [List.cons_append, List.nil_append]
  refine .rd (.move rfl) ?_
  refine .split (t := 11) rfl (fun g1_6 => ?_) (fun g1_6 => ?_)
  · refine .off (t := 11) rfl rfl rfl ?_
    refine .off (t := 11) rfl rfl rfl ?_
    refine .off (t := 11) rfl rfl rfl ?_
    refine .rd (.pickT rfl rfl) ?_
    refine .nil ?_
    refine .condT rfl ?_
    refine .seq ?_
    refine .region ?_   -- R2 network.go:53
    refine .rd (.assign rfl) ?_
    refine .nil ?_
    refine .retP Try.func10 (.cons (.tmp rfl) .nil) (.cons .head (.cons (.tail .head) .nil)) ?_
    exact ⟨[_], .inr ⟨by simp [sentS, *] <;> omega, rfl, rfl⟩, rfl⟩
  · refine .on (t := 11) rfl rfl ?_
    refine .rd (.move rfl) ?_
    refine .on (t := 11) rfl rfl ?_
    refine .fn rfl rfl (.cons .head .nil) (fun _ _ _ => trivial) (Len_ok n ps pt) (fun v G1 hq => ?_)
    obtain ⟨rfl, rfl⟩ := hq
    simp only [List.cons_append, List.nil_append]
    refine .on (t := 11) rfl rfl ?_
    refine .rd (.ge rfl rfl) ?_
    refine .rd (.pickF rfl rfl) ?_
    refine .nil ?_
    refine .condP rfl (fun c1 => ?_) (fun c1 => ?_)
    · refine .seq ?_
      refine .region ?_   -- R2 network.go:53
      refine .rd (.assign rfl) ?_
      refine .nil ?_
      refine .retP Try.func10 (.cons (.tmp rfl) .nil) (.cons .head (.cons (.tail .head) .nil)) ?_
      exact ⟨[_], .inr ⟨by simp [sentS, *] <;> omega, rfl, rfl⟩, rfl⟩
    · refine .skip ?_
      refine .seq ?_
      refine .open_ .head net_open (fun x _ => ?_)
      obtain ⟨sa, sc, mb⟩ := x
      simp only [List.cons_append, List.nil_append]
      refine .draws [5, 6] [blk n [.slice sa ps.length sc, .map (some mb)] 57, blk b3 (mval m s) 32] (by kernel_rfl) ?_   -- R3 network.go:55
      refine .rp 0 rfl (by kernel_rfl) (by kernel_rfl) (by kernel_rfl) (Reads.pure (.move rfl)) ?_
      refine .rp 1 rfl (by kernel_rfl) (by kernel_rfl) (by kernel_rfl) (Reads.pure (.move rfl)) ?_
      refine .rp 2 rfl (by kernel_rfl) (by kernel_rfl) (by kernel_rfl) (Reads.pure (.nilCheck rfl)) ?_
      refine .rp 3 rfl (by kernel_rfl) (by kernel_rfl) (by kernel_rfl) (Reads.pure (.fieldAddr fd57_0 rfl)) ?_
      refine .rp 4 rfl (by kernel_rfl) (by kernel_rfl) (by kernel_rfl) (Reads.pure (.fieldAddr fd55_0 rfl)) ?_
      refine .rd 5 rfl rfl (by kernel_rfl) (by kernel_rfl) (by kernel_rfl) (.ld na42 rfl .head rfl) (.cons .head (.cons (.tail (.tail (.tail .head))) .nil)) ?_
      refine .rd 6 rfl rfl (by kernel_rfl) (by kernel_rfl) (by kernel_rfl) (.ldN ia32 ts32 rfl (.tail .head) rfl) (.cons .head (.cons (.tail (.tail (.tail .head))) .nil)) ?_
      refine .ef 7 (by kernel_rfl) rfl (.fn rfl rfl .nil (Knows.pick (.tail (.tail (.tail (.tail (.tail .head))))) (k.mono fun _ h => h)) (copied_ok m s hok)) ?_
      rintro v _ ⟨G1, hq, rfl⟩
      obtain ⟨s', rfl, rfl⟩ := hq
      simp only [List.cons_append, List.nil_append]
      refine ⟨.inr ⟨_, (.cons (.tail .head) (.cons (.tail (.tail (.tail (.tail .head)))) .nil))⟩, ?_⟩
      refine .ef 8 (by kernel_rfl) rfl (.buildOne (cs := mval m s') Try.underlying42 ti32 (by decide) rfl rfl rfl (ones.of rfl)) ?_
      rintro _ _ ⟨bs, rfl, rfl⟩
      refine ⟨.inr ⟨_, (.cons (.tail (.tail .head)) (.cons (.tail (.tail (.tail (.tail (.tail .head))))) .nil))⟩, ?_⟩
      refine .ef 9 (by kernel_rfl) rfl (.append rfl rfl Try.underlying42 ti32 rfl (ones.of rfl) (by decide) (by decide) rfl rfl (.tail (.tail (.tail .head))) (n := ps.length) (m := 1) (flat_length pcell_len _) (.srcBlk .head Try.underlying42 rfl (by decide)) (by omega)) ?_
      rintro _ _ ⟨ra, rc, rfl, rn, rfl⟩
      refine ⟨.inl (by kernel_rfl), ?_⟩
      refine .rp 10 rfl (by kernel_rfl) (by kernel_rfl) (by kernel_rfl) (Reads.pure (.nilCheck rfl)) ?_
      refine .rp 11 rfl (by kernel_rfl) (by kernel_rfl) (by kernel_rfl) (Reads.pure (.fieldAddr fd57_0 rfl)) ?_
      refine .rp 12 rfl (by kernel_rfl) (by kernel_rfl) (by kernel_rfl) (Reads.pure (.fieldAddr fd55_0 rfl)) ?_
      refine .ef0 13 (by kernel_rfl) rfl (.store ts42 rfl rfl (.tail (.tail (.tail .head))) rfl (Nat.le_of_ble_eq_true rfl)) ?_
      rintro _ _ rfl
      refine ⟨.inl (by kernel_rfl), ?_⟩
      refine .done (by kernel_rfl) ?_
      refine .seq ?_
      refine .region ?_   -- R4 network.go:56
      refine .rd (.assign rfl) ?_
      refine .nil ?_
      refine .close (.cons .head (.cons .head (.cons (.tail (.tail .head)) (.cons (.tail .head) (.cons (.tail .head) .nil))))) (net_snoc _ _ _) ?_
      refine .retP Try.func10 (.cons (.tmp rfl) .nil) (.cons .head (.cons (.tail (.tail .head)) .nil)) ?_
      exact ⟨[_], .inl ⟨s', by simp [sentS, *] <;> omega, rfl, rfl⟩, rfl⟩

end Go.Proofs.Ytfbmbhajpmlffaa

