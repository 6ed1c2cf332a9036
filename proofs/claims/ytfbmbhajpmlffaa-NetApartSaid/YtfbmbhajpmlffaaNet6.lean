/- Steps through functions of the program, under conditions that each theorem states (part net6 of a claim). -/
import Derived.Test.YtfbmbhajpmlffaaProg
import Derived.Test.YtfbmbhajpmlffaaL9
import Derived.Test.YtfbmbhajpmlffaaDefs
import Derived.Test.YtfbmbhajpmlffaaNet5
namespace Go.Proofs.Ytfbmbhajpmlffaa
open Go Go.Sp

set_option linter.unusedVariables false

namespace net6
theorem fd57_0 : FD Try.prog 57 0 0 := .of Try.underlying57 (by kernel_rfl)
theorem fd55_0 : FD Try.prog 55 0 0 := .of Try.underlying55 (by kernel_rfl)
theorem na42 : NotAgg Try.prog 42 := ⟨_, Try.underlying42, trivial⟩
theorem ts32 : TS Try.prog 32 21 := .of (by kernel_rfl)
theorem ia32 : IsAgg Try.prog 32 := ⟨_, Try.underlying32, trivial⟩
theorem ti32 : TI Try.prog 32 21 232 (.agg #[.int .i64 0, .int .i64 0, .int .i64 0, .int .i64 0, .int .i64 0, .int .i64 0, .int .i64 0, .int .i64 0, .int .i64 0, .int .i64 0, .int .i64 0, .int .i64 0, .int .i64 0, .int .i64 0, .int .i64 0, .int .i64 0, .string ⟨#[]⟩, .string ⟨#[]⟩, .slice none 0 0, .slice none 0 0, .slice none 0 0]) := .of (by kernel_rfl)
theorem ts42 : TS Try.prog 42 1 := .of (by kernel_rfl)
theorem fd57_1 : FD Try.prog 57 1 1 := .of Try.underlying57 (by kernel_rfl)
theorem na53 : NotAgg Try.prog 53 := ⟨_, Try.underlying53, trivial⟩
end net6
open net6

theorem owms_mat {Γ Γ' : List SProp} {ps : List Pm} {j : Nat} {p : Pm} (h : ps[j]? = some p) (q : Pick (sat (owms ps)) Γ Γ') : Knows Γ (mat p.1 p.2) :=
  Knows.pick q fun A w s => by
    have s1 : Sat A w ([sat (owms ps)]) := s
    obtain ⟨_, _, s2⟩ := Sat.open_ (owms_out h) s1
    exact owm_mat .head A w s2
def twiceB (ps : List Pm) (i : Int) : Prop := 0 ≤ i ∧ i < ps.length ∧ ps.length < 500
def TwiceR (ps : List Pm) (i : Int) (ps' : List Pm) (ok : Bool) : Prop :=
  (ok = true ∧ ps.length < 500 ∧ ∃ j p s', i = (j : Nat) ∧ ps[j]? = some p ∧ ps' = ps ++ [(p.1, s')]) ∨ (ok = false ∧ ¬ twiceB ps i ∧ ps' = ps)

theorem Twice_ok (n ps pt) (i : Int) (hok : ∀ p ∈ ps, p.1.ok) : Cn Try.prog 19 [.pointer (some ⟨n, 0, none⟩), .int .i64 i] (fun _ => True) [net n ps pt] fun v G => ∃ ps' ok, TwiceR ps i ps' ok ∧ v = .bool ok ∧ G = [net n ps' pt] := by
  refine .enter Try.func19 rfl (by kernel_rfl) rfl fun R k => ?_
  refine .seq ?_
  refine .region ?_   -- R0 network.go:69
  refine .rd (.assign rfl) ?_
  refine .nil ?_
  refine .seq ?_
  refine .seq ?_
  refine .region ?_   -- R1 network.go:70
  refine .rd (.move rfl) ?_
  refine .rd (.lt rfl rfl) ?_
  refine .rd (.move rfl) ?_
  refine .split (t := 7) rfl (fun g1_2 => ?_) (fun g1_2 => ?_)
  · replace g1_2 := of_decide_eq_true g1_2
    refine .off (t := 7) rfl rfl rfl ?_
    refine .off (t := 7) rfl rfl rfl ?_
    refine .off (t := 7) rfl rfl rfl ?_
    refine .off (t := 7) rfl rfl rfl ?_
    refine .rd (.pickT rfl rfl) ?_
    refine .rd (.move rfl) ?_
    refine .off (t := 13) rfl rfl rfl ?_
    refine .off (t := 13) rfl rfl rfl ?_
    refine .off (t := 13) rfl rfl rfl ?_
    refine .rd (.pickT rfl rfl) ?_
    refine .nil ?_
    refine .condT rfl ?_
    refine .seq ?_
    refine .region ?_   -- R2 network.go:71
    refine .rd (.assign rfl) ?_
    refine .nil ?_
    refine .retP Try.func19 (.cons (.tmp rfl) .nil) (.cons .head (.cons .head .nil)) ?_
    exact ⟨[_], ⟨ps, false, .inr ⟨rfl, by unfold twiceB; omega, rfl⟩, rfl, rfl⟩, rfl⟩
  · replace g1_2 := of_decide_eq_false g1_2
    refine .on (t := 7) rfl rfl ?_
    refine .rd (.move rfl) ?_
    refine .on (t := 7) rfl rfl ?_
    refine .rd (.move rfl) ?_
    refine .on (t := 7) rfl rfl ?_
    refine .fn rfl rfl (.cons .head .nil) (fun _ _ _ => trivial) (Len_ok n ps pt) (fun v G1 hq => ?_)
    obtain ⟨rfl, rfl⟩ := hq
    simp only [List.cons_append, List.nil_append]
    refine .on (t := 7) rfl rfl ?_
    refine .rd (.ge rfl rfl) ?_
    refine .rd (.pickF rfl rfl) ?_
    refine .rd (.move rfl) ?_
    refine .split (t := 13) rfl (fun g1_8 => ?_) (fun g1_8 => ?_)
    · replace g1_8 := of_decide_eq_true g1_8
      refine .off (t := 13) rfl rfl rfl ?_
      refine .off (t := 13) rfl rfl rfl ?_
      refine .off (t := 13) rfl rfl rfl ?_
      refine .rd (.pickT rfl rfl) ?_
      refine .nil ?_
      refine .condT rfl ?_
      refine .seq ?_
      refine .region ?_   -- R2 network.go:71
      refine .rd (.assign rfl) ?_
      refine .nil ?_
      refine .retP Try.func19 (.cons (.tmp rfl) .nil) (.cons .head (.cons .head .nil)) ?_
      exact ⟨[_], ⟨ps, false, .inr ⟨rfl, by unfold twiceB; omega, rfl⟩, rfl, rfl⟩, rfl⟩
    · replace g1_8 := of_decide_eq_false g1_8
      refine .on (t := 13) rfl rfl ?_
      refine .rd (.move rfl) ?_
      refine .on (t := 13) rfl rfl ?_
      refine .fn rfl rfl (.cons .head .nil) (fun _ _ _ => trivial) (Len_ok n ps pt) (fun v G1 hq => ?_)
      obtain ⟨rfl, rfl⟩ := hq
      simp only [List.cons_append, List.nil_append]
      refine .on (t := 13) rfl rfl ?_
      refine .rd (.ge rfl rfl) ?_
      refine .rd (.pickF rfl rfl) ?_
      refine .nil ?_
      refine .condP rfl (fun c1 => ?_) (fun c1 => ?_)
      · refine .seq ?_
        refine .region ?_   -- R2 network.go:71
        refine .rd (.assign rfl) ?_
        refine .nil ?_
        refine .retP Try.func19 (.cons (.tmp rfl) .nil) (.cons .head (.cons .head .nil)) ?_
        exact ⟨[_], ⟨ps, false, .inr ⟨rfl, by unfold twiceB; omega, rfl⟩, rfl, rfl⟩, rfl⟩
      · refine .skip ?_
        refine .seq ?_
        refine .open_ .head net_open (fun x _ => ?_)
        obtain ⟨sa, sc, mb⟩ := x
        simp only [List.cons_append, List.nil_append]
        obtain ⟨j, rfl⟩ : ∃ j : Nat, i = j := ⟨i.toNat, by omega⟩
        have hj : j < ps.length := by omega
        obtain ⟨p, hp⟩ : ∃ p, ps[j]? = some p := ⟨_, List.getElem?_eq_getElem hj⟩
        have hfl : (ps.flatMap pcell).length = ps.length * 21 := flat_length pcell_len ps
        refine .tell (φ := ∃ b o, sa = some ⟨b, o, none⟩) ((Knows.arr (.tail .head)).mono fun _ h => h.addr (by omega)) (fun hx => ?_)
        obtain ⟨bb, oo, rfl⟩ := hx
        refine .draws [5, 10, 13] [blk n [.slice (some ⟨bb, oo, none⟩) ps.length sc, .map (some mb)] 57, arr 32 21 (some ⟨bb, oo, none⟩) sc (ps.flatMap pcell)] (by kernel_rfl) ?_   -- R3 network.go:73
        refine .rp 0 rfl (by kernel_rfl) (by kernel_rfl) (by kernel_rfl) (Reads.pure (.move rfl)) ?_
        refine .rp 1 rfl (by kernel_rfl) (by kernel_rfl) (by kernel_rfl) (Reads.pure (.move rfl)) ?_
        refine .rp 2 rfl (by kernel_rfl) (by kernel_rfl) (by kernel_rfl) (Reads.pure (.nilCheck rfl)) ?_
        refine .rp 3 rfl (by kernel_rfl) (by kernel_rfl) (by kernel_rfl) (Reads.pure (.fieldAddr fd57_0 rfl)) ?_
        refine .rp 4 rfl (by kernel_rfl) (by kernel_rfl) (by kernel_rfl) (Reads.pure (.fieldAddr fd55_0 rfl)) ?_
        refine .rd 5 rfl rfl (by kernel_rfl) (by kernel_rfl) (by kernel_rfl) (.ld na42 rfl .head rfl) (.cons .head (.cons .head .nil)) ?_
        refine .rp 6 rfl (by kernel_rfl) (by kernel_rfl) (by kernel_rfl) (Reads.pure (.move rfl)) ?_
        refine .rp 7 rfl (by kernel_rfl) (by kernel_rfl) (by kernel_rfl) (Reads.pure (.nilCheck rfl)) ?_
        refine .rp 8 rfl (by kernel_rfl) (by kernel_rfl) (by kernel_rfl) (Reads.pure (.fieldAddr fd57_0 rfl)) ?_
        refine .rp 9 rfl (by kernel_rfl) (by kernel_rfl) (by kernel_rfl) (Reads.pure (.fieldAddr fd55_0 rfl)) ?_
        refine .rd 10 rfl rfl (by kernel_rfl) (by kernel_rfl) (by kernel_rfl) (.ld na42 rfl .head rfl) (.cons .head (.cons .head .nil)) ?_
        refine .rp 11 rfl (by kernel_rfl) (by kernel_rfl) (by kernel_rfl) (Reads.pure (.move rfl)) ?_
        refine .rp 12 rfl (by kernel_rfl) (by kernel_rfl) (by kernel_rfl) (Reads.pure (.indexAddr Try.underlying42 ts32 rfl rfl (by omega) (by omega))) ?_
        refine .rd 13 rfl rfl (by kernel_rfl) (by kernel_rfl) (by kernel_rfl) (.loadN ia32 ts32 rfl rfl (Knows.elem pcell_len (by decide) (Knows.arr (.tail .head)) hp)) (.cons .head (.cons .head .nil)) ?_
        refine .ef 14 (by kernel_rfl) rfl (.fn rfl rfl .nil (owms_mat hp (.tail (.tail .head))) (copied_ok p.1 p.2 (hok p (List.mem_of_getElem? hp)))) ?_
        rintro v _ ⟨G1, hq, rfl⟩
        obtain ⟨s', rfl, rfl⟩ := hq
        simp only [List.cons_append, List.nil_append]
        refine ⟨.inr ⟨_, (.cons (.tail .head) (.cons (.tail .head) .nil))⟩, ?_⟩
        refine .ef 15 (by kernel_rfl) rfl (.buildOne (cs := mval p.1 s') Try.underlying42 ti32 (by decide) rfl rfl rfl (ones.of rfl)) ?_
        rintro _ _ ⟨bs, rfl, rfl⟩
        refine ⟨.inr ⟨_, (.cons (.tail (.tail .head)) (.cons (.tail (.tail .head)) .nil))⟩, ?_⟩
        refine .ef 16 (by kernel_rfl) rfl (.append rfl rfl Try.underlying42 ti32 rfl (ones.of rfl) (by decide) (by decide) rfl rfl (.tail (.tail (.tail .head))) (n := ps.length) (m := 1) (flat_length pcell_len _) (.srcBlk .head Try.underlying42 rfl (by decide)) (by omega)) ?_
        rintro _ _ ⟨ra, rc, rfl, rn, rfl⟩
        refine ⟨.inl (by kernel_rfl), ?_⟩
        refine .rp 17 rfl (by kernel_rfl) (by kernel_rfl) (by kernel_rfl) (Reads.pure (.nilCheck rfl)) ?_
        refine .rp 18 rfl (by kernel_rfl) (by kernel_rfl) (by kernel_rfl) (Reads.pure (.fieldAddr fd57_0 rfl)) ?_
        refine .rp 19 rfl (by kernel_rfl) (by kernel_rfl) (by kernel_rfl) (Reads.pure (.fieldAddr fd55_0 rfl)) ?_
        refine .ef0 20 (by kernel_rfl) rfl (.store ts42 rfl rfl (.tail (.tail (.tail .head))) rfl (Nat.le_of_ble_eq_true rfl)) ?_
        rintro _ _ rfl
        refine ⟨.inl (by kernel_rfl), ?_⟩
        refine .done (by kernel_rfl) ?_
        refine .seq ?_
        refine .region ?_   -- R4 network.go:74
        refine .rd (.assign rfl) ?_
        refine .nil ?_
        refine .close (.cons .head (.cons .head (.cons (.tail (.tail .head)) (.cons (.tail .head) (.cons (.tail .head) .nil))))) (net_snoc _ _ _) ?_
        refine .retP Try.func19 (.cons (.tmp rfl) .nil) (.cons .head (.cons (.tail .head) .nil)) ?_
        exact ⟨[_], ⟨_, true, .inl ⟨rfl, by omega, j, p, s', rfl, hp, rfl⟩, rfl, rfl⟩, rfl⟩

theorem Join_ok (n ps pt) (a b : Int) : Cn Try.prog 22 [.pointer (some ⟨n, 0, none⟩), .int .i64 a, .int .i64 b] (fun _ => True) [net n ps pt] fun v G => v = .tuple #[] ∧ G = [net n ps (mdel pt (endsS a b))] := by
  refine .enter Try.func22 rfl (by kernel_rfl) rfl fun R k => ?_
  refine .open_ .head net_open (fun x _ => ?_)
  obtain ⟨sa, sc, mb⟩ := x
  simp only [List.cons_append, List.nil_append]
  refine .draws [3] [blk n [.slice sa ps.length sc, .map (some mb)] 57] (by kernel_rfl) ?_   -- R0 network.go:85
  refine .rp 0 rfl (by kernel_rfl) (by kernel_rfl) (by kernel_rfl) (Reads.pure (.move rfl)) ?_
  refine .rp 1 rfl (by kernel_rfl) (by kernel_rfl) (by kernel_rfl) (Reads.pure (.nilCheck rfl)) ?_
  refine .rp 2 rfl (by kernel_rfl) (by kernel_rfl) (by kernel_rfl) (Reads.pure (.fieldAddr fd57_1 rfl)) ?_
  refine .rd 3 rfl rfl (by kernel_rfl) (by kernel_rfl) (by kernel_rfl) (.ld na53 rfl .head rfl) (.cons .head .nil) ?_
  refine .rp 4 rfl (by kernel_rfl) (by kernel_rfl) (by kernel_rfl) (Reads.pure (.move rfl)) ?_
  refine .rp 5 rfl (by kernel_rfl) (by kernel_rfl) (by kernel_rfl) (Reads.pure (.move rfl)) ?_
  refine .ef 6 (by kernel_rfl) rfl (.fn rfl rfl .nil (fun _ _ _ => trivial) (ends_ok _ _)) ?_
  rintro v _ ⟨G1, hq, rfl⟩
  obtain ⟨rfl, rfl⟩ := hq
  simp only [List.nil_append]
  refine ⟨.inr ⟨_, (.cons .head .nil)⟩, ?_⟩
  refine .ef0 7 (by kernel_rfl) rfl (.mapDelete kl60 rfl rfl Try.underlying53 rfl rfl (.tail (.tail (.tail .head)))) ?_
  rintro _ _ rfl
  refine ⟨.inl (by kernel_rfl), ?_⟩
  refine .done (by kernel_rfl) ?_
  refine .close (.cons (.tail .head) (.cons (.tail .head) (.cons (.tail .head) (.cons .head .nil)))) (net_close _ _ _) ?_
  refine .endP Try.func22 .nil (.cons .head (.cons .head .nil)) ?_
  exact ⟨[_], ⟨rfl, rfl⟩, rfl⟩

end Go.Proofs.Ytfbmbhajpmlffaa

