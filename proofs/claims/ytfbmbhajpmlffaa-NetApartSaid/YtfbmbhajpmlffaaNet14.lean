/- Steps through functions of the program, under conditions that each theorem states (part net14 of a claim). -/
import Derived.Test.YtfbmbhajpmlffaaProg
import Derived.Test.YtfbmbhajpmlffaaL9
import Derived.Test.YtfbmbhajpmlffaaDefs
import Derived.Test.YtfbmbhajpmlffaaNet8
namespace Go.Proofs.Ytfbmbhajpmlffaa
open Go Go.Sp

set_option linter.unusedVariables false

namespace net14
theorem ti32 : TI Try.prog 32 21 232 (.agg #[.int .i64 0, .int .i64 0, .int .i64 0, .int .i64 0, .int .i64 0, .int .i64 0, .int .i64 0, .int .i64 0, .int .i64 0, .int .i64 0, .int .i64 0, .int .i64 0, .int .i64 0, .int .i64 0, .int .i64 0, .int .i64 0, .string ⟨#[]⟩, .string ⟨#[]⟩, .slice none 0 0, .slice none 0 0, .slice none 0 0]) := .of (by kernel_rfl)
theorem ts32 : TS Try.prog 32 21 := .of (by kernel_rfl)
theorem fd32_3 : FD Try.prog 32 3 3 := .of Try.underlying32 (by kernel_rfl)
theorem na3 : NotAgg Try.prog 3 := ⟨_, Try.underlying3, trivial⟩
end net14
open net14

def toM (a b c : Int) : Msg := ⟨toS a b c, [], [], []⟩
def zs : Ms := ⟨none, 0, none, 0, none, 0, []⟩
theorem mat_toM (a b c : Int) (w : World) : mat (toM a b c) zs w := ⟨rfl, .inl rfl, .inl rfl, .inl rfl, fun _ h => by cases h⟩
theorem ok_toM (a b c : Int) : (toM a b c).ok := ⟨by show 0 * 64 ≤ _; decide, by show 0 * 32 ≤ _; decide, by show 0 * 8 ≤ _; decide, fun _ h => by cases h⟩
theorem to_ok' (a b c : Int) : Cn Try.prog 11 [.int .i64 a, .int .i64 b, .int .i64 c] (fun _ => True) [] fun v G => v = .agg (mval (toM a b c) zs).toArray ∧ G = [] := to_ok a b c
theorem Send_yes {n ps pt} {m : Msg} {s : Ms} (hok : m.ok) (h : sentS ps pt m = true) : Cn Try.prog 10 [.pointer (some ⟨n, 0, none⟩), .agg (mval m s).toArray] (mat m s) [net n ps pt] fun v G => ∃ s', v = .bool true ∧ G = [net n (ps ++ [(m, s')]) pt] :=
  (Send_ok n ps pt m s hok).mono fun v G hq => by
    rcases hq with ⟨s', _, hv, hG⟩ | ⟨h', _⟩
    · exact ⟨s', hv, hG⟩
    · rw [h] at h'; cases h'
theorem Send_no {n ps pt} {m : Msg} {s : Ms} (hok : m.ok) (h : sentS ps pt m = false) : Cn Try.prog 10 [.pointer (some ⟨n, 0, none⟩), .agg (mval m s).toArray] (mat m s) [net n ps pt] fun v G => v = .bool false ∧ G = [net n ps pt] :=
  (Send_ok n ps pt m s hok).mono fun v G hq => by
    rcases hq with ⟨s', h', _⟩ | ⟨_, hv, hG⟩
    · rw [h] at h'; cases h'
    · exact ⟨hv, hG⟩
theorem Take_yes {n ps pt} {i : Int} (j : Nat) (hj : i = j) {p : Pm} (hp : ps[j]? = some p) (hps : ps.length ≤ 500) : Cn Try.prog 13 [.pointer (some ⟨n, 0, none⟩), .int .i64 i] (fun _ => True) [net n ps pt] fun v G => v = .tuple #[.agg (mval p.1 p.2).toArray, .bool true] ∧ G = [net n (ps.eraseIdx j) pt, owm p.1 p.2] :=
  (Take_ok n ps pt i hps).mono fun v G hq => by
    obtain ⟨ps', q, ok, hT, hv, hG⟩ := hq
    rcases hT with ⟨rfl, j', hj', hp', rfl⟩ | ⟨_, hi, _⟩
    · obtain rfl : j = j' := by omega
      rw [hp] at hp'; cases hp'; exact ⟨hv, hG⟩
    · have := (List.getElem?_eq_some_iff.1 hp).1; omega
theorem Take_no {n ps pt} {i : Int} (hi : i < 0 ∨ ps.length ≤ i) (hps : ps.length ≤ 500) : Cn Try.prog 13 [.pointer (some ⟨n, 0, none⟩), .int .i64 i] (fun _ => True) [net n ps pt] fun v G => v = .tuple #[.agg (mval zeroP.1 zeroP.2).toArray, .bool false] ∧ G = [net n ps pt] :=
  fun R k => (Take_ok n ps pt i hps R k).mono' fun v G hq => by
    obtain ⟨_, ⟨ps', q, ok, hT, hv, rfl⟩, rfl⟩ := hq
    rcases hT with ⟨rfl, j', hj', hp', rfl⟩ | ⟨rfl, hi, rfl, rfl⟩
    · have := (List.getElem?_eq_some_iff.1 hp').1; omega
    · exact ⟨[net n ps' pt, R], ⟨_, .cons .head (.cons (.tail .head) .nil)⟩, [net n ps' pt], ⟨hv, rfl⟩, rfl⟩
theorem Twice_yes {n ps pt} {i : Int} (j : Nat) (hj : i = j) {p : Pm} (hp : ps[j]? = some p) (hok : ∀ p ∈ ps, p.1.ok) (hl : ps.length < 500) : Cn Try.prog 19 [.pointer (some ⟨n, 0, none⟩), .int .i64 i] (fun _ => True) [net n ps pt] fun v G => ∃ s', v = .bool true ∧ G = [net n (ps ++ [(p.1, s')]) pt] :=
  (Twice_ok n ps pt i hok).mono fun v G hq => by
    obtain ⟨ps', ok, hT, hv, hG⟩ := hq
    rcases hT with ⟨rfl, _, j', q, s', hj', hp', rfl⟩ | ⟨_, hi, _⟩
    · obtain rfl : j = j' := by omega
      rw [hp] at hp'; cases hp'; exact ⟨s', hv, hG⟩
    · have := (List.getElem?_eq_some_iff.1 hp).1; unfold twiceB at hi; omega

theorem shown_ok : Cn Try.prog 7 [] (fun _ => True) [] fun v G => v = .bool true ∧ G = [] := by
  refine .enter Try.func7 rfl (by kernel_rfl) rfl fun R k => ?_
  refine .seq ?_
  refine .region ?_   -- R0 law.go:58
  refine .rd (.assign rfl) ?_
  refine .nil ?_
  refine .seq ?_
  refine .region ?_   -- R1 law.go:59
  refine .fn rfl rfl .nil (fun _ _ _ => trivial) (New_ok) (fun v G1 hq => ?_)
  obtain ⟨n, rfl, rfl⟩ := hq
  simp only [List.cons_append, List.nil_append]
  refine .rd (.assign rfl) ?_
  refine .nil ?_
  refine .seq ?_
  refine .seq ?_
  refine .region ?_   -- R2 law.go:60
  refine .rd (.move rfl) ?_
  refine .rd (.eqNilP Try.underlying24 rfl rfl) ?_
  refine .nil ?_
  refine .condF rfl ?_
  refine .skip ?_
  refine .seq ?_
  refine .region ?_   -- R4 law.go:63
  refine .rd (.move rfl) ?_
  refine .fn rfl rfl .nil (fun _ _ _ => trivial) (to_ok' 1 2 1) (fun v G1 hq => ?_)
  obtain ⟨rfl, rfl⟩ := hq
  simp only [List.nil_append]
  refine .fn rfl rfl (.cons .head .nil) (fun _ _ _ => mat_toM _ _ _ _) (Send_yes (n := n) (ps := []) (pt := []) (m := toM 1 2 1) (s := zs) (ok_toM _ _ _) (by rfl)) (fun v G1 hq => ?_)
  obtain ⟨s1, rfl, rfl⟩ := hq
  simp only [List.cons_append, List.nil_append]
  refine .rd (.assign rfl) ?_
  refine .nil ?_
  refine .cast (X' := net n [(toM 1 2 1, s1)] []) rfl ?_
  refine .seq ?_
  refine .region ?_   -- R5 law.go:64
  refine .rd (.move rfl) ?_
  refine .fn rfl rfl .nil (fun _ _ _ => trivial) (to_ok' 1 3 2) (fun v G1 hq => ?_)
  obtain ⟨rfl, rfl⟩ := hq
  simp only [List.nil_append]
  refine .fn rfl rfl (.cons .head .nil) (fun _ _ _ => mat_toM _ _ _ _) (Send_yes (n := n) (ps := [(toM 1 2 1, s1)]) (pt := []) (m := toM 1 3 2) (s := zs) (ok_toM _ _ _) (by rfl)) (fun v G1 hq => ?_)
  obtain ⟨s2, rfl, rfl⟩ := hq
  simp only [List.cons_append, List.nil_append]
  refine .rd (.assign rfl) ?_
  refine .nil ?_
  refine .cast (X' := net n [(toM 1 2 1, s1), (toM 1 3 2, s2)] []) rfl ?_
  refine .seq ?_
  refine .region ?_   -- R6 law.go:65
  refine .rd (.move rfl) ?_
  refine .fn rfl rfl (.cons .head .nil) (fun _ _ _ => trivial) (Twice_yes 0 rfl (p := (toM 1 2 1, s1)) rfl (fun p hp => by simp at hp; rcases hp with rfl | rfl <;> exact ok_toM _ _ _) (Nat.le_of_ble_eq_true rfl)) (fun v G1 hq => ?_)
  obtain ⟨s3, rfl, rfl⟩ := hq
  simp only [List.cons_append, List.nil_append]
  refine .rd (.assign rfl) ?_
  refine .nil ?_
  refine .cast (X' := net n [(toM 1 2 1, s1), (toM 1 3 2, s2), (toM 1 2 1, s3)] []) rfl ?_
  refine .seq ?_
  refine .region ?_   -- R7 law.go:66
  refine .rd (.move rfl) ?_
  refine .fn rfl rfl (.cons .head .nil) (fun _ _ _ => trivial) (Len_ok n _ _) (fun v G1 hq => ?_)
  obtain ⟨rfl, rfl⟩ := hq
  simp only [List.cons_append, List.nil_append]
  refine .rd (.assign rfl) ?_
  refine .nil ?_
  refine .seq ?_
  refine .region ?_   -- R8 law.go:67
  refine .rd (.move rfl) ?_
  refine .fn rfl rfl (.cons .head .nil) (fun _ _ _ => trivial) (Take_yes 0 rfl (p := (toM 1 2 1, s1)) rfl (Nat.le_of_ble_eq_true rfl)) (fun v G1 hq => ?_)
  obtain ⟨rfl, rfl⟩ := hq
  simp only [List.cons_append, List.nil_append]
  refine .rd (.move rfl) ?_
  refine .rd (.extract rfl rfl) ?_
  refine .rd (.extract rfl rfl) ?_
  refine .ef (.alloc ti32 rfl (ones.of rfl)) ?_
  rintro _ _ ⟨b6, rfl, rfl⟩
  refine .ef0 (.storeAll (vs := mval (toM 1 2 1) s1) ts32 rfl rfl rfl .head rfl (ones.of rfl)) ?_
  rintro _ _ rfl
  refine .rd (.assign rfl) ?_
  refine .nil ?_
  refine .seq ?_
  refine .region ?_   -- R9 law.go:68
  refine .rd (.move rfl) ?_
  refine .fn rfl rfl (.cons (.tail .head) .nil) (fun _ _ _ => trivial) (Part_ok n _ _ 2 1 (Nat.le_of_ble_eq_true rfl)) (fun v G1 hq => ?_)
  obtain ⟨rfl, rfl⟩ := hq
  refine .nil ?_
  refine .cast (X' := net n [(toM 1 3 2, s2)] [(endsS 2 1, true)]) rfl ?_
  refine .seq ?_
  refine .region ?_   -- R10 law.go:69
  refine .rd (.move rfl) ?_
  refine .fn rfl rfl (.cons .head .nil) (fun _ _ _ => trivial) (Len_ok n _ _) (fun v G1 hq => ?_)
  obtain ⟨rfl, rfl⟩ := hq
  simp only [List.cons_append, List.nil_append]
  refine .rd (.assign rfl) ?_
  refine .nil ?_
  refine .seq ?_
  refine .region ?_   -- R11 law.go:70
  refine .rd (.move rfl) ?_
  refine .fn rfl rfl .nil (fun _ _ _ => trivial) (to_ok' 2 1 3) (fun v G1 hq => ?_)
  obtain ⟨rfl, rfl⟩ := hq
  simp only [List.nil_append]
  refine .fn rfl rfl (.cons .head .nil) (fun _ _ _ => mat_toM _ _ _ _) (Send_no (n := n) (ps := [(toM 1 3 2, s2)]) (pt := [(endsS 2 1, true)]) (m := toM 2 1 3) (s := zs) (ok_toM _ _ _) (by rfl)) (fun v G1 hq => ?_)
  obtain ⟨rfl, rfl⟩ := hq
  simp only [List.cons_append, List.nil_append]
  refine .rd (.assign rfl) ?_
  refine .nil ?_
  refine .seq ?_
  refine .region ?_   -- R12 law.go:71
  refine .rd (.move rfl) ?_
  refine .fn rfl rfl (.cons .head .nil) (fun _ _ _ => trivial) (Join_ok n _ _ 1 2) (fun v G1 hq => ?_)
  obtain ⟨rfl, rfl⟩ := hq
  simp only [List.cons_append, List.nil_append]
  refine .nil ?_
  refine .cast (X' := net n [(toM 1 3 2, s2)] []) rfl ?_
  refine .seq ?_
  refine .region ?_   -- R13 law.go:72
  refine .rd (.move rfl) ?_
  refine .fn rfl rfl .nil (fun _ _ _ => trivial) (to_ok' 2 1 4) (fun v G1 hq => ?_)
  obtain ⟨rfl, rfl⟩ := hq
  simp only [List.nil_append]
  refine .fn rfl rfl (.cons .head .nil) (fun _ _ _ => mat_toM _ _ _ _) (Send_yes (n := n) (ps := [(toM 1 3 2, s2)]) (pt := []) (m := toM 2 1 4) (s := zs) (ok_toM _ _ _) (by rfl)) (fun v G1 hq => ?_)
  obtain ⟨s4, rfl, rfl⟩ := hq
  simp only [List.cons_append, List.nil_append]
  refine .rd (.assign rfl) ?_
  refine .nil ?_
  refine .cast (X' := net n [(toM 1 3 2, s2), (toM 2 1 4, s4)] []) rfl ?_
  refine .seq ?_
  refine .region ?_   -- R14 law.go:73
  refine .rd (.move rfl) ?_
  refine .fn rfl rfl (.cons .head .nil) (fun _ _ _ => trivial) (Take_no (.inr (by show (2 : Int) ≤ 9; decide)) (Nat.le_of_ble_eq_true rfl)) (fun v G1 hq => ?_)
  obtain ⟨rfl, rfl⟩ := hq
  simp only [List.cons_append, List.nil_append]
  refine .rd (.move rfl) ?_
  refine .rd (.extract rfl rfl) ?_
  refine .rd (.extract rfl rfl) ?_
  refine .ef (.alloc ti32 rfl (ones.of rfl)) ?_
  rintro _ _ ⟨b11, rfl, rfl⟩
  refine .ef0 (.storeAll (vs := mval zeroP.1 zeroP.2) ts32 rfl rfl rfl .head rfl (ones.of rfl)) ?_
  rintro _ _ rfl
  refine .rd (.assign rfl) ?_
  refine .nil ?_
  refine .seq ?_
  refine .region ?_   -- R15 law.go:74
  refine .rd (.move rfl) ?_
  refine .rd (.move rfl) ?_
  refine .on (t := 49) rfl rfl ?_
  refine .rd (.move rfl) ?_
  refine .rd (.pickT rfl rfl) ?_
  refine .rd (.move rfl) ?_
  refine .on (t := 52) rfl rfl ?_
  refine .rd (.move rfl) ?_
  refine .rd (.pickT rfl rfl) ?_
  refine .rd (.move rfl) ?_
  refine .on (t := 55) rfl rfl ?_
  refine .rd (.move rfl) ?_
  refine .on (t := 55) rfl rfl ?_
  refine .rd (.eqI rfl rfl) ?_
  refine .alter (t := 57) (v' := .bool true) rfl (by rfl) ?_
  refine .rd (.pickT rfl rfl) ?_
  refine .rd (.move rfl) ?_
  refine .on (t := 59) rfl rfl ?_
  refine .rd (.fieldAddr fd32_3 rfl) ?_
  refine .on (t := 59) rfl rfl ?_
  refine .rd (.ld na3 rfl (.tail (.tail .head)) rfl) ?_
  refine .on (t := 59) rfl rfl ?_
  refine .rd (.eqI rfl rfl) ?_
  refine .alter (t := 62) (v' := .bool true) rfl (by rfl) ?_
  refine .rd (.pickT rfl rfl) ?_
  refine .rd (.move rfl) ?_
  refine .on (t := 64) rfl rfl ?_
  refine .rd (.move rfl) ?_
  refine .rd (.pickT rfl rfl) ?_
  refine .rd (.move rfl) ?_
  refine .on (t := 67) rfl rfl ?_
  refine .rd (.move rfl) ?_
  refine .on (t := 67) rfl rfl ?_
  refine .rd (.eqI rfl rfl) ?_
  refine .alter (t := 69) (v' := .bool true) rfl (by rfl) ?_
  refine .rd (.pickT rfl rfl) ?_
  refine .rd (.move rfl) ?_
  refine .on (t := 71) rfl rfl ?_
  refine .rd (.move rfl) ?_
  refine .on (t := 71) rfl rfl ?_
  refine .rd (.not rfl) ?_
  refine .rd (.pickT rfl rfl) ?_
  refine .rd (.move rfl) ?_
  refine .on (t := 75) rfl rfl ?_
  refine .rd (.move rfl) ?_
  refine .rd (.pickT rfl rfl) ?_
  refine .rd (.move rfl) ?_
  refine .on (t := 78) rfl rfl ?_
  refine .rd (.move rfl) ?_
  refine .on (t := 78) rfl rfl ?_
  refine .rd (.not rfl) ?_
  refine .rd (.pickT rfl rfl) ?_
  refine .rd (.move rfl) ?_
  refine .on (t := 82) rfl rfl ?_
  refine .rd (.move rfl) ?_
  refine .on (t := 82) rfl rfl ?_
  refine .fn rfl rfl (.cons (.tail .head) .nil) (fun _ _ _ => trivial) (Parted_ok n _ _ 1 2) (fun v G1 hq => ?_)
  obtain ⟨rfl, rfl⟩ := hq
  simp only [List.cons_append, List.nil_append]
  refine .alter (t := 84) (v' := .bool false) rfl (by rfl) ?_
  refine .on (t := 82) rfl rfl ?_
  refine .rd (.not rfl) ?_
  refine .rd (.pickT rfl rfl) ?_
  refine .rd (.assign rfl) ?_
  refine .nil ?_
  refine .retP Try.func7 (.cons (.tmp rfl) .nil) (.cons (.tail (.tail (.tail (.tail .head)))) .nil) ?_
  exact ⟨[], ⟨rfl, rfl⟩, rfl⟩

end Go.Proofs.Ytfbmbhajpmlffaa

