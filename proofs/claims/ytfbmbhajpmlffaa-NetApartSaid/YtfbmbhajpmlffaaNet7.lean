/- Steps through functions of the program, under conditions that each theorem states (part net7 of a claim). -/
import Derived.Test.YtfbmbhajpmlffaaProg
import Derived.Test.YtfbmbhajpmlffaaL9
import Derived.Test.YtfbmbhajpmlffaaDefs
import Derived.Test.YtfbmbhajpmlffaaNet6
namespace Go.Proofs.Ytfbmbhajpmlffaa
open Go Go.Sp

set_option linter.unusedVariables false

namespace net7
theorem fd57_0 : FD Try.prog 57 0 0 := .of Try.underlying57 (by kernel_rfl)
theorem fd55_0 : FD Try.prog 55 0 0 := .of Try.underlying55 (by kernel_rfl)
theorem na42 : NotAgg Try.prog 42 := ⟨_, Try.underlying42, trivial⟩
theorem ts32 : TS Try.prog 32 21 := .of (by kernel_rfl)
theorem ia32 : IsAgg Try.prog 32 := ⟨_, Try.underlying32, trivial⟩
theorem ti32 : TI Try.prog 32 21 232 (.agg #[.int .i64 0, .int .i64 0, .int .i64 0, .int .i64 0, .int .i64 0, .int .i64 0, .int .i64 0, .int .i64 0, .int .i64 0, .int .i64 0, .int .i64 0, .int .i64 0, .int .i64 0, .int .i64 0, .int .i64 0, .int .i64 0, .string ⟨#[]⟩, .string ⟨#[]⟩, .slice none 0 0, .slice none 0 0, .slice none 0 0]) := .of (by kernel_rfl)
end net7
open net7

theorem owms_snoc {l : List Pm} {m : Msg} {s' : Ms} {h} (H : sat [owm m s', sat (owms l)] h) : sat (owms (l ++ [(m, s')])) h := by
  have : owms (l ++ [(m, s')]) = owms l ++ [owm m s'] := by simp [owms]
  rw [this]; exact H.all_snoc
theorem flat_snoc {l : List Pm} {m : Msg} {s' : Ms} : (l ++ [(m, s')]).flatMap pcell = l.flatMap pcell ++ mval m s' := by simp [pcell]

theorem All_ok (n ps pt) (hps : ps.length ≤ 500) (hok : ∀ p ∈ ps, p.1.ok) : Cn Try.prog 25 [.pointer (some ⟨n, 0, none⟩)] (fun _ => True) [net n ps pt] fun v G => ∃ a c l, l.map (·.1) = ps.map (·.1) ∧ v = .slice a l.length c ∧ G = [net n ps pt, arr 32 21 a c (l.flatMap pcell), sat (owms l)] := by
  refine .enter Try.func25 rfl (by kernel_rfl) rfl fun R k => ?_
  refine .open_ .head net_open (fun x _ => ?_)
  obtain ⟨sa, sc, mb⟩ := x
  simp only [List.cons_append, List.nil_append]
  refine .seq ?_
  refine .region ?_   -- R0 network.go:59
  refine .rd (.assign rfl) ?_
  refine .nil ?_
  refine .seq ?_
  refine .region ?_   -- R1 network.go:60
  refine .rd (.assign rfl) ?_
  refine .nil ?_
  refine .seq ?_
  refine .seq ?_
  refine .region ?_   -- R2 network.go:61
  refine .rd (.move rfl) ?_
  refine .rd (.nilCheck rfl) ?_
  refine .rd (.fieldAddr fd57_0 rfl) ?_
  refine .rd (.fieldAddr fd55_0 rfl) ?_
  refine .rd (.ld na42 rfl .head rfl) ?_
  refine .rd (.lenL rfl rfl Try.underlying42 rfl) ?_
  refine .rd (.move rfl) ?_
  refine .nil ?_
  refine .nothing ?_
  refine .nilArr 32 21 none ?_
  refine .block ?_
  refine .loop (σ := Nat × Option Addr × Nat × List Pm) (fun ⟨i, a, c, l⟩ => i ≤ ps.length ∧ l.map (·.1) = (ps.take i).map (·.1)) (fun ⟨i, a, c, l⟩ => ps.length - i) (fun ⟨i, a, c, l⟩ => [(0, .pointer (some ⟨n, 0, none⟩)), (3, .slice a l.length c), (10, .slice sa ps.length sc), (11, .int .i64 ps.length), (12, .int .i64 (i : Nat))]) (fun ⟨i, a, c, l⟩ => [blk n [.slice sa ps.length sc, .map (some mb)] 57, arr 32 21 sa sc (ps.flatMap pcell), sat (owms ps), mp encP Value.bool mb pt, arr 32 21 a c (l.flatMap pcell), sat (owms l), R]) (0, none, 0, []) ⟨Nat.zero_le _, rfl⟩ (.cons rfl (.cons rfl (.cons rfl (.cons rfl (.cons rfl .nil))))) (.cons (.tail (.tail .head)) (.cons (.tail (.tail .head)) (.cons (.tail (.tail .head)) (.cons (.tail (.tail .head)) (.cons .head (.cons .head (.cons .head .nil))))))) (fun s hI ih => ?_)
  obtain ⟨i, a, c, l⟩ := s
  dsimp only at ih ⊢
  obtain ⟨hi, hl⟩ := hI
  have hll : l.length = i := by have := congrArg List.length hl; simp at this; omega
  refine .seq ?_
  refine .region ?_   -- R3 network.go:61
  refine .rd (.lt rfl rfl) ?_
  refine .nil ?_
  refine .seq ?_
  refine .condP rfl (fun hc3 => ?_) (fun hc3 => ?_)
  · refine .skip ?_
    refine .seq ?_
    refine .block ?_
    refine .seq ?_
    have hj : i < ps.length := by omega
    obtain ⟨p, hp⟩ : ∃ p, ps[i]? = some p := ⟨_, List.getElem?_eq_getElem hj⟩
    have hfl : (ps.flatMap pcell).length = ps.length * 21 := flat_length pcell_len ps
    refine .tell (φ := ∃ b o, sa = some ⟨b, o, none⟩) ((Knows.arr (.tail .head)).mono fun _ h => h.addr (by omega)) (fun hx => ?_)
    obtain ⟨bb, oo, rfl⟩ := hx
    refine .region ?_   -- R4 network.go:61
    refine .rd (.indexAddr Try.underlying42 ts32 rfl rfl (by omega) (by omega)) ?_
    refine .rd (.loadN ia32 ts32 rfl rfl (Knows.elem pcell_len (by decide) (Knows.arr (.tail .head)) hp)) ?_
    refine .ef (.alloc ti32 rfl (ones.of rfl)) ?_
    rintro _ _ ⟨b5, rfl, rfl⟩
    refine .ef0 (.storeAll (vs := mval p.1 p.2) ts32 rfl rfl rfl .head rfl (ones.of rfl)) ?_
    rintro _ _ rfl
    refine .nil ?_
    refine .region ?_   -- R5 network.go:62
    refine .rd (.move rfl) ?_
    refine .rd (.ldN ia32 ts32 rfl .head rfl) ?_
    refine .fn rfl rfl .nil (owms_mat hp (.tail (.tail (.tail .head)))) (copied_ok p.1 p.2 (hok p (List.mem_of_getElem? hp))) (fun v G1 hq => ?_)
    obtain ⟨s', rfl, rfl⟩ := hq
    simp only [List.cons_append, List.nil_append]
    refine .ef (.buildOne (cs := mval p.1 s') Try.underlying42 ti32 (by decide) rfl rfl rfl (ones.of rfl)) ?_
    rintro _ _ ⟨bs, rfl, rfl⟩
    refine .ef (.append rfl rfl Try.underlying42 ti32 rfl (ones.of rfl) (by decide) (by decide) rfl rfl (.tail (.tail (.tail (.tail (.tail (.tail (.tail .head))))))) (n := l.length) (m := 1) (flat_length pcell_len _) (.srcBlk .head Try.underlying42 rfl (by decide)) (by omega)) ?_
    rintro _ _ ⟨ra, rc, rfl, rn, rfl⟩
    refine .rd (.assign rfl) ?_
    refine .nil ?_
    refine .close (.cons (.tail (.tail .head)) (.cons (.tail (.tail (.tail (.tail (.tail (.tail (.tail .head))))))) .nil)) (fun h H => owms_snoc H) ?_
    refine .inBlock ?_
    refine .region ?_   -- R6 network.go:61
    refine .rd (.add rfl rfl (by omega) (by omega)) ?_
    refine .rd (.move rfl) ?_
    refine .nil ?_
    rw [← flat_snoc (s' := s')]
    exact (ih (i + 1, ra, rc, l ++ [(p.1, s')]) ⟨by show i + 1 ≤ _; omega, by simp [List.take_add_one, hp, hl]⟩ (by show _ < _; omega)).to (.cons rfl (.cons (by show _ = some (Value.slice ra (l ++ [(p.1, s')]).length rc); rw [List.length_append]; rfl) (.cons rfl (.cons rfl (.cons rfl .nil))))) (.cons (.tail (.tail (.tail (.tail .head)))) (.cons (.tail (.tail (.tail (.tail .head)))) (.cons (.tail (.tail (.tail (.tail .head)))) (.cons (.tail (.tail (.tail (.tail .head)))) (.cons (.tail .head) (.cons .head (.cons (.tail (.tail .head)) .nil)))))))
  · refine .exit rfl ?_
    refine .seq ?_
    refine .region ?_   -- R7 network.go:64
    refine .rd (.move rfl) ?_
    refine .rd (.assign rfl) ?_
    refine .nil ?_
    refine .close (.cons .head (.cons .head (.cons .head (.cons .head .nil)))) (net_close _ _ _) ?_
    obtain rfl : i = ps.length := by omega
    rw [List.take_length] at hl
    refine .retP Try.func25 (.cons (.tmp rfl) .nil) (.cons .head (.cons .head (.cons .head (.cons .head .nil)))) ?_
    exact ⟨[_, _, _], ⟨a, c, l, hl, rfl, rfl⟩, rfl⟩

end Go.Proofs.Ytfbmbhajpmlffaa

