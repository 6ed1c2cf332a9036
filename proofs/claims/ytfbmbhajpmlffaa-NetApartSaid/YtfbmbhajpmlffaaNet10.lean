/- Steps through functions of the program, under conditions that each theorem states (part net10 of a claim). -/
import Derived.Test.YtfbmbhajpmlffaaProg
import Derived.Test.YtfbmbhajpmlffaaL9
import Derived.Test.YtfbmbhajpmlffaaDefs
import Derived.Test.YtfbmbhajpmlffaaNet9
namespace Go.Proofs.Ytfbmbhajpmlffaa
open Go Go.Sp

set_option linter.unusedVariables false

namespace net10
theorem ts32 : TS Try.prog 32 21 := .of (by kernel_rfl)
theorem ia32 : IsAgg Try.prog 32 := ⟨_, Try.underlying32, trivial⟩
theorem ti69 : TI Try.prog 69 2 16 (.agg #[.int .i64 0, .int .i64 0]) := .of (by kernel_rfl)
theorem bld69_0_1 (x0 : Int) (x1 : Int) (w : World) : (Instr.build 69 (([0, 1] : List Nat).zip [.int .i64 x0, .int .i64 x1]).toArray).run Try.prog w = .ok (.agg #[.int .i64 x0, .int .i64 x1]) w := by kernel_rfl
theorem ts69 : TS Try.prog 69 2 := .of (by kernel_rfl)
theorem ia69 : IsAgg Try.prog 69 := ⟨_, Try.underlying69, trivial⟩
end net10
open net10

structure Sames (a a' : Option Addr) (l l' : List Pm) (w : World) : Prop where
  r : RowAt a (l.flatMap pcell) w
  r' : RowAt a' (l'.flatMap pcell) w
  m : ∀ p ∈ l, mat p.1 p.2 w
  m' : ∀ p ∈ l', mat p.1 p.2 w
def ppc (p : Int × Int) : List Value := [.int .i64 p.1, .int .i64 p.2]
theorem ppc_len (p : Int × Int) : (ppc p).length = 2 := rfl
/-- The reference's net. -/
def rnet (n : Nat) (qs : List Pm) (ap : List (Int × Int)) : SProp := fun h =>
  ∃ x : Option Addr × Nat × Option Addr × Nat, sat [blk n [.slice x.1 qs.length x.2.1, .slice x.2.2.1 ap.length x.2.2.2] 45, arr 32 21 x.1 x.2.1 (qs.flatMap pcell), arr 69 2 x.2.2.1 x.2.2.2 (ap.flatMap ppc), know fun w => ∀ q ∈ qs, mat q.1 q.2 w] h
theorem rnet_open {n qs ap} : ∀ h, rnet n qs ap h → ∃ x : Option Addr × Nat × Option Addr × Nat, True ∧ sat [blk n [.slice x.1 qs.length x.2.1, .slice x.2.2.1 ap.length x.2.2.2] 45, arr 32 21 x.1 x.2.1 (qs.flatMap pcell), arr 69 2 x.2.2.1 x.2.2.2 (ap.flatMap ppc), know fun w => ∀ q ∈ qs, mat q.1 q.2 w] h :=
  fun _ ⟨x, H⟩ => ⟨x, trivial, H⟩
theorem rnet_close {n qs ap} (a : Option Addr) (c : Nat) (a2 : Option Addr) (c2 : Nat) : ∀ h, sat [blk n [.slice a qs.length c, .slice a2 ap.length c2] 45, arr 32 21 a c (qs.flatMap pcell), arr 69 2 a2 c2 (ap.flatMap ppc), know fun w => ∀ q ∈ qs, mat q.1 q.2 w] h → rnet n qs ap h :=
  fun _ H => ⟨(a, c, a2, c2), H⟩
theorem ends_gt {a b : Int} (h : b < a) : endsS a b = (b, a) := by unfold endsS; rw [if_pos h, if_neg (by omega)]
theorem ends_le {a b : Int} (h : ¬ b < a) : endsS a b = (a, b) := by
  unfold endsS; rw [if_neg h]
  by_cases h2 : a < b
  · rw [if_pos h2]
  · rw [if_neg h2]; congr 1; omega

theorem same_ok (a a' : Option Addr) (c c' : Nat) (l l' : List Pm) (hm : l.map (·.1) = l'.map (·.1)) (hok : ∀ p ∈ l, p.1.ok) (hb : l.length ≤ 100000) : Cn Try.prog 24 [.slice a l.length c, .slice a' l'.length c'] (Sames a a' l l') [] fun v G => v = .bool true ∧ G = [] := by
  refine .enter Try.func24 rfl (by kernel_rfl) rfl fun R k => ?_
  refine .seq ?_
  refine .region ?_   -- R0 law.go:41
  refine .rd (.assign rfl) ?_
  refine .nil ?_
  refine .seq ?_
  refine .seq ?_
  refine .region ?_   -- R1 law.go:42
  refine .rd (.move rfl) ?_
  refine .rd (.lenL rfl rfl Try.underlying42 rfl) ?_
  refine .rd (.move rfl) ?_
  refine .rd (.lenL rfl rfl Try.underlying42 rfl) ?_
  refine .rd (.neI rfl rfl) ?_
  refine .nil ?_
  refine .condN rfl (fun h1 => absurd h1 (by have := congrArg List.length hm; simp at this; omega)) (fun h1 => ?_)
  refine .skip ?_
  refine .seq ?_
  refine .seq ?_
  refine .region ?_   -- R3 law.go:45
  refine .rd (.assign rfl) ?_
  refine .nil ?_
  refine .block ?_
  refine .loop (σ := Nat) (fun i => i ≤ l.length) (fun i => l.length - i) (fun i => [(0, .slice a l.length c), (1, .slice a' l'.length c'), (5, .int .i64 (i : Nat))]) (fun i => [R]) 0 (Nat.zero_le _) (.cons rfl (.cons rfl (.cons rfl .nil))) (.cons .head .nil) (fun i hI ih => ?_)
  refine .seq ?_
  refine .seq ?_
  refine .region ?_   -- R4 law.go:45
  refine .rd (.move rfl) ?_
  refine .rd (.move rfl) ?_
  refine .rd (.lenL rfl rfl Try.underlying42 rfl) ?_
  refine .rd (.lt rfl rfl) ?_
  refine .nil ?_
  refine .condP rfl (fun h4 => ?_) (fun h4 => ?_)
  · refine .skip ?_
    refine .seq ?_
    refine .block ?_
    refine .seq ?_
    have hj : i < l.length := by omega
    have hll : l'.length = l.length := by have := congrArg List.length hm; simpa using this.symm
    obtain ⟨p, hp⟩ : ∃ p, l[i]? = some p := ⟨_, List.getElem?_eq_getElem hj⟩
    obtain ⟨p', hp'⟩ : ∃ p, l'[i]? = some p := ⟨_, List.getElem?_eq_getElem (by omega)⟩
    obtain ⟨m, s⟩ := p
    obtain ⟨m', s'⟩ := p'
    obtain rfl : m = m' := by have := congrArg (fun k => k[i]?) hm; simpa [hp, hp'] using this
    have hfl : (l.flatMap pcell).length = l.length * 21 := flat_length pcell_len l
    have hfl' : (l'.flatMap pcell).length = l'.length * 21 := flat_length pcell_len l'
    refine .tell (φ := mfacts m s ∧ mfacts m s') (Knows.pick .head (k.mono fun _ h => ⟨(h.m _ (List.mem_of_getElem? hp)).facts, (h.m' _ (List.mem_of_getElem? hp')).facts⟩)) (fun hF => ?_)
    refine .tell (φ := ∃ b o, a = some ⟨b, o, none⟩) (Knows.pick .head (k.mono fun _ h => h.r.addr (by omega))) (fun hx => ?_)
    obtain ⟨bb, oo, rfl⟩ := hx
    refine .tell (φ := ∃ b o, a' = some ⟨b, o, none⟩) (Knows.pick .head (k.mono fun _ h => h.r'.addr (by omega))) (fun hx => ?_)
    obtain ⟨bb', oo', rfl⟩ := hx
    refine .draws [3, 7] [R] (by kernel_rfl) ?_   -- R6 law.go:46
    refine .rp 0 rfl (by kernel_rfl) (by kernel_rfl) (by kernel_rfl) (Reads.pure (.move rfl)) ?_
    refine .rp 1 rfl (by kernel_rfl) (by kernel_rfl) (by kernel_rfl) (Reads.pure (.move rfl)) ?_
    refine .rp 2 rfl (by kernel_rfl) (by kernel_rfl) (by kernel_rfl) (Reads.pure (.indexAddr Try.underlying42 ts32 rfl rfl (by omega) (by omega))) ?_
    refine .rd 3 rfl rfl (by kernel_rfl) (by kernel_rfl) (by kernel_rfl) (.loadN ia32 ts32 rfl rfl (Knows.elem pcell_len (by decide) (Knows.pick .head (k.mono fun _ h => h.r)) hp)) (.cons .head .nil) ?_
    refine .rp 4 rfl (by kernel_rfl) (by kernel_rfl) (by kernel_rfl) (Reads.pure (.move rfl)) ?_
    refine .rp 5 rfl (by kernel_rfl) (by kernel_rfl) (by kernel_rfl) (Reads.pure (.move rfl)) ?_
    refine .rp 6 rfl (by kernel_rfl) (by kernel_rfl) (by kernel_rfl) (Reads.pure (.indexAddr Try.underlying42 ts32 rfl rfl (by omega) (by omega))) ?_
    refine .rd 7 rfl rfl (by kernel_rfl) (by kernel_rfl) (by kernel_rfl) (.loadN ia32 ts32 rfl rfl (Knows.elem pcell_len (by decide) (Knows.pick .head (k.mono fun _ h => h.r')) hp')) (.cons .head .nil) ?_
    refine .ef 8 (by kernel_rfl) rfl (.fn rfl rfl .nil (Knows.pick .head (k.mono fun _ h => ⟨h.m _ (List.mem_of_getElem? hp), h.m' _ (List.mem_of_getElem? hp')⟩)) (sameMsg_ok m s s' (hok _ (List.mem_of_getElem? hp)) hF.1.len hF.2.len)) ?_
    rintro v _ ⟨G1, hq, rfl⟩
    obtain ⟨rfl, rfl⟩ := hq
    simp only [List.nil_append]
    refine ⟨.inl (by kernel_rfl), ?_⟩
    refine .rp 9 rfl (by kernel_rfl) (by kernel_rfl) (by kernel_rfl) (Reads.pure (.assign rfl)) ?_
    refine .done (by kernel_rfl) ?_
    refine .seq ?_
    refine .region ?_   -- R7 law.go:47
    refine .rd (.move rfl) ?_
    refine .rd (.not rfl) ?_
    refine .nil ?_
    refine .condF rfl ?_
    refine .skip ?_
    refine .inBlock ?_
    refine .region ?_   -- R5 law.go:45
    refine .rd (.move rfl) ?_
    refine .rd (.add rfl rfl (by omega) (by omega)) ?_
    refine .rd (.assign rfl) ?_
    refine .nil ?_
    exact (ih (i + 1) (by omega) (by omega)).to (.cons rfl (.cons rfl (.cons rfl .nil))) (.cons .head .nil)
  · refine .exit rfl ?_
    refine .seq ?_
    refine .region ?_   -- R9 law.go:51
    refine .rd (.assign rfl) ?_
    refine .nil ?_
    refine .retP Try.func24 (.cons (.tmp rfl) .nil) (.cons .head .nil) ?_
    exact ⟨[], ⟨rfl, rfl⟩, rfl⟩

theorem pair_ok (a b : Int) : Cn Try.prog 32 [.int .i64 a, .int .i64 b] (fun _ => True) [] fun v G => v = encP (endsS a b) ∧ G = [] := by
  refine .enter Try.func32 rfl (by kernel_rfl) rfl fun R k => ?_
  refine .seq ?_
  refine .region ?_   -- R0 ref.go:17
  refine .ef (.alloc ti69 rfl (ones.of rfl)) ?_
  rintro _ _ ⟨b4, rfl, rfl⟩
  refine .nil ?_
  refine .seq ?_
  refine .seq ?_
  refine .region ?_   -- R1 ref.go:18
  refine .rd (.move rfl) ?_
  refine .rd (.move rfl) ?_
  refine .rd (.gt rfl rfl) ?_
  refine .nil ?_
  refine .condP rfl (fun c1 => ?_) (fun c1 => ?_)
  · refine .seq ?_
    refine .region ?_   -- R2 ref.go:19
    refine .rd (.move rfl) ?_
    refine .rd (.move rfl) ?_
    refine .rd (.build rfl (bld69_0_1 _ _)) ?_
    refine .ef0 (.storeAll ts69 rfl rfl rfl .head rfl (ones.of rfl)) ?_
    rintro _ _ rfl
    refine .nil ?_
    refine .retP Try.func32 (.cons (.blkN ia69 ts69 rfl .head rfl) .nil) (.cons (.tail .head) .nil) ?_
    exact ⟨[], ⟨by rw [ends_gt c1]; rfl, rfl⟩, rfl⟩
  · refine .skip ?_
    refine .seq ?_
    refine .region ?_   -- R3 ref.go:21
    refine .rd (.move rfl) ?_
    refine .rd (.move rfl) ?_
    refine .rd (.build rfl (bld69_0_1 _ _)) ?_
    refine .ef0 (.storeAll ts69 rfl rfl rfl .head rfl (ones.of rfl)) ?_
    rintro _ _ rfl
    refine .nil ?_
    refine .retP Try.func32 (.cons (.blkN ia69 ts69 rfl .head rfl) .nil) (.cons (.tail .head) .nil) ?_
    exact ⟨[], ⟨by rw [ends_le c1]; rfl, rfl⟩, rfl⟩

end Go.Proofs.Ytfbmbhajpmlffaa

