/- Steps through functions of the program, under conditions that each theorem states (part net15 of a claim). -/
import Derived.Test.YtfbmbhajpmlffaaProg
import Derived.Test.YtfbmbhajpmlffaaL9
import Derived.Test.YtfbmbhajpmlffaaDefs
import Derived.Test.YtfbmbhajpmlffaaNet14
namespace Go.Proofs.Ytfbmbhajpmlffaa
open Go Go.Sp

set_option linter.unusedVariables false

namespace net15
theorem ts3 : TS Try.prog 3 1 := .of (by kernel_rfl)
theorem na3 : NotAgg Try.prog 3 := ⟨_, Try.underlying3, trivial⟩
theorem ti32 : TI Try.prog 32 21 232 (.agg #[.int .i64 0, .int .i64 0, .int .i64 0, .int .i64 0, .int .i64 0, .int .i64 0, .int .i64 0, .int .i64 0, .int .i64 0, .int .i64 0, .int .i64 0, .int .i64 0, .int .i64 0, .int .i64 0, .int .i64 0, .int .i64 0, .string ⟨#[]⟩, .string ⟨#[]⟩, .slice none 0 0, .slice none 0 0, .slice none 0 0]) := .of (by kernel_rfl)
theorem ts32 : TS Try.prog 32 21 := .of (by kernel_rfl)
theorem fd32_1 : FD Try.prog 32 1 1 := .of Try.underlying32 (by kernel_rfl)
theorem fd32_2 : FD Try.prog 32 2 2 := .of Try.underlying32 (by kernel_rfl)
theorem fd32_3 : FD Try.prog 32 3 3 := .of Try.underlying32 (by kernel_rfl)
end net15
open net15

def msgOf (i : Nat) : Msg := toM (1 + (i : Int) % 3) (4 + (i : Int) % 2) i
theorem Send_ord {n ps} {i : Nat} (h : ps.map (·.1) = (List.range (min i 500)).map msgOf) : Cn Try.prog 10 [.pointer (some ⟨n, 0, none⟩), .agg (mval (msgOf i) zs).toArray] (mat (msgOf i) zs) [net n ps []] fun v G =>
    ∃ ps' b, ps'.map (·.1) = (List.range (min (i + 1) 500)).map msgOf ∧ v = .bool b ∧ G = [net n ps' []] := by
  have hl : ps.length = min i 500 := by have := congrArg List.length h; simpa using this
  refine (Send_ok n ps [] (msgOf i) zs (ok_toM _ _ _)).mono fun v G hq => ?_
  have hp : partedS [] (msgOf i).hd.frm (msgOf i).hd.to = false := rfl
  rcases hq with ⟨s', hs, hv, hG⟩ | ⟨hs, hv, hG⟩
  · refine ⟨_, _, ?_, hv, hG⟩
    have : ps.length < 500 := by simp [sentS, hp] at hs; exact hs
    rw [List.map_append, h, show min (i + 1) 500 = min i 500 + 1 by omega, List.range_succ, List.map_append]
    simp; congr 1; omega
  · refine ⟨_, _, ?_, hv, hG⟩
    have : 500 ≤ ps.length := by simp [sentS, hp] at hs; exact hs
    rw [h]; congr 2; omega
structure Ord (ps : List Pm) (pt : Pt) : Prop where
  sub : (ps.map (·.1)).Sublist ((List.range 500).map msgOf)
  un : ∀ p ∈ ps, partedS pt p.1.hd.frm p.1.hd.to = false
theorem Ord.len {ps pt} (h : Ord ps pt) : ps.length ≤ 500 := by have := h.sub.length_le; simpa using this
theorem ends_eq_iff {ps : List Pm} {pt : Pt} {a b x y : Int} : partedS (mset pt (endsS a b) true) x y = if endsS x y = endsS a b then true else partedS pt x y := by
  unfold partedS
  rw [mget_mset]
  by_cases h : endsS x y = endsS a b
  · simp [h]
  · simp [h]
theorem Part_ord {n ps pt} {a b : Int} (h : Ord ps pt) (hab : a ≠ b) : Cn Try.prog 12 [.pointer (some ⟨n, 0, none⟩), .int .i64 a, .int .i64 b] (fun _ => True) [net n ps pt] fun v G => ∃ ps' pt', Ord ps' pt' ∧ v = .tuple #[] ∧ G = [net n ps' pt'] := by
  refine (Part_ok n ps pt a b (by have := h.len; omega)).mono fun v G hq => ?_
  obtain ⟨hv, hG⟩ := hq
  rw [if_neg hab] at hG
  refine ⟨_, _, ⟨?_, ?_⟩, hv, hG⟩
  · exact (List.filter_sublist.map _).trans h.sub
  · intro p hp
    obtain ⟨hp1, hp2⟩ := List.mem_filter.1 hp
    have : ¬ endsS p.1.hd.frm p.1.hd.to = endsS a b := by simpa [hit] using hp2
    rw [ends_eq_iff (ps := ps), if_neg this]
    exact h.un p hp1
theorem Ord.start {ps : List Pm} {N : Nat} (h : ps.map (·.1) = (List.range (min N 500)).map msgOf) : Ord ps [] :=
  ⟨by rw [h]; exact (List.range_sublist.2 (by omega)).map _, fun _ _ => rfl⟩
def TakeO (ps ps' : List Pm) (p : Pm) (ok : Bool) : Prop := (ok = true ∧ ps = p :: ps') ∨ (ok = false ∧ ps = [] ∧ ps' = [])
theorem Take_ord {n ps pt} (hl : ps.length ≤ 500) : Cn Try.prog 13 [.pointer (some ⟨n, 0, none⟩), .int .i64 0] (fun _ => True) [net n ps pt] fun v G => ∃ ps' p ok, TakeO ps ps' p ok ∧ v = .tuple #[.agg (mval p.1 p.2).toArray, .bool ok] ∧ G = [net n ps' pt, owm p.1 p.2] := by
  refine (Take_ok n ps pt 0 hl).mono fun v G hq => ?_
  obtain ⟨ps', p, ok, hT, hv, hG⟩ := hq
  refine ⟨ps', p, ok, ?_, hv, hG⟩
  rcases hT with ⟨rfl, j, hj, hp, rfl⟩ | ⟨rfl, hi, rfl, rfl⟩
  · obtain rfl : j = 0 := by omega
    cases ps with
    | nil => cases hp
    | cons q ps => simp at hp; subst hp; exact .inl ⟨rfl, rfl⟩
  · have : ps' = [] := List.eq_nil_of_length_eq_zero (by omega)
    subst this; exact .inr ⟨rfl, rfl, rfl⟩
theorem Ord.tail {p ps pt} (h : Ord (p :: ps) pt) : Ord ps pt := ⟨(List.sublist_cons_self _ _).trans h.sub, fun q hq => h.un q (List.mem_cons_of_mem _ hq)⟩
theorem Ord.head {p ps pt} (h : Ord (p :: ps) pt) : ∃ j : Nat, j < 500 ∧ p.1 = msgOf j := by
  have : p.1 ∈ (List.range 500).map msgOf := h.sub.subset (by simp)
  obtain ⟨j, hj, e⟩ := List.mem_map.1 this
  exact ⟨j, List.mem_range.1 hj, e.symm⟩
theorem Ord.lt {p ps pt} (h : Ord (p :: ps) pt) : ∀ q ∈ ps, p.1.hd.id < q.1.hd.id := by
  have hw : ((List.range 500).map msgOf).Pairwise fun a b => a.hd.id < b.hd.id := by
    rw [List.pairwise_map]
    exact List.pairwise_lt_range.imp fun h => by show ((_ : Nat) : Int) < ((_ : Nat) : Int); omega
  have := hw.sublist h.sub
  intro q hq
  exact (List.pairwise_cons.1 this).1 q.1 (List.mem_map_of_mem hq)
theorem pick_range {c n : Int} (hn : 0 < n) : 0 ≤ pickS c n ∧ pickS c n < n := ⟨Int.emod_nonneg _ (by omega), Int.emod_lt_of_pos _ hn⟩
theorem neg_one_lt {ps pt} (h : Ord ps pt) : ∀ p ∈ ps, (-1 : Int) < p.1.hd.id := by
  intro p hp
  have : p.1 ∈ (List.range 500).map msgOf := h.sub.subset (List.mem_map_of_mem hp)
  obtain ⟨j, _, e⟩ := List.mem_map.1 this
  rw [← e]; show (-1 : Int) < (j : Int); omega

theorem NetOrder_ok (many : Int) (hm1 : -9223372036854775808 ≤ many) (hm2 : many ≤ 9223372036854775807) (a : Option Addr) (c : Nat) (l : List Int) (hl : ∀ x ∈ l, -9223372036854775808 ≤ x ∧ x ≤ 9223372036854775807) :
    Cn Try.prog 3 [.int .i64 many, .slice a l.length c] (RowAt a (l.flatMap icell)) [] fun v G => v = .bool true ∧ G = [] := by
  refine .enter Try.func3 rfl (by kernel_rfl) rfl fun R k => ?_
  refine .seq ?_
  refine .region ?_   -- R0 law.go:155
  refine .rd (.assign rfl) ?_
  refine .nil ?_
  refine .seq ?_
  refine .region ?_   -- R1 law.go:156
  refine .fn rfl rfl .nil (fun _ _ _ => trivial) (shown_ok) (fun v G1 hq => ?_)
  obtain ⟨rfl, rfl⟩ := hq
  simp only [List.nil_append]
  refine .rd (.assign rfl) ?_
  refine .nil ?_
  refine .seq ?_
  refine .region ?_   -- R2 law.go:157
  refine .fn rfl rfl .nil (fun _ _ _ => trivial) (New_ok) (fun v G1 hq => ?_)
  obtain ⟨n, rfl, rfl⟩ := hq
  simp only [List.cons_append, List.nil_append]
  refine .rd (.assign rfl) ?_
  refine .nil ?_
  refine .seq ?_
  refine .seq ?_
  refine .region ?_   -- R3 law.go:158
  refine .rd (.move rfl) ?_
  refine .rd (.not rfl) ?_
  refine .rd (.move rfl) ?_
  refine .on (t := 17) rfl rfl ?_
  refine .rd (.move rfl) ?_
  refine .on (t := 17) rfl rfl ?_
  refine .rd (.eqNilP Try.underlying24 rfl rfl) ?_
  refine .rd (.pickF rfl rfl) ?_
  refine .nil ?_
  refine .condF rfl ?_
  refine .skip ?_
  refine .seq ?_
  refine .region ?_   -- R5 law.go:161
  refine .rd (.move rfl) ?_
  refine .fn rfl rfl .nil (fun _ _ _ => trivial) (pick_ok many 600 hm1 hm2 (by decide)) (fun v G1 hq => ?_)
  obtain ⟨rfl, rfl⟩ := hq
  simp only [List.nil_append]
  refine .rd (.assign rfl) ?_
  refine .nil ?_
  obtain ⟨hN0, hN1⟩ := pick_range (c := many) (n := 600) (by decide)
  generalize hN : pickS many 600 = N at hN0 hN1
  refine .seq ?_
  refine .seq ?_
  refine .region ?_   -- R6 law.go:162
  refine .rd (.assign rfl) ?_
  refine .nil ?_
  refine .block ?_
  refine .loop (σ := Nat × List Pm) (fun ⟨i, ps⟩ => (i : Int) ≤ N ∧ ps.map (·.1) = (List.range (min i 500)).map msgOf) (fun ⟨i, ps⟩ => N.toNat - i) (fun ⟨i, ps⟩ => [(0, .int .i64 N), (1, .slice a l.length c), (6, .pointer (some ⟨n, 0, none⟩)), (7, .int .i64 (i : Nat))]) (fun ⟨i, ps⟩ => [net n ps [], R]) (0, []) ⟨hN0, rfl⟩ (.cons rfl (.cons rfl (.cons rfl (.cons rfl .nil)))) (.cons .head (.cons .head .nil)) (fun s hI ih => ?_)
  obtain ⟨i, ps⟩ := s
  dsimp only at hI ih ⊢
  have hi := hI.1
  refine .seq ?_
  refine .seq ?_
  refine .region ?_   -- R7 law.go:162
  refine .rd (.move rfl) ?_
  refine .rd (.move rfl) ?_
  refine .rd (.lt rfl rfl) ?_
  refine .nil ?_
  refine .condP rfl (fun h7 => ?_) (fun h7 => ?_)
  · refine .skip ?_
    refine .seq ?_
    refine .block ?_
    refine .region ?_   -- R9 law.go:163
    refine .rd (.move rfl) ?_
    refine .rd (.move rfl) ?_
    refine .rd (.rem rfl rfl (by omega) (by omega)) ?_
    refine .rd (.add rfl rfl (by omega) (by omega)) ?_
    refine .rd (.move rfl) ?_
    refine .rd (.rem rfl rfl (by omega) (by omega)) ?_
    refine .rd (.add rfl rfl (by omega) (by omega)) ?_
    refine .rd (.move rfl) ?_
    refine .fn rfl rfl .nil (fun _ _ _ => trivial) (to_ok' (1 + (i : Int) % 3) (4 + (i : Int) % 2) i) (fun v G1 hq => ?_)
    obtain ⟨rfl, rfl⟩ := hq
    simp only [List.nil_append]
    refine .fn rfl rfl (.cons .head .nil) (fun _ _ _ => mat_toM _ _ _ _) (Send_ord hI.2) (fun v G1 hq => ?_)
    obtain ⟨ps', b, hps', rfl, rfl⟩ := hq
    simp only [List.cons_append, List.nil_append]
    refine .nil ?_
    refine .inBlock ?_
    refine .region ?_   -- R8 law.go:162
    refine .rd (.move rfl) ?_
    refine .rd (.add rfl rfl (by omega) (by omega)) ?_
    refine .rd (.assign rfl) ?_
    refine .nil ?_
    exact (ih (i + 1, ps') ⟨by show ((i + 1 : Nat) : Int) ≤ N; omega, hps'⟩ (by show N.toNat - (i + 1) < N.toNat - i; omega)).to (.cons rfl (.cons rfl (.cons rfl (.cons rfl .nil)))) (.cons .head (.cons .head .nil))
  · refine .exit rfl ?_
    refine .seq ?_
    refine .seq ?_
    refine .region ?_   -- R10 law.go:165
    refine .rd (.assign rfl) ?_
    refine .nil ?_
    refine .block ?_
    refine .loop (σ := Nat × List Pm × Pt) (fun ⟨i, ps, pt⟩ => i ≤ l.length ∧ Ord ps pt) (fun ⟨i, ps, pt⟩ => l.length - i) (fun ⟨i, ps, pt⟩ => [(1, .slice a l.length c), (6, .pointer (some ⟨n, 0, none⟩)), (8, .int .i64 (i : Nat))]) (fun ⟨i, ps, pt⟩ => [net n ps pt, R]) (0, ps, []) ⟨Nat.zero_le _, Ord.start hI.2⟩ (.cons rfl (.cons rfl (.cons rfl .nil))) (.cons .head (.cons .head .nil)) (fun s hI ih => ?_)
    obtain ⟨i, ps, pt⟩ := s
    dsimp only at hI ih ⊢
    have hi := hI.1
    refine .seq ?_
    refine .seq ?_
    refine .region ?_   -- R11 law.go:165
    refine .rd (.move rfl) ?_
    refine .rd (.move rfl) ?_
    refine .rd (.lenL rfl rfl Try.underlying22 rfl) ?_
    refine .rd (.lt rfl rfl) ?_
    refine .rd (.move rfl) ?_
    refine .split (t := 42) rfl (fun h11 => ?_) (fun h11 => ?_)
    · replace h11 := of_decide_eq_true h11
      refine .on (t := 42) rfl rfl ?_
      refine .rd (.move rfl) ?_
      refine .on (t := 42) rfl rfl ?_
      refine .rd (.lt rfl rfl) ?_
      refine .rd (.pickT rfl rfl) ?_
      refine .nil ?_
      refine .condP rfl (fun h11b => ?_) (fun h11b => ?_)
      · refine .skip ?_
        refine .seq ?_
        refine .block ?_
        have hj : i < l.length := by omega
        obtain ⟨x, hx⟩ : ∃ x, l[i]? = some x := ⟨_, List.getElem?_eq_getElem hj⟩
        obtain ⟨hx1, hx2⟩ := hl x (List.mem_of_getElem? hx)
        refine .tell (φ := ∃ b o, a = some ⟨b, o, none⟩) (Knows.pick (.tail .head) (k.mono fun _ h => h.addr (by rw [flat_length icell_len]; omega))) (fun hx => ?_)
        obtain ⟨bb, oo, rfl⟩ := hx
        obtain ⟨y1, y2⟩ := pick_range (c := x) (n := 3) (by decide)
        obtain ⟨y3, y4⟩ := pick_range (c := x) (n := 2) (by decide)
        refine .draws [4, 10] [R] (by kernel_rfl) ?_   -- R13 law.go:166
        refine .rp 0 rfl (by kernel_rfl) (by kernel_rfl) (by kernel_rfl) (Reads.pure (.move rfl)) ?_
        refine .rp 1 rfl (by kernel_rfl) (by kernel_rfl) (by kernel_rfl) (Reads.pure (.move rfl)) ?_
        refine .rp 2 rfl (by kernel_rfl) (by kernel_rfl) (by kernel_rfl) (Reads.pure (.move rfl)) ?_
        refine .rp 3 rfl (by kernel_rfl) (by kernel_rfl) (by kernel_rfl) (Reads.pure (.indexAddr Try.underlying22 ts3 rfl rfl (by omega) (by omega))) ?_
        refine .rd 4 rfl rfl (by kernel_rfl) (by kernel_rfl) (by kernel_rfl) (.load na3 rfl (Knows.one (i := 0) (Knows.elem icell_len (by decide) (Knows.pick .head k) hx) rfl)) (.cons (.tail .head) .nil) ?_
        refine .rp 7 rfl (by kernel_rfl) (by kernel_rfl) (by kernel_rfl) (Reads.pure (.move rfl)) ?_
        refine .rp 8 rfl (by kernel_rfl) (by kernel_rfl) (by kernel_rfl) (Reads.pure (.move rfl)) ?_
        refine .rp 9 rfl (by kernel_rfl) (by kernel_rfl) (by kernel_rfl) (Reads.pure (.indexAddr Try.underlying22 ts3 rfl rfl (by omega) (by omega))) ?_
        refine .rd 10 rfl rfl (by kernel_rfl) (by kernel_rfl) (by kernel_rfl) (.load na3 rfl (Knows.one (i := 0) (Knows.elem icell_len (by decide) (Knows.pick .head k) hx) rfl)) (.cons (.tail .head) .nil) ?_
        refine .ef 5 (by kernel_rfl) rfl (.fn rfl rfl .nil (fun _ _ _ => trivial) (pick_ok x 3 hx1 hx2 (by decide))) ?_
        rintro v _ ⟨G1, hq, rfl⟩
        obtain ⟨rfl, rfl⟩ := hq
        simp only [List.nil_append]
        refine ⟨.inr ⟨_, (.cons (.tail .head) .nil)⟩, ?_⟩
        refine .rp 6 rfl (by kernel_rfl) (by kernel_rfl) (by kernel_rfl) (Reads.pure (.add rfl rfl (by omega) (by omega))) ?_
        refine .ef 11 (by kernel_rfl) rfl (.fn rfl rfl .nil (fun _ _ _ => trivial) (pick_ok x 2 hx1 hx2 (by decide))) ?_
        rintro v _ ⟨G1, hq, rfl⟩
        obtain ⟨rfl, rfl⟩ := hq
        simp only [List.nil_append]
        refine ⟨.inl (by kernel_rfl), ?_⟩
        refine .rp 12 rfl (by kernel_rfl) (by kernel_rfl) (by kernel_rfl) (Reads.pure (.add rfl rfl (by omega) (by omega))) ?_
        refine .ef 13 (by kernel_rfl) rfl (.fn rfl rfl (.cons .head .nil) (fun _ _ _ => trivial) (Part_ord (a := 1 + pickS x 3) (b := 4 + pickS x 2) hI.2 (by omega))) ?_
        rintro v _ ⟨G1, hq, rfl⟩
        obtain ⟨ps', pt', hO', rfl, rfl⟩ := hq
        simp only [List.cons_append, List.nil_append]
        refine ⟨.inl (by kernel_rfl), ?_⟩
        refine .done (by kernel_rfl) ?_
        refine .inBlock ?_
        refine .region ?_   -- R12 law.go:165
        refine .rd (.move rfl) ?_
        refine .rd (.add rfl rfl (by omega) (by omega)) ?_
        refine .rd (.assign rfl) ?_
        refine .nil ?_
        exact (ih (i + 1, ps', pt') ⟨by show i + 1 ≤ _; omega, hO'⟩ (by show l.length - (i + 1) < l.length - i; omega)).to (.cons rfl (.cons rfl (.cons rfl .nil))) (.cons .head (.cons .head .nil))
      · refine .exit rfl ?_
        refine .seq ?_
        refine .region ?_   -- R14 law.go:168
        refine .rd (.assign rfl) ?_
        refine .nil ?_
        refine .block ?_
        refine .loop (σ := List Pm × Int) (fun ⟨ps, last⟩ => Ord ps pt ∧ ∀ p ∈ ps, last < p.1.hd.id) (fun ⟨ps, last⟩ => ps.length) (fun ⟨ps, last⟩ => [(6, .pointer (some ⟨n, 0, none⟩)), (9, .int .i64 last)]) (fun ⟨ps, last⟩ => [net n ps pt, R]) (ps, -1) ⟨hI.2, neg_one_lt hI.2⟩ (.cons rfl (.cons rfl .nil)) (.cons .head (.cons .head .nil)) (fun s hI ih => ?_)
        obtain ⟨ps, last⟩ := s
        dsimp only at hI ih ⊢
        refine .block ?_
        refine .seq ?_
        refine .region ?_   -- R15 law.go:170
        refine .rd (.move rfl) ?_
        refine .fn rfl rfl (.cons .head .nil) (fun _ _ _ => trivial) (Take_ord hI.1.len) (fun v G1 hq => ?_)
        obtain ⟨ps', p, ok, hT, rfl, rfl⟩ := hq
        simp only [List.cons_append, List.nil_append]
        refine .rd (.move rfl) ?_
        refine .rd (.extract rfl rfl) ?_
        refine .rd (.extract rfl rfl) ?_
        refine .ef (.alloc ti32 rfl (ones.of rfl)) ?_
        rintro _ _ ⟨b10, rfl, rfl⟩
        refine .ef0 (.storeAll (vs := mval p.1 p.2) ts32 rfl rfl rfl .head rfl (ones.of rfl)) ?_
        rintro _ _ rfl
        refine .rd (.assign rfl) ?_
        refine .nil ?_
        refine .seq ?_
        refine .seq ?_
        refine .region ?_   -- R16 law.go:171
        refine .rd (.move rfl) ?_
        refine .rd (.not rfl) ?_
        refine .nil ?_
        refine .cond rfl (fun c16 => ?_) (fun c16 => ?_)
        · obtain ⟨rfl, rfl⟩ : ps = [] ∧ ps' = [] := by rcases hT with ⟨rfl, _⟩ | ⟨_, h⟩; simp at c16; exact h
          refine .seq ?_
          refine .region ?_   -- R17 law.go:172
          refine .rd (.move rfl) ?_
          refine .fn rfl rfl (.cons (.tail .head) .nil) (fun _ _ _ => trivial) (Len_ok n [] _) (fun v G1 hq => ?_)
          obtain ⟨rfl, rfl⟩ := hq
          simp only [List.cons_append, List.nil_append]
          refine .rd (.eqI rfl rfl) ?_
          refine .alter (t := 71) (v' := .bool true) rfl (by rfl) ?_
          refine .rd (.assign rfl) ?_
          refine .nil ?_
          refine .retP Try.func3 (.cons (.tmp rfl) .nil) (.cons (.tail (.tail (.tail .head))) .nil) ?_
          exact ⟨[], ⟨rfl, rfl⟩, rfl⟩
        · obtain rfl : ps = p :: ps' := by rcases hT with ⟨_, h⟩ | ⟨rfl, _⟩; exact h; simp at c16
          obtain ⟨j, hj, hm⟩ := hI.1.head
          have hun := hI.1.un p (by simp)
          have hlast := hI.2 p (by simp)
          have hlt := hI.1.lt
          obtain ⟨m, s⟩ := p
          dsimp only at hm hun hlast hlt
          subst hm
          have hid : (msgOf j).hd.id = j := rfl
          have e1 : (msgOf j).hd.frm = 1 + (j : Int) % 3 := rfl
          have e2 : (msgOf j).hd.to = 4 + (j : Int) % 2 := rfl
          rw [hid] at hlast
          refine .skip ?_
          refine .seq ?_
          refine .region ?_   -- R18 law.go:174
          refine .rd (.move rfl) ?_
          refine .rd (.fieldAddr fd32_1 rfl) ?_
          refine .rd (.ld na3 rfl .head rfl) ?_
          refine .rd (.fieldAddr fd32_2 rfl) ?_
          refine .rd (.ld na3 rfl .head rfl) ?_
          refine .fn rfl rfl (.cons (.tail .head) .nil) (fun _ _ _ => trivial) (Parted_ok n _ _ (msgOf j).hd.frm (msgOf j).hd.to) (fun v G1 hq => ?_)
          obtain ⟨rfl, rfl⟩ := hq
          simp only [List.cons_append, List.nil_append]
          refine .alter (t := 77) (v' := .bool false) rfl (by rw [hun]) ?_
          refine .rd (.assign rfl) ?_
          refine .nil ?_
          refine .seq ?_
          refine .seq ?_
          refine .region ?_   -- R19 law.go:175
          refine .rd (.fieldAddr fd32_3 rfl) ?_
          refine .rd (.ld na3 rfl (.tail .head) rfl) ?_
          refine .alter (t := 79) (v' := .int .i64 (j : Nat)) rfl rfl ?_
          refine .rd (.move rfl) ?_
          refine .rd (.le rfl rfl) ?_
          refine .alter (t := 81) (v' := .bool false) rfl (by rw [decide_eq_false (by omega)]) ?_
          refine .rd (.move rfl) ?_
          refine .on (t := 82) rfl rfl ?_
          refine .rd (.fieldAddr fd32_1 rfl) ?_
          refine .on (t := 82) rfl rfl ?_
          refine .rd (.ld na3 rfl (.tail .head) rfl) ?_
          refine .on (t := 82) rfl rfl ?_
          refine .rd (.fieldAddr fd32_3 rfl) ?_
          refine .on (t := 82) rfl rfl ?_
          refine .rd (.ld na3 rfl (.tail .head) rfl) ?_
          refine .alter (t := 86) (v' := .int .i64 (j : Nat)) rfl rfl ?_
          refine .on (t := 82) rfl rfl ?_
          refine .rd (.rem rfl rfl (by omega) (by omega)) ?_
          refine .on (t := 82) rfl rfl ?_
          refine .rd (.add rfl rfl (by omega) (by omega)) ?_
          refine .on (t := 82) rfl rfl ?_
          refine .rd (.neI rfl rfl) ?_
          refine .alter (t := 89) (v' := .bool false) rfl (by rw [e1]; simp) ?_
          refine .rd (.pickF rfl rfl) ?_
          refine .rd (.move rfl) ?_
          refine .on (t := 91) rfl rfl ?_
          refine .rd (.fieldAddr fd32_2 rfl) ?_
          refine .on (t := 91) rfl rfl ?_
          refine .rd (.ld na3 rfl (.tail .head) rfl) ?_
          refine .on (t := 91) rfl rfl ?_
          refine .rd (.fieldAddr fd32_3 rfl) ?_
          refine .on (t := 91) rfl rfl ?_
          refine .rd (.ld na3 rfl (.tail .head) rfl) ?_
          refine .alter (t := 95) (v' := .int .i64 (j : Nat)) rfl rfl ?_
          refine .on (t := 91) rfl rfl ?_
          refine .rd (.rem rfl rfl (by omega) (by omega)) ?_
          refine .on (t := 91) rfl rfl ?_
          refine .rd (.add rfl rfl (by omega) (by omega)) ?_
          refine .on (t := 91) rfl rfl ?_
          refine .rd (.neI rfl rfl) ?_
          refine .alter (t := 98) (v' := .bool false) rfl (by rw [e2]; simp) ?_
          refine .rd (.pickF rfl rfl) ?_
          refine .rd (.move rfl) ?_
          refine .on (t := 100) rfl rfl ?_
          refine .rd (.move rfl) ?_
          refine .rd (.pickF rfl rfl) ?_
          refine .rd (.move rfl) ?_
          refine .on (t := 103) rfl rfl ?_
          refine .rd (.fieldAddr fd32_3 rfl) ?_
          refine .on (t := 103) rfl rfl ?_
          refine .rd (.ld na3 rfl (.tail .head) rfl) ?_
          refine .alter (t := 105) (v' := .int .i64 (j : Nat)) rfl rfl ?_
          refine .on (t := 103) rfl rfl ?_
          refine .rd (.ge rfl rfl) ?_
          refine .alter (t := 106) (v' := .bool false) rfl (by rw [decide_eq_false (by omega)]) ?_
          refine .rd (.pickF rfl rfl) ?_
          refine .nil ?_
          refine .condF rfl ?_
          refine .skip ?_
          refine .region ?_   -- R21 law.go:178
          refine .rd (.fieldAddr fd32_3 rfl) ?_
          refine .rd (.ld na3 rfl (.tail .head) rfl) ?_
          refine .alter (t := 109) (v' := .int .i64 (j : Nat)) rfl rfl ?_
          refine .rd (.assign rfl) ?_
          refine .nil ?_
          refine .inBlock ?_
          exact (ih (ps', (j : Int)) ⟨hI.1.tail, fun q hq => by have := hlt q hq; rw [hid] at this; exact this⟩ (by show ps'.length < (_ :: ps').length; simp)).to (.cons rfl (.cons rfl .nil)) (.cons .head (.cons (.tail (.tail .head)) .nil))
    · replace h11 := of_decide_eq_false h11
      refine .off (t := 42) rfl rfl rfl ?_
      refine .off (t := 42) rfl rfl rfl ?_
      refine .rd (.pickF rfl rfl) ?_
      refine .nil ?_
      refine .condF rfl ?_
      refine .exit rfl ?_
      refine .seq ?_
      refine .region ?_   -- R14 law.go:168
      refine .rd (.assign rfl) ?_
      refine .nil ?_
      refine .block ?_
      refine .loop (σ := List Pm × Int) (fun ⟨ps, last⟩ => Ord ps pt ∧ ∀ p ∈ ps, last < p.1.hd.id) (fun ⟨ps, last⟩ => ps.length) (fun ⟨ps, last⟩ => [(6, .pointer (some ⟨n, 0, none⟩)), (9, .int .i64 last)]) (fun ⟨ps, last⟩ => [net n ps pt, R]) (ps, -1) ⟨hI.2, neg_one_lt hI.2⟩ (.cons rfl (.cons rfl .nil)) (.cons .head (.cons .head .nil)) (fun s hI ih => ?_)
      obtain ⟨ps, last⟩ := s
      dsimp only at hI ih ⊢
      refine .block ?_
      refine .seq ?_
      refine .region ?_   -- R15 law.go:170
      refine .rd (.move rfl) ?_
      refine .fn rfl rfl (.cons .head .nil) (fun _ _ _ => trivial) (Take_ord hI.1.len) (fun v G1 hq => ?_)
      obtain ⟨ps', p, ok, hT, rfl, rfl⟩ := hq
      simp only [List.cons_append, List.nil_append]
      refine .rd (.move rfl) ?_
      refine .rd (.extract rfl rfl) ?_
      refine .rd (.extract rfl rfl) ?_
      refine .ef (.alloc ti32 rfl (ones.of rfl)) ?_
      rintro _ _ ⟨b10, rfl, rfl⟩
      refine .ef0 (.storeAll (vs := mval p.1 p.2) ts32 rfl rfl rfl .head rfl (ones.of rfl)) ?_
      rintro _ _ rfl
      refine .rd (.assign rfl) ?_
      refine .nil ?_
      refine .seq ?_
      refine .seq ?_
      refine .region ?_   -- R16 law.go:171
      refine .rd (.move rfl) ?_
      refine .rd (.not rfl) ?_
      refine .nil ?_
      refine .cond rfl (fun c16 => ?_) (fun c16 => ?_)
      · obtain ⟨rfl, rfl⟩ : ps = [] ∧ ps' = [] := by rcases hT with ⟨rfl, _⟩ | ⟨_, h⟩; simp at c16; exact h
        refine .seq ?_
        refine .region ?_   -- R17 law.go:172
        refine .rd (.move rfl) ?_
        refine .fn rfl rfl (.cons (.tail .head) .nil) (fun _ _ _ => trivial) (Len_ok n [] _) (fun v G1 hq => ?_)
        obtain ⟨rfl, rfl⟩ := hq
        simp only [List.cons_append, List.nil_append]
        refine .rd (.eqI rfl rfl) ?_
        refine .alter (t := 71) (v' := .bool true) rfl (by rfl) ?_
        refine .rd (.assign rfl) ?_
        refine .nil ?_
        refine .retP Try.func3 (.cons (.tmp rfl) .nil) (.cons (.tail (.tail (.tail .head))) .nil) ?_
        exact ⟨[], ⟨rfl, rfl⟩, rfl⟩
      · obtain rfl : ps = p :: ps' := by rcases hT with ⟨_, h⟩ | ⟨rfl, _⟩; exact h; simp at c16
        obtain ⟨j, hj, hm⟩ := hI.1.head
        have hun := hI.1.un p (by simp)
        have hlast := hI.2 p (by simp)
        have hlt := hI.1.lt
        obtain ⟨m, s⟩ := p
        dsimp only at hm hun hlast hlt
        subst hm
        have hid : (msgOf j).hd.id = j := rfl
        have e1 : (msgOf j).hd.frm = 1 + (j : Int) % 3 := rfl
        have e2 : (msgOf j).hd.to = 4 + (j : Int) % 2 := rfl
        rw [hid] at hlast
        refine .skip ?_
        refine .seq ?_
        refine .region ?_   -- R18 law.go:174
        refine .rd (.move rfl) ?_
        refine .rd (.fieldAddr fd32_1 rfl) ?_
        refine .rd (.ld na3 rfl .head rfl) ?_
        refine .rd (.fieldAddr fd32_2 rfl) ?_
        refine .rd (.ld na3 rfl .head rfl) ?_
        refine .fn rfl rfl (.cons (.tail .head) .nil) (fun _ _ _ => trivial) (Parted_ok n _ _ (msgOf j).hd.frm (msgOf j).hd.to) (fun v G1 hq => ?_)
        obtain ⟨rfl, rfl⟩ := hq
        simp only [List.cons_append, List.nil_append]
        refine .alter (t := 77) (v' := .bool false) rfl (by rw [hun]) ?_
        refine .rd (.assign rfl) ?_
        refine .nil ?_
        refine .seq ?_
        refine .seq ?_
        refine .region ?_   -- R19 law.go:175
        refine .rd (.fieldAddr fd32_3 rfl) ?_
        refine .rd (.ld na3 rfl (.tail .head) rfl) ?_
        refine .alter (t := 79) (v' := .int .i64 (j : Nat)) rfl rfl ?_
        refine .rd (.move rfl) ?_
        refine .rd (.le rfl rfl) ?_
        refine .alter (t := 81) (v' := .bool false) rfl (by rw [decide_eq_false (by omega)]) ?_
        refine .rd (.move rfl) ?_
        refine .on (t := 82) rfl rfl ?_
        refine .rd (.fieldAddr fd32_1 rfl) ?_
        refine .on (t := 82) rfl rfl ?_
        refine .rd (.ld na3 rfl (.tail .head) rfl) ?_
        refine .on (t := 82) rfl rfl ?_
        refine .rd (.fieldAddr fd32_3 rfl) ?_
        refine .on (t := 82) rfl rfl ?_
        refine .rd (.ld na3 rfl (.tail .head) rfl) ?_
        refine .alter (t := 86) (v' := .int .i64 (j : Nat)) rfl rfl ?_
        refine .on (t := 82) rfl rfl ?_
        refine .rd (.rem rfl rfl (by omega) (by omega)) ?_
        refine .on (t := 82) rfl rfl ?_
        refine .rd (.add rfl rfl (by omega) (by omega)) ?_
        refine .on (t := 82) rfl rfl ?_
        refine .rd (.neI rfl rfl) ?_
        refine .alter (t := 89) (v' := .bool false) rfl (by rw [e1]; simp) ?_
        refine .rd (.pickF rfl rfl) ?_
        refine .rd (.move rfl) ?_
        refine .on (t := 91) rfl rfl ?_
        refine .rd (.fieldAddr fd32_2 rfl) ?_
        refine .on (t := 91) rfl rfl ?_
        refine .rd (.ld na3 rfl (.tail .head) rfl) ?_
        refine .on (t := 91) rfl rfl ?_
        refine .rd (.fieldAddr fd32_3 rfl) ?_
        refine .on (t := 91) rfl rfl ?_
        refine .rd (.ld na3 rfl (.tail .head) rfl) ?_
        refine .alter (t := 95) (v' := .int .i64 (j : Nat)) rfl rfl ?_
        refine .on (t := 91) rfl rfl ?_
        refine .rd (.rem rfl rfl (by omega) (by omega)) ?_
        refine .on (t := 91) rfl rfl ?_
        refine .rd (.add rfl rfl (by omega) (by omega)) ?_
        refine .on (t := 91) rfl rfl ?_
        refine .rd (.neI rfl rfl) ?_
        refine .alter (t := 98) (v' := .bool false) rfl (by rw [e2]; simp) ?_
        refine .rd (.pickF rfl rfl) ?_
        refine .rd (.move rfl) ?_
        refine .on (t := 100) rfl rfl ?_
        refine .rd (.move rfl) ?_
        refine .rd (.pickF rfl rfl) ?_
        refine .rd (.move rfl) ?_
        refine .on (t := 103) rfl rfl ?_
        refine .rd (.fieldAddr fd32_3 rfl) ?_
        refine .on (t := 103) rfl rfl ?_
        refine .rd (.ld na3 rfl (.tail .head) rfl) ?_
        refine .alter (t := 105) (v' := .int .i64 (j : Nat)) rfl rfl ?_
        refine .on (t := 103) rfl rfl ?_
        refine .rd (.ge rfl rfl) ?_
        refine .alter (t := 106) (v' := .bool false) rfl (by rw [decide_eq_false (by omega)]) ?_
        refine .rd (.pickF rfl rfl) ?_
        refine .nil ?_
        refine .condF rfl ?_
        refine .skip ?_
        refine .region ?_   -- R21 law.go:178
        refine .rd (.fieldAddr fd32_3 rfl) ?_
        refine .rd (.ld na3 rfl (.tail .head) rfl) ?_
        refine .alter (t := 109) (v' := .int .i64 (j : Nat)) rfl rfl ?_
        refine .rd (.assign rfl) ?_
        refine .nil ?_
        refine .inBlock ?_
        exact (ih (ps', (j : Int)) ⟨hI.1.tail, fun q hq => by have := hlt q hq; rw [hid] at this; exact this⟩ (by show ps'.length < (_ :: ps').length; simp)).to (.cons rfl (.cons rfl .nil)) (.cons .head (.cons (.tail (.tail .head)) .nil))

end Go.Proofs.Ytfbmbhajpmlffaa

