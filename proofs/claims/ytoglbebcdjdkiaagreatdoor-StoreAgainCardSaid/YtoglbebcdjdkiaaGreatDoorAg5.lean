/- Part 5 of a claim's texts: rules for the machine's steps, and steps through functions of the program, under the conditions that each theorem states. -/
import Derived.Test.YtoglbebcdjdkiaaGreatDoorProg
import Derived.WalkKit
import Derived.ProofKit
import Derived.OpenShut
import Derived.ShutString
import Derived.ChangeOld
import Derived.Below
import Derived.SizedLaws
import Derived.Carry
import Derived.LaidLaws
import Derived.Lib.LaidTab
import Derived.Stop.LaidErr
import Derived.MakeChecks
import Derived.Shelf.Vars
import Derived.FnData
import Derived.KernelRfl
import Derived.Test.YtoglbebcdjdkiaaGreatDoorAg0
import Derived.Test.YtoglbebcdjdkiaaGreatDoorAg1
import Derived.Test.YtoglbebcdjdkiaaGreatDoorAg2
import Derived.Test.YtoglbebcdjdkiaaGreatDoorAg3
import Derived.Test.YtoglbebcdjdkiaaGreatDoorAg4
set_option linter.unusedVariables false
namespace Go.Proofs.YtoglbebcdjdkiaaGreatDoor
open Go Go.Sp
namespace td6
theorem na9 : NotAgg Tryz.prog 9 := ⟨_, Tryz.underlying9, trivial⟩
theorem na4 : NotAgg Tryz.prog 4 := ⟨_, Tryz.underlying4, trivial⟩
theorem ts4 : TS Tryz.prog 4 1 := .of (by kernel_rfl)
theorem ts9 : TS Tryz.prog 9 1 := .of (by kernel_rfl)
theorem bld97_1 (x0 : Int) (w : World) : (Instr.build 97 (([1] : List Nat).zip [.int .i64 x0]).toArray).run Tryz.prog w = .ok (.agg #[.int .i64 0, .int .i64 0, .int .i64 0, .int .i64 x0]) w := by kernel_rfl
theorem ti97 : TI Tryz.prog 97 4 32 (.agg #[.int .i64 0, .int .i64 0, .int .i64 0, .int .i64 0]) := .of (by kernel_rfl)
theorem ts97 : TS Tryz.prog 97 4 := .of (by kernel_rfl)
theorem bld95_0_1_2 (x0 : Int) (x1 : Int) (x2 : Int) (w : World) : (Instr.build 95 (([0, 1, 2] : List Nat).zip [.int .i64 x0, .int .i64 x1, .int .i64 x2]).toArray).run Tryz.prog w = .ok (.agg #[.int .i64 x0, .int .i64 x1, .int .i64 x2]) w := by kernel_rfl
theorem bld97_0_1 (x0_0 : Int) (x0_1 : Int) (x0_2 : Int) (x1 : Int) (w : World) : (Instr.build 97 (([0, 1] : List Nat).zip [.agg #[.int .i64 x0_0, .int .i64 x0_1, .int .i64 x0_2], .int .i64 x1]).toArray).run Tryz.prog w = .ok (.agg #[.int .i64 x0_0, .int .i64 x0_1, .int .i64 x0_2, .int .i64 x1]) w := by kernel_rfl
theorem na3 : NotAgg Tryz.prog 3 := ⟨_, Tryz.underlying3, trivial⟩
theorem ia97 : IsAgg Tryz.prog 97 := ⟨_, Tryz.underlying97, trivial⟩
end td6
open td6
theorem lastN_small {l : List Nt} (ho : ∀ x ∈ l, NtOk x) (i : Nat) : (lastN l i).seq ≤ 1000000 ∧ 0 ≤ (lastN l i).seq ∧ 0 ≤ (lastN l i).n ∧ (lastN l i).n ≤ 64 := by
 unfold lastN
 cases e : (l.take i).getLast? with
 | none => exact ⟨by decide, by decide, by decide, by decide⟩
 | some x =>
  have := ho x (List.mem_of_mem_take (List.mem_of_getLast? e))
  have h1 := this.seq; have h2 := this.n
  show x.seq ≤ _ ∧ 0 ≤ x.seq ∧ 0 ≤ x.n ∧ x.n ≤ 64; omega
set_option maxHeartbeats 2000000 in
set_option maxRecDepth 20000 in
theorem tnext_ok (rb : Nat) (n : Int) (rest : List UInt8) (hn : i64 n) (hl : (eint n ++ rest).length ≤ 1000000000) : Cn Tryz.prog 72 [.pointer (some ⟨rb, 0, none⟩)] (fun _ => True) [blk rb [.string (str (eint n ++ rest)), .bool true] 132] fun v G => v = .int .i64 n ∧ G = [blk rb [.string (str (rest)), .bool true] 132] := by
 refine .enter Tryz.func72 rfl (by kernel_rfl) rfl fun R k => ?_
 have hl2 : (eint n ++ rest).length = (eint n).length + rest.length := List.length_append
 refine .goO fds 9 ?_
 refine .rd (.ld na9 rfl .head rfl) ?_
 refine .fn rfl rfl .nil (fun _ _ _ => trivial) (ReadInt_ok (eint n ++ rest) (by omega)) (fun v G1 hq => ?_)
 obtain ⟨rfl, rfl⟩ := hq
 simp only [List.nil_append]
 refine .alter (t := 11) (v' := .tuple #[.int .i64 n, .int .i64 ((eint n).length : Nat), .int .i64 0]) rfl (by rw [rint_eint hn]) ?_
 refine .goO fds 14 ?_
 refine .rd (.ld na4 rfl .head rfl) ?_
 refine .go fds 6 ?_
 refine .ef0 (.store ts4 rfl rfl .head rfl (Nat.le_of_ble_eq_true rfl)) ?_
 rintro _ _ rfl
 refine .goO fds 7 ?_
 refine .rd (.ld na9 rfl .head rfl) ?_
 refine .rd (.move rfl) ?_
 refine .rd (.sliceT (l := eint n ++ rest) (a := (eint n).length) (h := (eint n ++ rest).length) Tryz.underlying9 rfl ⟨_, rfl⟩ rfl (by omega) (by omega)) ?_
 refine .alter (t := 32) (v' := .string (str rest)) rfl (by rw [List.drop_left, List.take_of_length_le (by rw [List.length_append]; omega)]) ?_
 refine .go fds 2 ?_
 refine .ef0 (.store ts9 rfl rfl .head rfl (Nat.le_of_ble_eq_true rfl)) ?_
 rintro _ _ rfl
 refine .goR fds 6 ?_
 refine .retP Tryz.func72 (.cons (.tmp rfl) .nil) (.cons .head (.cons .head .nil)) ?_
 exact ⟨[_], ⟨rfl, rfl⟩, rfl⟩
set_option maxHeartbeats 2000000 in
set_option maxRecDepth 20000 in
theorem notes_ok (rb : Nat) (ns : List Nt) (rest : List UInt8) (hc : ns.Pairwise nextN) (ho : ∀ x ∈ ns, NtOk x) (hn : ns.length ≤ 10000) (hl : rest.length ≤ 500000000) : Cn Tryz.prog 73 [.pointer (some ⟨rb, 0, none⟩), .int .i64 (ns.length : Nat)] (fun _ => True) [blk rb [.string (str (ns.flatMap enN ++ rest)), .bool true] 132] fun v G => ∃ a c, v = .slice a ns.length c ∧ G = [blk rb [.string (str (rest)), .bool true] 132, arr 97 4 a c (ns.flatMap ntc)] := by
 refine .enter Tryz.func73 rfl (by kernel_rfl) rfl fun R k => ?_
 refine .goO fds 10 ?_
 refine .rd (.build rfl (bld97_1 _)) ?_
 refine .ef (.alloc ti97 rfl (ones.of rfl)) ?_
 rintro _ _ ⟨b6, rfl, rfl⟩
 refine .ef0 (.storeAll (vs := ntc nt0) ts97 rfl rfl rfl .head rfl (ones.of rfl)) ?_
 rintro _ _ rfl
 refine .nil ?_
 refine .cast (X' := blk b6 (ntc (lastN ns 0)) 97) (rfl) ?_
 refine .perm (.cons (.tail .head) (.cons .head (.cons .head .nil))) ?_
 refine .cast (X' := blk rb [.string (str ((ns.drop 0).flatMap enN ++ rest)), .bool true] 132) (by rw [List.drop_zero]) ?_
 refine .nilArr 97 4 none ?_
 refine .cast (X' := arr 97 4 none 0 ((ns.take 0).flatMap ntc)) (by rw [List.take_zero]; rfl) ?_
 refine .go fds 2 ?_
 refine .loop (σ := Nat × Option Addr × Nat) (fun ⟨i, la, lc⟩ => i ≤ ns.length) (fun ⟨i, la, lc⟩ => ns.length - i) (fun ⟨i, la, lc⟩ => [(0, .pointer (some ⟨rb, 0, none⟩)), (1, .int .i64 ((ns.length - i : Nat) : Int)), (5, .slice la i lc), (6, .pointer (some ⟨b6, 0, none⟩))]) (fun ⟨i, la, lc⟩ => [arr 97 4 la lc ((ns.take i).flatMap ntc), blk rb [.string (str ((ns.drop i).flatMap enN ++ rest)), .bool true] 132, blk b6 (ntc (lastN ns i)) 97, R]) (0, none, 0) (Nat.zero_le _) (.cons rfl (.cons rfl (.cons rfl (.cons rfl .nil)))) (.cons .head (.cons .head (.cons .head (.cons .head .nil)))) (fun s' hI ih => ?_)
 obtain ⟨i, la, lc⟩ := s'
 dsimp only at hI ih ⊢
 have hil := hI
 refine .go fds 6 ?_
 refine .condP rfl (fun h3 => ?_) (fun h3 => ?_)
 ·
  refine .go fds 4 ?_
  obtain ⟨x, hx⟩ : ∃ x, ns[i]? = some x := ⟨_, List.getElem?_eq_getElem (by omega)⟩
  have hxo := ho x (List.mem_of_getElem? hx)
  have h64 : i64 x.ep ∧ i64 x.seq ∧ i64 x.n ∧ i64 x.off := ⟨hxo.all64 _ (.head _), hxo.all64 _ (.tail _ (.head _)), hxo.all64 _ (.tail _ (.tail _ (.head _))), hxo.all64 _ (.tail _ (.tail _ (.tail _ (.head _))))⟩
  obtain ⟨hc1, hc2, hc3⟩ := lastN_lt hc ho hx
  have hx1 := hxo.ep
  have hx2 := hxo.seq
  have hx3 := hxo.n
  have hx4 := hxo.top
  have hx5 := hxo.off
  unfold mayN at hx1
  have hlo : (lastN ns i).seq ≤ 1000000 ∧ 0 ≤ (lastN ns i).seq ∧ 0 ≤ (lastN ns i).n ∧ (lastN ns i).n ≤ 64 := lastN_small ho i
  have hdr : (ns.drop i).flatMap enN ++ rest = eint x.ep ++ (eint x.seq ++ (eint x.n ++ (eint x.off ++ ((ns.drop (i + 1)).flatMap enN ++ rest)))) := by rw [enN_drop hx]; simp only [List.append_assoc]
  have hb0 := enN_rest ho i
  have hb4 : (eint x.ep ++ (eint x.seq ++ (eint x.n ++ (eint x.off ++ ((ns.drop (i + 1)).flatMap enN ++ rest))))).length ≤ 1000000000 := by rw [← hdr, List.length_append]; omega
  have hb3 : (eint x.seq ++ (eint x.n ++ (eint x.off ++ ((ns.drop (i + 1)).flatMap enN ++ rest)))).length ≤ 1000000000 := by rw [List.length_append] at hb4; omega
  have hb2 : (eint x.n ++ (eint x.off ++ ((ns.drop (i + 1)).flatMap enN ++ rest))).length ≤ 1000000000 := by have h := hb3; rw [List.length_append] at h; omega
  have hb1 : (eint x.off ++ ((ns.drop (i + 1)).flatMap enN ++ rest)).length ≤ 1000000000 := by have h := hb2; rw [List.length_append] at h; omega
  refine .perm (.cons (.tail .head) (.cons .head (.cons .head (.cons .head .nil)))) ?_
  refine .cast (X' := blk rb [.string (str (eint x.ep ++ (eint x.seq ++ (eint x.n ++ (eint x.off ++ ((ns.drop (i + 1)).flatMap enN ++ rest)))))), .bool true] 132) (by rw [hdr]) ?_
  refine .goO fds 2 ?_
  refine .fnC rfl rfl (.cons .head .nil) (fun _ _ _ => trivial) (tnext_ok rb x.ep (eint x.seq ++ (eint x.n ++ (eint x.off ++ ((ns.drop (i + 1)).flatMap enN ++ rest)))) h64.1 hb4) (fun v G1 hq => ?_)
  obtain ⟨rfl, rfl⟩ := hq
  simp only [List.cons_append, List.nil_append]
  refine .rd (.move rfl) ?_
  refine .fnC rfl rfl (.cons .head .nil) (fun _ _ _ => trivial) (tnext_ok rb x.seq (eint x.n ++ (eint x.off ++ ((ns.drop (i + 1)).flatMap enN ++ rest))) h64.2.1 hb3) (fun v G1 hq => ?_)
  obtain ⟨rfl, rfl⟩ := hq
  simp only [List.cons_append, List.nil_append]
  refine .rd (.move rfl) ?_
  refine .fnC rfl rfl (.cons .head .nil) (fun _ _ _ => trivial) (tnext_ok rb x.n (eint x.off ++ ((ns.drop (i + 1)).flatMap enN ++ rest)) h64.2.2.1 hb2) (fun v G1 hq => ?_)
  obtain ⟨rfl, rfl⟩ := hq
  simp only [List.cons_append, List.nil_append]
  refine .rd (.build rfl (bld95_0_1_2 _ _ _)) ?_
  refine .rd (.move rfl) ?_
  refine .fnC rfl rfl (.cons .head .nil) (fun _ _ _ => trivial) (tnext_ok rb x.off ((ns.drop (i + 1)).flatMap enN ++ rest) h64.2.2.2 hb1) (fun v G1 hq => ?_)
  obtain ⟨rfl, rfl⟩ := hq
  simp only [List.cons_append, List.nil_append]
  refine .rd (.build rfl (bld97_0_1 _ _ _ _)) ?_
  refine .ef (.alloc ti97 rfl (ones.of rfl)) ?_
  rintro _ _ ⟨b7, rfl, rfl⟩
  refine .ef0 (.storeAll (vs := ntc x) ts97 rfl rfl rfl .head rfl (ones.of rfl)) ?_
  rintro _ _ rfl
  refine .goO fds 6 ?_
  refine .rd (.ld na4 rfl (.tail .head) rfl) ?_
  refine .go fds 3 ?_
  refine .on (t := 28) rfl rfl ?_
  refine .rd (.ld na3 rfl .head rfl) ?_
  refine .go fds 1 ?_
  refine .alter (t := 32) (v' := .bool true) rfl (congrArg Value.bool (decide_eq_true (by omega))) ?_
  refine .go fds 4 ?_
  refine .on (t := 34) rfl rfl ?_
  refine .rd (.ld na3 rfl .head rfl) ?_
  refine .go fds 1 ?_
  refine .alter (t := 38) (v' := .bool true) rfl (congrArg Value.bool (decide_eq_true (by omega))) ?_
  refine .go fds 4 ?_
  refine .on (t := 40) rfl rfl ?_
  refine .rd (.ld na3 rfl .head rfl) ?_
  refine .on (t := 40) rfl rfl ?_
  refine .fn rfl rfl .nil (fun _ _ _ => trivial) (dwithin_ok x.ep 1000000000) (fun v G1 hq => ?_)
  obtain ⟨rfl, rfl⟩ := hq
  simp only [List.nil_append]
  refine .alter (t := 44) (v' := .bool true) rfl (congrArg Value.bool (decide_eq_true (by omega))) ?_
  refine .go fds 4 ?_
  refine .on (t := 46) rfl rfl ?_
  refine .rd (.ld na3 rfl .head rfl) ?_
  refine .go fds 2 ?_
  refine .on (t := 46) rfl rfl ?_
  refine .rd (.ld na3 rfl .head rfl) ?_
  refine .on (t := 46) rfl rfl ?_
  refine .rd (.sub rfl rfl (by omega) (by omega)) ?_
  refine .on (t := 46) rfl rfl ?_
  refine .rd (.add rfl rfl (by omega) (by omega)) ?_
  refine .on (t := 46) rfl rfl ?_
  refine .fn rfl rfl .nil (fun _ _ _ => trivial) (dwithin_ok x.seq (1000000 - x.n + 1)) (fun v G1 hq => ?_)
  obtain ⟨rfl, rfl⟩ := hq
  simp only [List.nil_append]
  refine .alter (t := 55) (v' := .bool true) rfl (congrArg Value.bool (decide_eq_true (by omega))) ?_
  refine .go fds 3 ?_
  refine .on (t := 57) rfl rfl ?_
  refine .rd (.ld na3 rfl .head rfl) ?_
  refine .go fds 2 ?_
  refine .on (t := 57) rfl rfl ?_
  refine .rd (.ld na3 rfl .head rfl) ?_
  refine .on (t := 57) rfl rfl ?_
  refine .rd (.sub rfl rfl (by omega) (by omega)) ?_
  refine .on (t := 57) rfl rfl ?_
  refine .rd (.add rfl rfl (by omega) (by omega)) ?_
  refine .on (t := 57) rfl rfl ?_
  refine .fn rfl rfl .nil (fun _ _ _ => trivial) (dwithin_ok x.off (1000000000 - x.n + 1)) (fun v G1 hq => ?_)
  obtain ⟨rfl, rfl⟩ := hq
  simp only [List.nil_append]
  refine .alter (t := 65) (v' := .bool true) rfl (congrArg Value.bool (decide_eq_true (by omega))) ?_
  refine .goO fds 10 ?_
  refine .on (t := 69) rfl rfl ?_
  refine .rd (.ld na3 rfl .head rfl) ?_
  refine .go fds 1 ?_
  refine .on (t := 69) rfl rfl ?_
  refine .rd (.ld na3 rfl (.tail (.tail (.tail .head))) rfl) ?_
  refine .go fds 1 ?_
  refine .alter (t := 74) (v' := .bool false) rfl (congrArg Value.bool (decide_eq_false (by omega))) ?_
  refine .go fds 4 ?_
  refine .on (t := 76) rfl rfl ?_
  refine .rd (.ld na3 rfl .head rfl) ?_
  refine .go fds 2 ?_
  refine .on (t := 76) rfl rfl ?_
  refine .rd (.ld na3 rfl (.tail (.tail (.tail .head))) rfl) ?_
  refine .go fds 1 ?_
  refine .alter (t := 83) (v' := .bool false) rfl (congrArg Value.bool (decide_eq_false (by omega))) ?_
  refine .go fds 4 ?_
  refine .on (t := 85) rfl rfl ?_
  refine .rd (.ld na3 rfl .head rfl) ?_
  refine .go fds 2 ?_
  refine .on (t := 85) rfl rfl ?_
  refine .rd (.ld na3 rfl (.tail (.tail (.tail .head))) rfl) ?_
  refine .go fds 2 ?_
  refine .split (t := 93) rfl (fun g26 => ?_) (fun g26 => ?_)
  ·
   replace g26 := of_decide_eq_true g26
   refine .go fds 2 ?_
   refine .on (t := 93) rfl rfl ?_
   refine .rd (.ld na3 rfl .head rfl) ?_
   refine .go fds 2 ?_
   refine .on (t := 93) rfl rfl ?_
   refine .rd (.ld na3 rfl (.tail (.tail (.tail .head))) rfl) ?_
   refine .go fds 2 ?_
   refine .on (t := 93) rfl rfl ?_
   refine .rd (.ld na3 rfl (.tail (.tail (.tail .head))) rfl) ?_
   refine .on (t := 93) rfl rfl ?_
   refine .rd (.add rfl rfl (by omega) (by omega)) ?_
   refine .go fds 1 ?_
   refine .alter (t := 104) (v' := .bool false) rfl (congrArg Value.bool (decide_eq_false (by have := hc3 g26.symm; omega))) ?_
   refine .goR fds 5 ?_
   refine .draws [1, 4] [blk b7 (ntc x) 97] (by kernel_rfl) ?_
   refine .goD fds [0] ?_
   refine .rd 1 rfl rfl (by kernel_rfl) (by kernel_rfl) (by kernel_rfl) (.ldN ia97 ts97 rfl .head rfl) (.cons .head .nil) ?_
   refine .rd 4 rfl rfl (by kernel_rfl) (by kernel_rfl) (by kernel_rfl) (.ldN ia97 ts97 rfl .head rfl) (.cons .head .nil) ?_
   refine .ef 2 (by kernel_rfl) rfl (.buildOne (cs := ntc x) Tryz.underlying89 ti97 (by decide) rfl rfl rfl (ones.of rfl)) ?_
   rintro _ _ ⟨bs, rfl, rfl⟩
   refine ⟨.inr ⟨_, (.cons (.tail .head) .nil)⟩, ?_⟩
   refine .ef 3 (by kernel_rfl) rfl (.append rfl rfl Tryz.underlying89 ti97 rfl (ones.of rfl) (by decide) (by decide) rfl rfl (.tail (.tail (.tail .head))) (n := i) (m := 1) (by rw [flat_length ntc_len, List.length_take]; omega) (.srcBlk .head Tryz.underlying89 rfl (by decide)) (by omega)) ?_
   rintro _ _ ⟨ra, rc, rfl, rn, rfl⟩
   refine ⟨.inr ⟨_, (.cons (.tail (.tail .head)) .nil)⟩, ?_⟩
   refine .goD fds [5] ?_
   refine .ef0 6 (by kernel_rfl) rfl (.storeAll (vs := ntc x) ts97 rfl rfl rfl (.tail (.tail (.tail (.tail .head)))) rfl (ones.of rfl)) ?_
   rintro _ _ rfl
   refine ⟨.inl (by kernel_rfl), ?_⟩
   refine .done (by kernel_rfl) ?_
   refine .perm (.cons (.tail .head) (.cons .head (.cons .head (.cons .head (.cons .head (.cons .head .nil)))))) ?_
   refine .cast (X' := arr 97 4 ra rc ((ns.take (i + 1)).flatMap ntc)) (by rw [List.take_add_one, hx, List.flatMap_append]; simp) ?_
   refine .perm (.cons (.tail .head) (.cons .head (.cons .head (.cons .head (.cons .head (.cons .head .nil)))))) ?_
   refine .cast (X' := blk b6 (ntc (lastN ns (i + 1))) 97) (by rw [lastN_next hx]) ?_
   refine .goO fds 3 ?_
   refine .rd (.sub rfl rfl (by omega) (by omega)) ?_
   refine .alter (t := 13) (v' := .int .i64 (((ns.length - (i + 1) : Nat) : Int))) rfl (congrArg (Value.int .i64) (by omega)) ?_
   refine .goR fds 2 ?_
   exact (ih (i + 1, ra, rc) (by show i + 1 ≤ ns.length; omega) (by show ns.length - (i + 1) < ns.length - i; omega)).to (.cons rfl (.cons rfl (.cons rfl (.cons rfl .nil)))) (.cons (.tail .head) (.cons (.tail (.tail (.tail .head))) (.cons .head (.cons (.tail (.tail .head)) .nil))))
  ·
   replace g26 := of_decide_eq_false g26
   refine .goR fds 16 ?_
   refine .draws [1, 4] [blk b7 (ntc x) 97] (by kernel_rfl) ?_
   refine .goD fds [0] ?_
   refine .rd 1 rfl rfl (by kernel_rfl) (by kernel_rfl) (by kernel_rfl) (.ldN ia97 ts97 rfl .head rfl) (.cons .head .nil) ?_
   refine .rd 4 rfl rfl (by kernel_rfl) (by kernel_rfl) (by kernel_rfl) (.ldN ia97 ts97 rfl .head rfl) (.cons .head .nil) ?_
   refine .ef 2 (by kernel_rfl) rfl (.buildOne (cs := ntc x) Tryz.underlying89 ti97 (by decide) rfl rfl rfl (ones.of rfl)) ?_
   rintro _ _ ⟨bs, rfl, rfl⟩
   refine ⟨.inr ⟨_, (.cons (.tail .head) .nil)⟩, ?_⟩
   refine .ef 3 (by kernel_rfl) rfl (.append rfl rfl Tryz.underlying89 ti97 rfl (ones.of rfl) (by decide) (by decide) rfl rfl (.tail (.tail (.tail .head))) (n := i) (m := 1) (by rw [flat_length ntc_len, List.length_take]; omega) (.srcBlk .head Tryz.underlying89 rfl (by decide)) (by omega)) ?_
   rintro _ _ ⟨ra, rc, rfl, rn, rfl⟩
   refine ⟨.inr ⟨_, (.cons (.tail (.tail .head)) .nil)⟩, ?_⟩
   refine .goD fds [5] ?_
   refine .ef0 6 (by kernel_rfl) rfl (.storeAll (vs := ntc x) ts97 rfl rfl rfl (.tail (.tail (.tail (.tail .head)))) rfl (ones.of rfl)) ?_
   rintro _ _ rfl
   refine ⟨.inl (by kernel_rfl), ?_⟩
   refine .done (by kernel_rfl) ?_
   refine .perm (.cons (.tail .head) (.cons .head (.cons .head (.cons .head (.cons .head (.cons .head .nil)))))) ?_
   refine .cast (X' := arr 97 4 ra rc ((ns.take (i + 1)).flatMap ntc)) (by rw [List.take_add_one, hx, List.flatMap_append]; simp) ?_
   refine .perm (.cons (.tail .head) (.cons .head (.cons .head (.cons .head (.cons .head (.cons .head .nil)))))) ?_
   refine .cast (X' := blk b6 (ntc (lastN ns (i + 1))) 97) (by rw [lastN_next hx]) ?_
   refine .goO fds 3 ?_
   refine .rd (.sub rfl rfl (by omega) (by omega)) ?_
   refine .alter (t := 13) (v' := .int .i64 (((ns.length - (i + 1) : Nat) : Int))) rfl (congrArg (Value.int .i64) (by omega)) ?_
   refine .goR fds 2 ?_
   exact (ih (i + 1, ra, rc) (by show i + 1 ≤ ns.length; omega) (by show ns.length - (i + 1) < ns.length - i; omega)).to (.cons rfl (.cons rfl (.cons rfl (.cons rfl .nil)))) (.cons (.tail .head) (.cons (.tail (.tail (.tail .head))) (.cons .head (.cons (.tail (.tail .head)) .nil))))
 ·
  refine .go fds 6 ?_
  obtain rfl : i = ns.length := by omega
  refine .perm (.cons (.tail .head) (.cons .head (.cons .head (.cons .head .nil)))) ?_
  refine .cast (X' := blk rb [.string (str (rest)), .bool true] 132) (by rw [List.drop_length]; rfl) ?_
  refine .perm (.cons (.tail .head) (.cons .head (.cons .head (.cons .head .nil)))) ?_
  refine .cast (X' := arr 97 4 la lc (ns.flatMap ntc)) (by rw [List.take_length]) ?_
  refine .retP Tryz.func73 (.cons (.tmp rfl) .nil) (.cons (.tail .head) (.cons .head (.cons (.tail .head) .nil))) ?_
  exact ⟨[_, _], ⟨la, lc, rfl, rfl⟩, rfl⟩
end Go.Proofs.YtoglbebcdjdkiaaGreatDoor
namespace Go.Proofs.YtoglbebcdjdkiaaGreatDoor
open Go Go.Sp
namespace td7
theorem bld132_0_1 (x0 : ByteArray) (x1 : Bool) (w : World) : (Instr.build 132 (([0, 1] : List Nat).zip [.string x0, .bool x1]).toArray).run Tryz.prog w = .ok (.agg #[.string x0, .bool x1]) w := by kernel_rfl
theorem na4 : NotAgg Tryz.prog 4 := ⟨_, Tryz.underlying4, trivial⟩
theorem na91 : NotAgg Tryz.prog 91 := ⟨_, Tryz.underlying91, trivial⟩
theorem na9 : NotAgg Tryz.prog 9 := ⟨_, Tryz.underlying9, trivial⟩
end td7
open td7
set_option maxHeartbeats 2000000 in
set_option maxRecDepth 20000 in
theorem Load_ok (u : Tm) (hu : RowsOk u) (hl : u.length ≤ 1000000) (hs : sizeT u ≤ 400000000) : Cn Tryz.prog 37 [.string (str (keepR u))] (fun _ => True) [] fun v G => ∃ t : Tb, v = .tuple #[.pointer (some ⟨t.tb, 0, none⟩), .int .i64 0] ∧ pur t.m = u ∧ G = [TG t] := by
 refine .enter Tryz.func37 rfl (by kernel_rfl) rfl fun R k => ?_
 have hbl := bodyR_le hu.toTabOk hl
 have hsl : (keepR u).length = 4 + (bodyR u).length := summed_len (bodyR u)
 have hbd : (eint (u.length : Int) ++ u.flatMap enP).length ≤ 1000000000 := by show (bodyR u).length ≤ _; omega
 refine .goO fds 10 ?_
 refine .rd (.lenT rfl rfl Tryz.underlying9 rfl) ?_
 refine .rd (.lt rfl rfl) ?_
 refine .alter (t := 14) (v' := .bool false) rfl (congrArg Value.bool (decide_eq_false (by omega))) ?_
 refine .goR fds 4 ?_
 refine .draws [] [] (by kernel_rfl) ?_
 refine .goD fds [0] ?_
 refine .rp 1 rfl (by kernel_rfl) (by kernel_rfl) (by kernel_rfl) (Reads.pure (.sliceT (l := keepR u) (a := 4) (h := (keepR u).length) Tryz.underlying9 rfl ⟨_, rfl⟩ rfl (by omega) (by omega))) ?_
 refine .alter (t := 17) (v' := .string (str (bodyR u))) rfl (by rw [hsl]; unfold keepR summed; rw [show ((fours (crc (bodyR u)).toNat ++ bodyR u).drop 4) = bodyR u from rfl, List.take_of_length_le (by omega)]) ?_
 refine .goD fds [5] ?_
 refine .rp 6 rfl (by kernel_rfl) (by kernel_rfl) (by kernel_rfl) (Reads.pure (.sliceT (l := keepR u) (a := 0) (h := 4) Tryz.underlying9 rfl rfl ⟨_, rfl⟩ (by omega) (by omega))) ?_
 refine .alter (t := 22) (v' := .string (str (fours (crc (bodyR u)).toNat))) rfl (rfl) ?_
 refine .ef 2 (by kernel_rfl) rfl (.strToBytes (l := bodyR u) Tryz.underlying9 Tryz.underlying115 Tryz.underlying5 rfl) ?_
 rintro _ _ ⟨sa, sc, rfl, rfl⟩
 refine ⟨.inl (by kernel_rfl), ?_⟩
 refine .ef 3 (by kernel_rfl) rfl (.fn rfl rfl .nil (Knows.arr .head) (tsum_ok (some ⟨sa, 0, none⟩) sc (bodyR u) (by omega))) ?_
 rintro v _ ⟨G1, hq, rfl⟩
 obtain ⟨sb, rfl, rfl⟩ := hq
 simp only [List.cons_append, List.nil_append]
 refine ⟨.inl (by kernel_rfl), ?_⟩
 refine .rs (Δ := []) 4 (by kernel_rfl) rfl (.bytesToStr (l := fours (crc (bodyR u)).toNat) Tryz.underlying115 Tryz.underlying5 Tryz.underlying9 rfl rfl (Knows.arr .head)) (.inl (by kernel_rfl)) ?_
 refine .rp 7 rfl (by kernel_rfl) (by kernel_rfl) (by kernel_rfl) (Reads.pure (.neT (m := fours (crc (bodyR u)).toNat) rfl rfl)) ?_
 refine .alter (t := 23) (v' := .bool false) rfl (congrArg Value.bool (by simp)) ?_
 refine .goD fds [8] ?_
 refine .done (by kernel_rfl) ?_
 refine .goO fds 6 ?_
 refine .rd (.sliceT (l := keepR u) (a := 4) (h := (keepR u).length) Tryz.underlying9 rfl ⟨_, rfl⟩ rfl (by omega) (by omega)) ?_
 refine .alter (t := 25) (v' := .string (str (bodyR u))) rfl (by rw [hsl]; unfold keepR summed; rw [show ((fours (crc (bodyR u)).toNat ++ bodyR u).drop 4) = bodyR u from rfl, List.take_of_length_le (by omega)]) ?_
 refine .rd (.build rfl (bld132_0_1 _ _)) ?_
 refine .ef (.box (l := [.string (str (bodyR u)), .bool true]) rfl rfl (ones.of rfl)) ?_
 rintro _ _ ⟨rb, rfl, rfl⟩
 refine .goR fds 2 ?_
 refine .cast (X' := blk rb [.string (str (eint (u.length : Int) ++ u.flatMap enP)), .bool true] 132) (rfl) ?_
 refine .goO fds 2 ?_
 refine .fn rfl rfl .nil (fun _ _ _ => trivial) (NewT_ok) (fun v G1 hq => ?_)
 obtain ⟨tb, mb, rfl, rfl⟩ := hq
 simp only [List.cons_append, List.nil_append]
 refine .goO fds 5 ?_
 refine .fnC rfl rfl (.cons (.tail .head) .nil) (fun _ _ _ => trivial) (tnext_ok rb (u.length : Int) (u.flatMap enP) (by unfold i64; omega) hbd) (fun v G1 hq => ?_)
 obtain ⟨rfl, rfl⟩ := hq
 simp only [List.cons_append, List.nil_append]
 refine .goR fds 6 ?_
 refine .unpack (L := [blk tb [.map (some mb)] 93, mp pidv tvv mb [], bag tva []]) (.tail .head) ?_
 simp only [List.cons_append, List.nil_append]
 refine .perm (.cons (.tail (.tail (.tail .head))) (.cons .head (.cons .head (.cons .head (.cons .head (.cons .head (.cons .head .nil))))))) ?_
 refine .cast (X' := blk rb [.string (str ((u.drop (0)).flatMap enP)), .bool true] 132) (by rw [List.drop_zero]) ?_
 refine .go fds 2 ?_
 refine .loop (σ := Nat × TM) (fun ⟨i, m⟩ => i ≤ u.length ∧ pur m = u.take i) (fun ⟨i, m⟩ => u.length - i) (fun ⟨i, m⟩ => [(4, .pointer (some ⟨rb, 0, none⟩)), (5, .pointer (some ⟨tb, 0, none⟩)), (6, .int .i64 ((u.length - i : Nat) : Int)), (7, .int .i64 (lastU u i))]) (fun ⟨i, m⟩ => [blk rb [.string (str ((u.drop (i)).flatMap enP)), .bool true] 132, blk tb [.map (some mb)] 93, mp pidv tvv mb m, bag tva m, R]) (0, []) ⟨Nat.zero_le _, rfl⟩ (.cons rfl (.cons rfl (.cons rfl (.cons rfl .nil)))) (.cons .head (.cons .head (.cons .head (.cons .head (.cons (.tail (.tail .head)) .nil))))) (fun s' hI ih => ?_)
 obtain ⟨i, m⟩ := s'
 dsimp only at hI ih ⊢
 obtain ⟨hil, hm⟩ := hI
 refine .goO fds 6 ?_
 refine .split (t := 33) rfl (fun h9 => ?_) (fun h9 => ?_)
 ·
  replace h9 := of_decide_eq_true h9
  refine .go fds 3 ?_
  refine .on (t := 33) rfl rfl ?_
  refine .rd (.ld na4 rfl .head rfl) ?_
  refine .goR fds 7 ?_
  obtain ⟨p, hp⟩ : ∃ p, u[i]? = some p := ⟨_, List.getElem?_eq_getElem (by omega)⟩
  have hpm := List.mem_of_getElem? hp
  have hpp := hu.pid p hpm
  have hne := hu.ne p hpm
  have hpl := hu.len p hpm
  have hp0 : 0 < p.2.length := List.length_pos_iff.2 hne
  have hlt := hu.lt hp
  have hp64 : i64 p.1 := by unfold i64; omega
  have hl64 : i64 (p.2.length : Int) := by unfold i64; omega
  have hr0 := enP_rest hu.toTabOk (i + 1)
  have hn0 := enN_rest (hu.ok p hpm) 0
  rw [List.drop_zero] at hn0
  have e1 := eint_len hp64
  have e2 := eint_len hl64
  have hb2 : (eint p.1 ++ (eint (p.2.length : Int) ++ (p.2.flatMap enN ++ (u.drop (i + 1)).flatMap enP))).length ≤ 1000000000 := by simp only [List.length_append]; omega
  have hb1 : (eint (p.2.length : Int) ++ (p.2.flatMap enN ++ (u.drop (i + 1)).flatMap enP)).length ≤ 1000000000 := by simp only [List.length_append]; omega
  have hfr : mget m p.1 = none := by
   have := hu.fresh hp
   rw [← hm, pur_get] at this
   cases e : mget m p.1 with
   | none => rfl
   | some v => rw [e] at this; cases this
  have hnd : (m.map (·.1)).Nodup := by
   rw [← pur_keys, hm]; exact hu.nodup.sublist ((List.take_sublist _ _).map _)
  refine .cast (X' := blk rb [.string (str (eint p.1 ++ (eint (p.2.length : Int) ++ (p.2.flatMap enN ++ (u.drop (i + 1)).flatMap enP)))), .bool true] 132) (by rw [enP_drop hp]) ?_
  refine .goO fds 2 ?_
  refine .fnC rfl rfl (.cons .head .nil) (fun _ _ _ => trivial) (tnext_ok rb p.1 (eint (p.2.length : Int) ++ (p.2.flatMap enN ++ (u.drop (i + 1)).flatMap enP)) hp64 hb2) (fun v G1 hq => ?_)
  obtain ⟨rfl, rfl⟩ := hq
  simp only [List.cons_append, List.nil_append]
  refine .rd (.move rfl) ?_
  refine .fnC rfl rfl (.cons .head .nil) (fun _ _ _ => trivial) (tnext_ok rb (p.2.length : Int) (p.2.flatMap enN ++ (u.drop (i + 1)).flatMap enP) hl64 hb1) (fun v G1 hq => ?_)
  obtain ⟨rfl, rfl⟩ := hq
  simp only [List.cons_append, List.nil_append]
  refine .goO fds 9 ?_
  refine .alter (t := 47) (v' := .bool false) rfl (congrArg Value.bool (decide_eq_false (by omega))) ?_
  refine .go fds 3 ?_
  refine .alter (t := 50) (v' := .bool false) rfl (congrArg Value.bool (decide_eq_false (by omega))) ?_
  refine .go fds 4 ?_
  refine .alter (t := 54) (v' := .bool false) rfl (congrArg Value.bool (decide_eq_false (by omega))) ?_
  refine .goR fds 9 ?_
  refine .alter (t := 7) (v' := .int .i64 (lastU u (i + 1))) rfl (by rw [lastU_next hp]) ?_
  refine .goO fds 4 ?_
  refine .fn rfl rfl (.cons .head .nil) (fun _ _ _ => trivial) (notes_ok rb p.2 ((u.drop (i + 1)).flatMap enP) (hu.chain p hpm) (hu.ok p hpm) hpl (by omega)) (fun v G1 hq => ?_)
  obtain ⟨a, c, rfl, rfl⟩ := hq
  simp only [List.cons_append, List.nil_append]
  refine .goR fds 4 ?_
  refine .tell (φ := ∃ b o, a = some ⟨b, o, none⟩) ((Knows.arr (.tail .head)).mono fun _ h => RowAt.addr h (by rw [flat_length ntc_len]; omega)) (fun hh => ?_)
  obtain ⟨b9, o9, rfl⟩ := hh
  refine .goO fds 2 ?_
  refine .rd (.eqNilL Tryz.underlying89 rfl rfl) ?_
  refine .alter (t := 61) (v' := .bool false) rfl (congrArg Value.bool (rfl)) ?_
  refine .goO fds 7 ?_
  refine .rd (.ld na91 rfl (.tail (.tail .head)) rfl) ?_
  refine .go fds 2 ?_
  refine .ef0 (.mapUpdate (q := p.1) (u := (⟨some ⟨b9, o9, none⟩, c, p.2⟩ : TV)) klI Tryz.underlying91 rfl rfl rfl (.tail (.tail (.tail .head)))) ?_
  rintro _ _ rfl
  refine .nil ?_
  refine .perm (.cons (.tail (.tail .head)) (.cons .head (.cons .head (.cons .head (.cons .head (.cons .head .nil)))))) ?_
  refine .cast (X' := tva (p.1, (⟨some ⟨b9, o9, none⟩, c, p.2⟩ : TV))) (rfl) ?_
  refine .close (X := bag tva (mset m p.1 (⟨some ⟨b9, o9, none⟩, c, p.2⟩ : TV))) (.cons .head (.cons (.tail (.tail (.tail .head))) .nil)) (fun h H => bag_in hnd (by rw [mdel_none hfr]; exact H)) ?_
  have hm2 : pur (mset m p.1 (⟨some ⟨b9, o9, none⟩, c, p.2⟩ : TV)) = u.take (i + 1) := by rw [pur_set, hm, mset_of_none (hu.fresh hp), List.take_add_one, hp]; rfl
  refine .goO fds 3 ?_
  refine .rd (.sub rfl rfl (by omega) (by omega)) ?_
  refine .alter (t := 40) (v' := .int .i64 (((u.length - (i + 1) : Nat) : Int))) rfl (congrArg (Value.int .i64) (by omega)) ?_
  refine .goR fds 2 ?_
  exact (ih (i + 1, mset m p.1 (⟨some ⟨b9, o9, none⟩, c, p.2⟩ : TV)) ⟨by show i + 1 ≤ u.length; omega, hm2⟩ (by show u.length - (i + 1) < u.length - i; omega)).to (.cons rfl (.cons rfl (.cons rfl (.cons rfl .nil)))) (.cons (.tail (.tail .head)) (.cons (.tail (.tail .head)) (.cons (.tail .head) (.cons .head (.cons .head .nil)))))
 ·
  replace h9 := of_decide_eq_false h9
  refine .goR fds 10 ?_
  obtain rfl : i = u.length := by omega
  refine .cast (X' := blk rb [.string (str ([])), .bool true] 132) (by rw [List.drop_length]; rfl) ?_
  refine .goO fds 4 ?_
  refine .rd (.ld na4 rfl .head rfl) ?_
  refine .go fds 5 ?_
  refine .on (t := 73) rfl rfl ?_
  refine .rd (.ld na9 rfl .head rfl) ?_
  refine .on (t := 73) rfl rfl ?_
  refine .rd (.neT (m := []) rfl rfl) ?_
  refine .alter (t := 78) (v' := .bool false) rfl (congrArg Value.bool (by simp)) ?_
  refine .go fds 4 ?_
  refine .alter (t := 82) (v' := .bool false) rfl (congrArg Value.bool (decide_eq_false (by omega))) ?_
  refine .goR fds 10 ?_
  refine .close (X := TG ⟨tb, mb, m⟩) (.cons (.tail .head) (.cons (.tail .head) (.cons (.tail .head) .nil))) (fun h H => H) ?_
  refine .retP Tryz.func37 (.cons (.tmp rfl) (.cons (.tmp rfl) .nil)) (.cons .head (.cons (.tail .head) .nil)) ?_
  exact ⟨[_], ⟨⟨tb, mb, m⟩, rfl, hm.trans (List.take_length ..), rfl⟩, rfl⟩
end Go.Proofs.YtoglbebcdjdkiaaGreatDoor
namespace Go.Proofs.YtoglbebcdjdkiaaGreatDoor
open Go Go.Sp
namespace ep6
theorem na9 : NotAgg Tryz.prog 9 := ⟨_, Tryz.underlying9, trivial⟩
theorem na4 : NotAgg Tryz.prog 4 := ⟨_, Tryz.underlying4, trivial⟩
theorem ts4 : TS Tryz.prog 4 1 := .of (by kernel_rfl)
theorem ts9 : TS Tryz.prog 9 1 := .of (by kernel_rfl)
theorem ti4 : TI Tryz.prog 4 1 1 (.bool false) := .of (by kernel_rfl)
theorem bld70_0_1 (x0 : Int) (x1 : Int) (w : World) : (Instr.build 70 (([0, 1] : List Nat).zip [.int .i64 x0, .int .i64 x1]).toArray).run Tryz.prog w = .ok (.agg #[.int .i64 x0, .int .i64 x1, .string ⟨#[]⟩]) w := by kernel_rfl
theorem ti70 : TI Tryz.prog 70 3 32 (.agg #[.int .i64 0, .int .i64 0, .string ⟨#[]⟩]) := .of (by kernel_rfl)
theorem ts70 : TS Tryz.prog 70 3 := .of (by kernel_rfl)
theorem bld70_0 (x0 : Int) (w : World) : (Instr.build 70 (([0] : List Nat).zip [.int .i64 x0]).toArray).run Tryz.prog w = .ok (.agg #[.int .i64 x0, .int .i64 0, .string ⟨#[]⟩]) w := by kernel_rfl
theorem fd70_1 : FD Tryz.prog 70 1 1 := .of Tryz.underlying70 (by kernel_rfl)
theorem ts3 : TS Tryz.prog 3 1 := .of (by kernel_rfl)
theorem na3 : NotAgg Tryz.prog 3 := ⟨_, Tryz.underlying3, trivial⟩
theorem na64 : NotAgg Tryz.prog 64 := ⟨_, Tryz.underlying64, trivial⟩
theorem ia70 : IsAgg Tryz.prog 70 := ⟨_, Tryz.underlying70, trivial⟩
theorem ts64 : TS Tryz.prog 64 1 := .of (by kernel_rfl)
theorem bld125_0_1 (x0 : Option Addr) (x1 : ByteArray) (w : World) : (Instr.build 125 (([0, 1] : List Nat).zip [.pointer x0, .string x1]).toArray).run Tryz.prog w = .ok (.agg #[.pointer x0, .string x1, .slice none 0 0]) w := by kernel_rfl
end ep6
open ep6
def lastEp (es : List Ep) (i : Nat) : Ep := (es.take i).getLast?.getD (-1, -1)
theorem lastEp_next {es : List Ep} {i : Nat} {x : Ep} (h : es[i]? = some x) : lastEp es (i + 1) = x := by
 unfold lastEp; rw [List.take_add_one, h, List.getLast?_append]; rfl
theorem lastEp_lt {es : List Ep} (he : EpsOk es) {i : Nat} {x : Ep} (h : es[i]? = some x) : (lastEp es i).1 < x.1 ∧ (lastEp es i).2 < x.2 := by
 obtain ⟨hi, hx⟩ := List.getElem?_eq_some_iff.1 h
 cases i with
 | zero => have := he.may x (List.mem_of_getElem? h); unfold mayN at this; show (-1 : Int) < _ ∧ (-1 : Int) < _; omega
 | succ i =>
  rw [lastEp_next (List.getElem?_eq_getElem (show i < es.length by omega))]
  have := List.pairwise_iff_getElem.1 he.up i (i + 1) (by omega) hi (by omega)
  rw [hx] at this; exact this
theorem enE_drop {es : List Ep} {i : Nat} {x : Ep} (h : es[i]? = some x) : (es.drop i).flatMap enE = eint x.1 ++ (eint x.2 ++ (es.drop (i + 1)).flatMap enE) := by
 obtain ⟨hi, rfl⟩ := List.getElem?_eq_some_iff.1 h
 rw [List.drop_eq_getElem_cons hi, List.flatMap_cons, enE, List.append_assoc]
theorem enE_rest {es : List Ep} (he : EpsOk es) (i : Nat) : ((es.drop i).flatMap enE).length ≤ 4000 := by
 have h2 := flat_le (f := enE) (k := 20) (es.drop i) fun e h => enE_le (he.may e (List.mem_of_mem_drop h))
 rw [List.length_drop] at h2; have := he.len; omega
set_option maxHeartbeats 2000000 in
set_option maxRecDepth 20000 in
theorem next_ok (sx ox : Nat) (n : Int) (rest : List UInt8) (hn : i64 n) (hl : (eint n ++ rest).length ≤ 1000000000) : Cn Tryz.prog 114 [.pointer (some ⟨sx, 0, none⟩), .pointer (some ⟨ox, 0, none⟩)] (fun _ => True) [blk sx [.string (str (eint n ++ rest))] 9, blk ox [.bool true] 4] fun v G => v = .int .i64 n ∧ G = [blk sx [.string (str (rest))] 9, blk ox [.bool true] 4] := by
 refine .enter Tryz.func114 rfl (by kernel_rfl) rfl fun R k => ?_
 have hl2 : (eint n ++ rest).length = (eint n).length + rest.length := List.length_append
 refine .goO fds 6 ?_
 refine .rd (.ld na9 rfl .head rfl) ?_
 refine .fn rfl rfl .nil (fun _ _ _ => trivial) (ReadInt_ok (eint n ++ rest) (by omega)) (fun v G1 hq => ?_)
 obtain ⟨rfl, rfl⟩ := hq
 simp only [List.nil_append]
 refine .alter (t := 8) (v' := .tuple #[.int .i64 n, .int .i64 ((eint n).length : Nat), .int .i64 0]) rfl (by rw [rint_eint hn]) ?_
 refine .goO fds 10 ?_
 refine .rd (.ld na4 rfl (.tail .head) rfl) ?_
 refine .go fds 4 ?_
 refine .ef0 (.store ts4 rfl rfl (.tail .head) rfl (Nat.le_of_ble_eq_true rfl)) ?_
 rintro _ _ rfl
 refine .goO fds 3 ?_
 refine .rd (.ld na9 rfl (.tail .head) rfl) ?_
 refine .rd (.move rfl) ?_
 refine .rd (.sliceT (l := eint n ++ rest) (a := (eint n).length) (h := (eint n ++ rest).length) Tryz.underlying9 rfl ⟨_, rfl⟩ rfl (by omega) (by omega)) ?_
 refine .alter (t := 19) (v' := .string (str rest)) rfl (by rw [List.drop_left, List.take_of_length_le (by rw [List.length_append]; omega)]) ?_
 refine .ef0 (.store ts9 rfl rfl (.tail .head) rfl (Nat.le_of_ble_eq_true rfl)) ?_
 rintro _ _ rfl
 refine .goR fds 6 ?_
 refine .retP Tryz.func114 (.cons (.tmp rfl) .nil) (.cons .head (.cons .head (.cons .head .nil))) ?_
 exact ⟨[_, _], ⟨rfl, rfl⟩, rfl⟩
set_option maxHeartbeats 2000000 in
set_option maxRecDepth 20000 in
theorem read_ok (db cb : Nat) (nm : Nm) (es : List Ep) (he : EpsOk es) : Cn Tryz.prog 71 [.pointer (some ⟨cb, 0, none⟩), .string (str (summed (bodyE es)))] (fun _ => True) [blk cb [.pointer (some ⟨db, 0, none⟩), nmv nm, .slice none 0 0] 125] fun v G => v = .int .i64 0 ∧ ∃ la lc, G = [CG db ⟨cb, nm, es, la, lc⟩] := by
 refine .enter Tryz.func71 rfl (by kernel_rfl) rfl fun R k => ?_
 have hln := he.len
 have hsl := summed_len (bodyE es)
 have hbl := bodyE_le he
 have hbd : (eint (es.length : Int) ++ es.flatMap enE).length ≤ 5000 := by show (bodyE es).length ≤ 5000; omega
 refine .nilArr 70 3 none ?_
 refine .goO fds 2 ?_
 refine .ef (.box (l := [.string (str (summed (bodyE es)))]) rfl rfl (ones.of rfl)) ?_
 rintro _ _ ⟨b3, rfl, rfl⟩
 refine .goO fds 6 ?_
 refine .rd (.ld na9 rfl .head rfl) ?_
 refine .rd (.lenT rfl rfl Tryz.underlying9 rfl) ?_
 refine .rd (.lt rfl rfl) ?_
 refine .alter (t := 13) (v' := .bool false) rfl (congrArg Value.bool (decide_eq_false (by omega))) ?_
 refine .goR fds 4 ?_
 refine .draws [0, 3] [blk b3 [.string (str (summed (bodyE es)))] 9] (by kernel_rfl) ?_
 refine .rd 0 rfl rfl (by kernel_rfl) (by kernel_rfl) (by kernel_rfl) (.ld na9 rfl .head rfl) (.cons .head .nil) ?_
 refine .rp 1 rfl (by kernel_rfl) (by kernel_rfl) (by kernel_rfl) (Reads.pure (.sliceT (l := summed (bodyE es)) (a := 4) (h := (summed (bodyE es)).length) Tryz.underlying9 rfl ⟨_, rfl⟩ rfl (by omega) (by omega))) ?_
 refine .alter (t := 16) (v' := .string (str (bodyE es))) rfl (by rw [hsl]; unfold summed; rw [show ((fours (crc (bodyE es)).toNat ++ bodyE es).drop 4) = bodyE es from rfl, List.take_of_length_le (by omega)]) ?_
 refine .rd 3 rfl rfl (by kernel_rfl) (by kernel_rfl) (by kernel_rfl) (.ld na9 rfl .head rfl) (.cons .head .nil) ?_
 refine .rp 4 rfl (by kernel_rfl) (by kernel_rfl) (by kernel_rfl) (Reads.pure (.sliceT (l := summed (bodyE es)) (a := 0) (h := 4) Tryz.underlying9 rfl rfl ⟨_, rfl⟩ (by omega) (by omega))) ?_
 refine .alter (t := 19) (v' := .string (str (fours (crc (bodyE es)).toNat))) rfl (rfl) ?_
 refine .ef 2 (by kernel_rfl) rfl (.fn rfl rfl .nil (fun _ _ _ => trivial) (esum_ok (bodyE es) (by omega))) ?_
 rintro v _ ⟨G1, hq, rfl⟩
 obtain ⟨rfl, rfl⟩ := hq
 simp only [List.nil_append]
 refine ⟨.inr ⟨_, (.cons .head .nil)⟩, ?_⟩
 refine .rp 5 rfl (by kernel_rfl) (by kernel_rfl) (by kernel_rfl) (Reads.pure (.neT (m := fours (crc (bodyE es)).toNat) rfl rfl)) ?_
 refine .alter (t := 20) (v' := .bool false) rfl (congrArg Value.bool (by simp)) ?_
 refine .goD fds [6] ?_
 refine .done (by kernel_rfl) ?_
 refine .goO fds 5 ?_
 refine .rd (.ld na9 rfl .head rfl) ?_
 refine .rd (.sliceT (l := summed (bodyE es)) (a := 4) (h := (summed (bodyE es)).length) Tryz.underlying9 rfl ⟨_, rfl⟩ rfl (by omega) (by omega)) ?_
 refine .alter (t := 22) (v' := .string (str (bodyE es))) rfl (by rw [hsl]; unfold summed; rw [show ((fours (crc (bodyE es)).toNat ++ bodyE es).drop 4) = bodyE es from rfl, List.take_of_length_le (by omega)]) ?_
 refine .ef0 (.store ts9 rfl rfl .head rfl (Nat.le_of_ble_eq_true rfl)) ?_
 rintro _ _ rfl
 refine .nil ?_
 refine .cast (X' := blk b3 [.string (str (eint (es.length : Int) ++ es.flatMap enE))] 9) (rfl) ?_
 refine .goO fds 2 ?_
 refine .ef (.alloc ti4 rfl (ones.of rfl)) ?_
 rintro _ _ ⟨b5, rfl, rfl⟩
 refine .ef0 (.store ts4 rfl rfl .head rfl (Nat.le_of_ble_eq_true rfl)) ?_
 rintro _ _ rfl
 refine .goO fds 3 ?_
 refine .rd (.makeFunc (cs := [.pointer (some ⟨b3, 0, none⟩), .pointer (some ⟨b5, 0, none⟩)]) rfl rfl) ?_
 refine .goO fds 5 ?_
 refine .fnC rfl rfl (.cons (.tail .head) (.cons .head .nil)) (fun _ _ _ => trivial) (next_ok b3 b5 (es.length : Int) (es.flatMap enE) (by unfold i64; omega) (by omega)) (fun v G1 hq => ?_)
 obtain ⟨rfl, rfl⟩ := hq
 simp only [List.cons_append, List.nil_append]
 refine .goO fds 7 ?_
 refine .alter (t := 27) (v' := .bool false) rfl (congrArg Value.bool (decide_eq_false (by omega))) ?_
 refine .go fds 3 ?_
 refine .alter (t := 30) (v' := .bool false) rfl (congrArg Value.bool (decide_eq_false (by omega))) ?_
 refine .goO fds 6 ?_
 refine .rd (.build rfl (bld70_0_1 _ _)) ?_
 refine .ef (.alloc ti70 rfl (ones.of rfl)) ?_
 rintro _ _ ⟨b8, rfl, rfl⟩
 refine .ef0 (.storeAll (vs := epc (-1, -1)) ts70 rfl rfl rfl .head rfl (ones.of rfl)) ?_
 rintro _ _ rfl
 refine .nil ?_
 refine .cast (X' := blk b8 (epc (lastEp es 0)) 70) (rfl) ?_
 refine .perm (.cons (.tail .head) (.cons .head (.cons .head (.cons .head (.cons .head (.cons .head .nil)))))) ?_
 refine .cast (X' := blk b3 [.string (str ((es.drop 0).flatMap enE))] 9) (by rw [List.drop_zero]) ?_
 refine .perm (.cons (.tail (.tail (.tail (.tail .head)))) (.cons .head (.cons .head (.cons .head (.cons .head (.cons .head .nil)))))) ?_
 refine .cast (X' := blk cb [.pointer (some ⟨db, 0, none⟩), nmv nm, .slice none 0 0] 125) (rfl) ?_
 refine .perm (.cons (.tail (.tail (.tail (.tail .head)))) (.cons .head (.cons .head (.cons .head (.cons .head (.cons .head .nil)))))) ?_
 refine .cast (X' := arr 70 3 none 0 ((es.take 0).flatMap epc)) (by rw [List.take_zero]; rfl) ?_
 refine .go fds 7 ?_
 refine .loop (σ := Nat × Option Addr × Nat) (fun ⟨i, la, lc⟩ => i ≤ es.length) (fun ⟨i, la, lc⟩ => es.length - i) (fun ⟨i, la, lc⟩ => [(0, .pointer (some ⟨cb, 0, none⟩)), (3, .pointer (some ⟨b3, 0, none⟩)), (5, .pointer (some ⟨b5, 0, none⟩)), (6, .func (.func 114) #[] #[.pointer (some ⟨b3, 0, none⟩), .pointer (some ⟨b5, 0, none⟩)]), (8, .pointer (some ⟨b8, 0, none⟩)), (33, .int .i64 (es.length : Nat)), (34, .int .i64 (i : Nat))]) (fun ⟨i, la, lc⟩ => [blk b3 [.string (str ((es.drop i).flatMap enE))] 9, blk b5 [.bool true] 4, blk b8 (epc (lastEp es i)) 70, blk cb [.pointer (some ⟨db, 0, none⟩), nmv nm, .slice la i lc] 125, arr 70 3 la lc ((es.take i).flatMap epc), R]) (0, none, 0) (Nat.zero_le _) (.cons rfl (.cons rfl (.cons rfl (.cons rfl (.cons rfl (.cons rfl (.cons rfl .nil))))))) (.cons (.tail (.tail .head)) (.cons (.tail (.tail (.tail .head))) (.cons (.tail (.tail .head)) (.cons (.tail .head) (.cons .head (.cons .head .nil)))))) (fun s' hI ih => ?_)
 obtain ⟨i, la, lc⟩ := s'
 dsimp only at hI ih ⊢
 have hil := hI
 refine .go fds 5 ?_
 refine .condP rfl (fun h13 => ?_) (fun h13 => ?_)
 ·
  refine .go fds 4 ?_
  obtain ⟨x, hx⟩ : ∃ x, es[i]? = some x := ⟨_, List.getElem?_eq_getElem (by omega)⟩
  have hx1 := he.may x (List.mem_of_getElem? hx)
  obtain ⟨hlt1, hlt2⟩ := lastEp_lt he hx
  refine .cast (X' := blk b3 [.string (str (eint x.1 ++ (eint x.2 ++ (es.drop (i + 1)).flatMap enE)))] 9) (by rw [enE_drop hx]) ?_
  refine .goO fds 2 ?_
  refine .fnC rfl rfl (.cons .head (.cons .head .nil)) (fun _ _ _ => trivial) (next_ok b3 b5 x.1 (eint x.2 ++ (es.drop (i + 1)).flatMap enE) hx1.1.i64 (by have := enE_rest he i; rw [enE_drop hx] at this; omega)) (fun v G1 hq => ?_)
  obtain ⟨rfl, rfl⟩ := hq
  simp only [List.cons_append, List.nil_append]
  refine .rd (.build rfl (bld70_0 _)) ?_
  refine .ef (.alloc ti70 rfl (ones.of rfl)) ?_
  rintro _ _ ⟨b9, rfl, rfl⟩
  refine .ef0 (.storeAll (vs := epc (x.1, 0)) ts70 rfl rfl rfl .head rfl (ones.of rfl)) ?_
  rintro _ _ rfl
  refine .goO fds 4 ?_
  refine .fnC rfl rfl (.cons (.tail .head) (.cons (.tail .head) .nil)) (fun _ _ _ => trivial) (next_ok b3 b5 x.2 ((es.drop (i + 1)).flatMap enE) hx1.2.i64 (by have := enE_rest he i; rw [enE_drop hx, List.length_append] at this; omega)) (fun v G1 hq => ?_)
  obtain ⟨rfl, rfl⟩ := hq
  simp only [List.cons_append, List.nil_append]
  refine .rd (.fieldAddr fd70_1 rfl) ?_
  refine .ef0 (.store ts3 rfl rfl (.tail (.tail .head)) rfl (Nat.le_of_ble_eq_true rfl)) ?_
  rintro _ _ rfl
  refine .nil ?_
  refine .cast (X' := blk b9 (epc x) 70) (rfl) ?_
  refine .goO fds 3 ?_
  refine .rd (.ld na4 rfl (.tail (.tail .head)) rfl) ?_
  refine .go fds 3 ?_
  refine .on (t := 44) rfl rfl ?_
  refine .rd (.ld na3 rfl .head rfl) ?_
  refine .on (t := 44) rfl rfl ?_
  refine .fn rfl rfl .nil (fun _ _ _ => trivial) (may_ok x.1) (fun v G1 hq => ?_)
  obtain ⟨rfl, rfl⟩ := hq
  simp only [List.nil_append]
  refine .alter (t := 47) (v' := .bool true) rfl (congrArg Value.bool (decide_eq_true hx1.1)) ?_
  refine .go fds 4 ?_
  refine .on (t := 50) rfl rfl ?_
  refine .rd (.ld na3 rfl .head rfl) ?_
  refine .on (t := 50) rfl rfl ?_
  refine .fn rfl rfl .nil (fun _ _ _ => trivial) (may_ok x.2) (fun v G1 hq => ?_)
  obtain ⟨rfl, rfl⟩ := hq
  simp only [List.nil_append]
  refine .alter (t := 53) (v' := .bool true) rfl (congrArg Value.bool (decide_eq_true hx1.2)) ?_
  refine .go fds 4 ?_
  refine .on (t := 56) rfl rfl ?_
  refine .rd (.ld na3 rfl .head rfl) ?_
  refine .go fds 1 ?_
  refine .on (t := 56) rfl rfl ?_
  refine .rd (.ld na3 rfl (.tail (.tail (.tail .head))) rfl) ?_
  refine .go fds 1 ?_
  refine .alter (t := 61) (v' := .bool false) rfl (congrArg Value.bool (decide_eq_false (by omega))) ?_
  refine .go fds 3 ?_
  refine .on (t := 63) rfl rfl ?_
  refine .rd (.ld na3 rfl .head rfl) ?_
  refine .go fds 1 ?_
  refine .on (t := 63) rfl rfl ?_
  refine .rd (.ld na3 rfl (.tail (.tail (.tail .head))) rfl) ?_
  refine .go fds 1 ?_
  refine .alter (t := 68) (v' := .bool false) rfl (congrArg Value.bool (decide_eq_false (by omega))) ?_
  refine .goR fds 5 ?_
  refine .draws [4, 5] [blk cb [.pointer (some ⟨db, 0, none⟩), nmv nm, .slice la i lc] 125, blk b9 (epc x) 70] (by kernel_rfl) ?_
  refine .goD fds [0] ?_
  refine .goD fds [1] ?_
  refine .goD fds [2] ?_
  refine .goD fds [3] ?_
  refine .rd 4 rfl rfl (by kernel_rfl) (by kernel_rfl) (by kernel_rfl) (.ld na64 rfl .head rfl) (.cons (.tail (.tail (.tail (.tail .head)))) (.cons .head .nil)) ?_
  refine .rd 5 rfl rfl (by kernel_rfl) (by kernel_rfl) (by kernel_rfl) (.ldN ia70 ts70 rfl (.tail .head) rfl) (.cons (.tail (.tail (.tail (.tail .head)))) (.cons .head .nil)) ?_
  refine .ef 6 (by kernel_rfl) rfl (.buildOne (cs := epc x) Tryz.underlying64 ti70 (by decide) rfl rfl rfl (ones.of rfl)) ?_
  rintro _ _ ⟨bs, rfl, rfl⟩
  refine ⟨.inr ⟨_, (.cons (.tail (.tail (.tail (.tail (.tail .head))))) (.cons (.tail .head) .nil))⟩, ?_⟩
  refine .ef 7 (by kernel_rfl) rfl (.append rfl rfl Tryz.underlying64 ti70 rfl (ones.of rfl) (by decide) (by decide) rfl rfl (.tail (.tail (.tail (.tail (.tail (.tail .head)))))) (n := i) (m := 1) (by rw [flat_length epc_len, List.length_take]; omega) (.srcBlk .head Tryz.underlying64 rfl (by decide)) (by omega)) ?_
  rintro _ _ ⟨ra, rc, rfl, rn, rfl⟩
  refine ⟨.inl (by kernel_rfl), ?_⟩
  refine .goD fds [8] ?_
  refine .goD fds [9] ?_
  refine .ef0 10 (by kernel_rfl) rfl (.store ts64 rfl rfl (.tail (.tail (.tail (.tail (.tail (.tail .head)))))) rfl (Nat.le_of_ble_eq_true rfl)) ?_
  rintro _ _ rfl
  refine ⟨.inl (by kernel_rfl), ?_⟩
  refine .done (by kernel_rfl) ?_
  refine .perm (.cons (.tail .head) (.cons .head (.cons .head (.cons .head (.cons .head (.cons .head (.cons .head (.cons .head .nil)))))))) ?_
  refine .cast (X' := arr 70 3 ra rc ((es.take (i + 1)).flatMap epc)) (by rw [List.take_add_one, hx, List.flatMap_append]; simp) ?_
  refine .region ?_
  refine .rd (.ldN ia70 ts70 rfl (.tail (.tail (.tail .head))) rfl) ?_
  refine .ef0 (.storeAll (vs := epc x) ts70 rfl rfl rfl (.tail (.tail (.tail (.tail (.tail (.tail .head)))))) rfl (ones.of rfl)) ?_
  rintro _ _ rfl
  refine .nil ?_
  refine .cast (X' := blk b8 (epc (lastEp es (i + 1))) 70) (by rw [lastEp_next hx]) ?_
  refine .goO fds 2 ?_
  refine .rd (.add rfl rfl (by omega) (by omega)) ?_
  refine .goR fds 2 ?_
  exact (ih (i + 1, ra, rc) (by show i + 1 ≤ es.length; omega) (by show es.length - (i + 1) < es.length - i; omega)).to (.cons rfl (.cons rfl (.cons rfl (.cons rfl (.cons rfl (.cons rfl (.cons rfl .nil))))))) (.cons (.tail (.tail (.tail (.tail (.tail .head))))) (.cons (.tail (.tail (.tail (.tail (.tail .head))))) (.cons .head (.cons (.tail .head) (.cons .head (.cons (.tail (.tail .head)) .nil))))))
 ·
  refine .go fds 3 ?_
  obtain rfl : i = es.length := by omega
  refine .cast (X' := blk b3 [.string (str ([]))] 9) (by rw [List.drop_length]; rfl) ?_
  refine .region ?_
  refine .rd (.ld na4 rfl (.tail .head) rfl) ?_
  refine .go fds 2 ?_
  refine .on (t := 84) rfl rfl ?_
  refine .rd (.ld na9 rfl .head rfl) ?_
  refine .on (t := 84) rfl rfl ?_
  refine .rd (.neT (m := []) rfl rfl) ?_
  refine .alter (t := 86) (v' := .bool false) rfl (congrArg Value.bool (by simp)) ?_
  refine .goR fds 8 ?_
  refine .perm (.cons (.tail (.tail (.tail (.tail .head)))) (.cons .head (.cons .head (.cons .head (.cons .head (.cons .head .nil)))))) ?_
  refine .cast (X' := arr 70 3 la lc (es.flatMap epc)) (by rw [List.take_length]) ?_
  refine .close (X := CG db ⟨cb, nm, es, la, lc⟩) (.cons (.tail (.tail (.tail (.tail .head)))) (.cons .head .nil)) (fun h H => H) ?_
  refine .retP Tryz.func71 (.cons (.tmp rfl) .nil) (.cons .head (.cons (.tail (.tail (.tail .head))) .nil)) ?_
  exact ⟨[_], ⟨rfl, la, lc, rfl⟩, rfl⟩
set_option maxHeartbeats 2000000 in
set_option maxRecDepth 20000 in
theorem OpenE_ok (db mb : Nat) (d : Dk) (nm : Nm) (es : List Ep) (he : EpsOk es) (hf : ((d.get nm).isSome = false ∧ es = []) ∨ ((d.get nm).isSome = true ∧ (d.file nm).b = summed (bodyE es))) : Cn Tryz.prog 33 [.pointer (some ⟨db, 0, none⟩), nmv nm] (fun _ => True) [blk db (d.cells mb) 74, mp nmv Fl.val mb d.fs] fun v G => ∃ cb la lc, v = .tuple #[.pointer (some ⟨cb, 0, none⟩), .int .i64 0] ∧ G = [CG db ⟨cb, nm, es, la, lc⟩, blk db (d.cells mb) 74, mp nmv Fl.val mb d.fs] := by
 refine .enter Tryz.func33 rfl (by kernel_rfl) rfl fun R k => ?_
 refine .goO fds 9 ?_
 refine .rd (.build rfl (bld125_0_1 _ _)) ?_
 refine .ef (.box (l := [.pointer (some ⟨db, 0, none⟩), nmv nm, .slice none 0 0]) rfl rfl (ones.of rfl)) ?_
 rintro _ _ ⟨cb, rfl, rfl⟩
 refine .goO fds 6 ?_
 refine .fn rfl rfl (.cons (.tail .head) (.cons (.tail .head) .nil)) (fun _ _ _ => trivial) (Read_ok db mb d nm) (fun v G1 hq => ?_)
 obtain ⟨rfl, rfl⟩ := hq
 simp only [List.cons_append, List.nil_append]
 refine .goR fds 12 ?_
 refine .condN rfl (fun c3 => ?_) (fun c3 => ?_)
 ·
  obtain rfl : es = [] := by
   rcases hf with h | h
   ·
    exact h.2
   ·
    rw [if_pos h.1] at c3; exact absurd rfl c3
  refine .go fds 6 ?_
  refine .nilArr 70 3 none ?_
  refine .close (X := CG db ⟨cb, nm, [], none, 0⟩) (.cons (.tail (.tail (.tail .head))) (.cons .head .nil)) (fun h H => H) ?_
  refine .retP Tryz.func33 (.cons (.tmp rfl) (.cons (.tmp rfl) .nil)) (.cons .head (.cons .head (.cons .head (.cons .head .nil)))) ?_
  exact ⟨[_, _, _], ⟨cb, none, 0, rfl, rfl⟩, rfl⟩
 ·
  obtain ⟨hg, hb⟩ : (d.get nm).isSome = true ∧ (d.file nm).b = summed (bodyE es) := by
   rcases hf with h | h
   ·
    rw [h.1] at c3; exact absurd c3 (by decide)
   ·
    exact h
  refine .alter (t := 7) (v' := .string (str (summed (bodyE es)))) rfl (by rw [hb]; rfl) ?_
  refine .goO fds 6 ?_
  refine .fn rfl rfl (.cons (.tail (.tail .head)) .nil) (fun _ _ _ => trivial) (read_ok db cb nm es he) (fun v G1 hq => ?_)
  obtain ⟨rfl, la, lc, rfl⟩ := hq
  simp only [List.cons_append, List.nil_append]
  refine .goR fds 15 ?_
  refine .retP Tryz.func33 (.cons (.tmp rfl) (.cons (.tmp rfl) .nil)) (.cons .head (.cons .head (.cons .head (.cons .head .nil)))) ?_
  exact ⟨[_, _, _], ⟨cb, la, lc, rfl, rfl⟩, rfl⟩
end Go.Proofs.YtoglbebcdjdkiaaGreatDoor
namespace Go.Proofs.YtoglbebcdjdkiaaGreatDoor
open Go Go.Sp
namespace st0
theorem na48 : NotAgg Tryz.prog 48 := ⟨_, Tryz.underlying48, trivial⟩
theorem na65 : NotAgg Tryz.prog 65 := ⟨_, Tryz.underlying65, trivial⟩
theorem na36 : NotAgg Tryz.prog 36 := ⟨_, Tryz.underlying36, trivial⟩
theorem na9 : NotAgg Tryz.prog 9 := ⟨_, Tryz.underlying9, trivial⟩
theorem na24 : NotAgg Tryz.prog 24 := ⟨_, Tryz.underlying24, trivial⟩
theorem na54 : NotAgg Tryz.prog 54 := ⟨_, Tryz.underlying54, trivial⟩
end st0
open st0
set_option maxHeartbeats 2000000 in
set_option maxRecDepth 20000 in
theorem LogS_ok (db : Nat) (s : St) : Cn Tryz.prog 18 [.pointer (some ⟨s.sx, 0, none⟩)] (CellsAt s.sx 0 (s.cells db)) [] fun v G => v = .pointer (some ⟨s.l.lb, 0, none⟩) ∧ G = [] := by
 refine .enter Tryz.func18 rfl (by kernel_rfl) rfl fun R k => ?_
 refine .goO fds 9 ?_
 refine .rd (.load na48 rfl (Knows.one (i := 2) (Knows.pick .head (k.mono fun _ h => h)) rfl)) ?_
 refine .goR fds 2 ?_
 refine .retP Tryz.func18 (.cons (.tmp rfl) .nil) (.cons .head .nil) ?_
 exact ⟨[], ⟨rfl, rfl⟩, rfl⟩
set_option maxHeartbeats 2000000 in
set_option maxRecDepth 20000 in
theorem CacheS_ok (db : Nat) (s : St) : Cn Tryz.prog 29 [.pointer (some ⟨s.sx, 0, none⟩)] (CellsAt s.sx 0 (s.cells db)) [] fun v G => v = .pointer (some ⟨s.c.cb, 0, none⟩) ∧ G = [] := by
 refine .enter Tryz.func29 rfl (by kernel_rfl) rfl fun R k => ?_
 refine .goO fds 9 ?_
 refine .rd (.load na65 rfl (Knows.one (i := 3) (Knows.pick .head (k.mono fun _ h => h)) rfl)) ?_
 refine .goR fds 2 ?_
 refine .retP Tryz.func29 (.cons (.tmp rfl) .nil) (.cons .head .nil) ?_
 exact ⟨[], ⟨rfl, rfl⟩, rfl⟩
set_option maxHeartbeats 2000000 in
set_option maxRecDepth 20000 in
theorem TableS_ok (db : Nat) (s : St) : Cn Tryz.prog 11 [.pointer (some ⟨s.sx, 0, none⟩)] (CellsAt s.sx 0 (s.cells db)) [] fun v G => v = .pointer (some ⟨s.t.tb, 0, none⟩) ∧ G = [] := by
 refine .enter Tryz.func11 rfl (by kernel_rfl) rfl fun R k => ?_
 refine .goO fds 9 ?_
 refine .rd (.load na36 rfl (Knows.one (i := 4) (Knows.pick .head (k.mono fun _ h => h)) rfl)) ?_
 refine .goR fds 2 ?_
 refine .retP Tryz.func11 (.cons (.tmp rfl) .nil) (.cons .head .nil) ?_
 exact ⟨[], ⟨rfl, rfl⟩, rfl⟩
set_option maxHeartbeats 2000000 in
set_option maxRecDepth 20000 in
theorem pids_ok (db : Nat) (s : St) (hp : Pre s.l.pre) : Cn Tryz.prog 36 [.pointer (some ⟨s.sx, 0, none⟩)] (CellsAt s.sx 0 (s.cells db)) [] fun v G => v = nmv (nmP s.l.pre) ∧ G = [] := by
 refine .enter Tryz.func36 rfl (by kernel_rfl) rfl fun R k => ?_
 refine .goO fds 9 ?_
 refine .rd (.load na9 rfl (Knows.one (i := 1) (Knows.pick .head (k.mono fun _ h => h)) rfl)) ?_
 refine .rd (.catT (l := s.l.pre) (m := [46, 112, 105, 100, 115]) rfl rfl (by have := hp.len; simp only [List.length_cons, List.length_nil]; omega)) ?_
 refine .alter (t := 7) (v' := nmv (nmP s.l.pre)) rfl (rfl) ?_
 refine .goR fds 2 ?_
 refine .retP Tryz.func36 (.cons (.tmp rfl) .nil) (.cons .head .nil) ?_
 exact ⟨[], ⟨rfl, rfl⟩, rfl⟩
set_option maxHeartbeats 2000000 in
set_option maxRecDepth 20000 in
theorem keepS_ok (db mb : Nat) (d : Dk) (s : St) (hp : Pre s.l.pre) (hd : d.ok) (hT : TabOk (pur s.t.m)) (hl : s.t.m.length ≤ 1000000) (hs : sizeT (pur s.t.m) ≤ 100000000) (hr : (d.get (nmP s.l.pre)).isSome = true ∨ d.fs.length < 256) (hroom : d.used + (keepT (pur s.t.m)).length ≤ d.size) : Cn Tryz.prog 52 [.pointer (some ⟨s.sx, 0, none⟩), .pointer (some ⟨s.t.tb, 0, none⟩)] (fun _ => True) [SS db s, blk db (d.cells mb) 74, mp nmv Fl.val mb d.fs] fun v G => v = .int .i64 0 ∧ G = [SS db s, blk db ((d.put (nmP s.l.pre) ⟨keepT (pur s.t.m), (keepT (pur s.t.m)).length⟩).cells mb) 74, mp nmv Fl.val mb (d.put (nmP s.l.pre) ⟨keepT (pur s.t.m), (keepT (pur s.t.m)).length⟩).fs] := by
 refine .enter Tryz.func52 rfl (by kernel_rfl) rfl fun R k => ?_
 refine .unpack (L := [blk s.sx (s.cells db) 80, LG db s.l, CG db s.c, TG s.t]) .head ?_
 simp only [List.cons_append, List.nil_append]
 refine .go fds 5 ?_
 refine .draws [3] [blk s.sx (s.cells db) 80] (by kernel_rfl) ?_
 refine .goD fds [0] ?_
 refine .goD fds [1] ?_
 refine .goD fds [2] ?_
 refine .rd 3 rfl rfl (by kernel_rfl) (by kernel_rfl) (by kernel_rfl) (.ld na24 rfl .head rfl) (.cons .head .nil) ?_
 refine .goD fds [4] ?_
 refine .goD fds [6] ?_
 refine .ef 5 (by kernel_rfl) rfl (.fn rfl rfl .nil (Knows.blk .head) (pids_ok db s hp)) ?_
 rintro v _ ⟨G1, hq, rfl⟩
 obtain ⟨rfl, rfl⟩ := hq
 simp only [List.nil_append]
 refine ⟨.inr ⟨_, (.cons .head .nil)⟩, ?_⟩
 refine .ef 7 (by kernel_rfl) rfl (.fn rfl rfl (.cons (.tail (.tail (.tail .head))) .nil) (fun _ _ _ => trivial) (Keep_ok s.t hT hl hs)) ?_
 rintro v _ ⟨G1, hq, rfl⟩
 obtain ⟨rfl, rfl⟩ := hq
 simp only [List.cons_append, List.nil_append]
 refine ⟨.inr ⟨_, (.cons (.tail .head) .nil)⟩, ?_⟩
 refine .ef 8 (by kernel_rfl) rfl (.fn rfl rfl (.cons (.tail (.tail (.tail (.tail .head)))) (.cons (.tail (.tail (.tail (.tail .head)))) .nil)) (fun _ _ _ => trivial) (Replace_ok db mb d (nmP s.l.pre) (keepT (pur s.t.m)) hd (nmP_named hp) hr (by omega))) ?_
 rintro v _ ⟨G1, hq, rfl⟩
 obtain ⟨rfl, rfl⟩ := hq
 simp only [List.cons_append, List.nil_append]
 refine ⟨.inl (by kernel_rfl), ?_⟩
 refine .goD fds [9] ?_
 refine .done (by kernel_rfl) ?_
 refine .pack (L := [blk (s).sx (St.cells (s) db) 80, LG db (s).l, CG db (s).c, TG (s).t]) (.cons (.tail (.tail (.tail .head))) (.cons (.tail (.tail (.tail .head))) (.cons (.tail (.tail (.tail .head))) (.cons (.tail (.tail .head)) .nil)))) ?_
 refine .retP Tryz.func52 (.cons (.tmp rfl) .nil) (.cons .head (.cons .head (.cons .head (.cons .head .nil)))) ?_
 exact ⟨[_, _, _], ⟨rfl, rfl⟩, rfl⟩
set_option maxHeartbeats 2000000 in
set_option maxRecDepth 20000 in
theorem cutS_ok (db mb : Nat) (d : Dk) (s : St) (hd : d.ok) (hl : s.l.ok d) (hnx : mayN s.l.next) (hes : EpsOk s.c.es) (hT : TabOk (pur s.t.m)) (hn : Named s.c.nm) (hr : (d.get s.c.nm).isSome = true ∨ d.fs.length < 256) (hroom : d.used + 4020 ≤ d.size) : Cn Tryz.prog 51 [.pointer (some ⟨s.sx, 0, none⟩)] (fun _ => True) [SS db s, blk db (d.cells mb) 74, mp nmv Fl.val mb d.fs] fun v G => ∃ t' la lc, pur t'.m = cutT s.l.next (pur s.t.m) ∧ G = [SS db (⟨s.sx, s.l, ⟨s.c.cb, s.c.nm, (cutE s.l.next s.c.es), la, lc⟩, t'⟩ : St), blk db ((keptE d s.c (cutE s.l.next s.c.es)).cells mb) 74, mp nmv Fl.val mb (keptE d s.c (cutE s.l.next s.c.es)).fs] := by
 refine .enter Tryz.func51 rfl (by kernel_rfl) rfl fun R k => ?_
 refine .unpack (L := [blk s.sx (s.cells db) 80, LG db s.l, CG db s.c, TG s.t]) .head ?_
 simp only [List.cons_append, List.nil_append]
 refine .seq ?_
 refine .draws [3, 7, 10] [blk s.sx (s.cells db) 80, LG db s.l] (by kernel_rfl) ?_
 refine .goD fds [0] ?_
 refine .goD fds [1] ?_
 refine .goD fds [2] ?_
 refine .rd 3 rfl rfl (by kernel_rfl) (by kernel_rfl) (by kernel_rfl) (.ld na65 rfl .head rfl) (.cons .head (.cons .head .nil)) ?_
 refine .goD fds [4] ?_
 refine .goD fds [5] ?_
 refine .goD fds [6] ?_
 refine .rd 7 rfl rfl (by kernel_rfl) (by kernel_rfl) (by kernel_rfl) (.ld na48 rfl .head rfl) (.cons .head (.cons .head .nil)) ?_
 refine .goD fds [8] ?_
 refine .goD fds [9] ?_
 refine .rd 10 rfl rfl (by kernel_rfl) (by kernel_rfl) (by kernel_rfl) (.load na54 rfl (Knows.one (i := 0) ((LG.at (.tail .head)).mono fun _ h => h.1) rfl)) (.cons .head (.cons .head .nil)) ?_
 refine .ef 11 (by kernel_rfl) rfl (.fn rfl rfl .nil ((LG.at (.tail .head)).mono fun _ h => h.2.2 _ (Lx.cur_in (s.l))) (Next_ok db (s.l).cur hl.cur.1)) ?_
 rintro v _ ⟨G1, hq, rfl⟩
 obtain ⟨rfl, rfl⟩ := hq
 simp only [List.nil_append]
 refine ⟨.inr ⟨_, (.cons .head (.cons .head .nil))⟩, ?_⟩
 refine .alter (t := 13) (v' := .int .i64 (s.l).next) rfl (rfl) ?_
 refine .ef 12 (by kernel_rfl) rfl (.fn rfl rfl (.cons (.tail (.tail .head)) (.cons (.tail (.tail (.tail .head))) (.cons (.tail (.tail (.tail .head))) .nil))) (fun _ _ _ => trivial) (CutE_ok db mb d s.c s.l.next hnx hes hd hn hr hroom)) ?_
 rintro v _ ⟨G1, hq, rfl⟩
 obtain ⟨rfl, la, lc, rfl⟩ := hq
 simp only [List.cons_append, List.nil_append]
 refine ⟨.inl (by kernel_rfl), ?_⟩
 refine .done (by kernel_rfl) ?_
 refine .draws [3, 7, 10] [blk s.sx (s.cells db) 80, LG db s.l] (by kernel_rfl) ?_
 refine .goD fds [0] ?_
 refine .goD fds [1] ?_
 refine .goD fds [2] ?_
 refine .rd 3 rfl rfl (by kernel_rfl) (by kernel_rfl) (by kernel_rfl) (.ld na36 rfl .head rfl) (.cons (.tail (.tail (.tail .head))) (.cons (.tail (.tail (.tail .head))) .nil)) ?_
 refine .goD fds [4] ?_
 refine .goD fds [5] ?_
 refine .goD fds [6] ?_
 refine .rd 7 rfl rfl (by kernel_rfl) (by kernel_rfl) (by kernel_rfl) (.ld na48 rfl .head rfl) (.cons (.tail (.tail (.tail .head))) (.cons (.tail (.tail (.tail .head))) .nil)) ?_
 refine .goD fds [8] ?_
 refine .goD fds [9] ?_
 refine .rd 10 rfl rfl (by kernel_rfl) (by kernel_rfl) (by kernel_rfl) (.load na54 rfl (Knows.one (i := 0) ((LG.at (.tail .head)).mono fun _ h => h.1) rfl)) (.cons (.tail (.tail (.tail .head))) (.cons (.tail (.tail (.tail .head))) .nil)) ?_
 refine .ef 11 (by kernel_rfl) rfl (.fn rfl rfl .nil ((LG.at (.tail (.tail (.tail (.tail .head))))).mono fun _ h => h.2.2 _ (Lx.cur_in (s.l))) (Next_ok db (s.l).cur hl.cur.1)) ?_
 rintro v _ ⟨G1, hq, rfl⟩
 obtain ⟨rfl, rfl⟩ := hq
 simp only [List.nil_append]
 refine ⟨.inr ⟨_, (.cons (.tail (.tail (.tail .head))) (.cons (.tail (.tail (.tail .head))) .nil))⟩, ?_⟩
 refine .alter (t := 26) (v' := .int .i64 (s.l).next) rfl (rfl) ?_
 refine .ef 12 (by kernel_rfl) rfl (.fn rfl rfl (.cons (.tail (.tail (.tail (.tail (.tail .head))))) .nil) (fun _ _ _ => trivial) (CutT_ok s.t s.l.next hT)) ?_
 rintro v _ ⟨G1, hq, rfl⟩
 obtain ⟨t', ht1, ht2, rfl⟩ := hq
 simp only [List.cons_append, List.nil_append]
 refine ⟨.inl (by kernel_rfl), ?_⟩
 refine .done (by kernel_rfl) ?_
 refine .perm (.cons (.tail (.tail (.tail (.tail .head)))) (.cons .head (.cons .head (.cons .head (.cons .head (.cons .head (.cons .head .nil))))))) ?_
 refine .cast (X' := blk ((⟨s.sx, s.l, ⟨s.c.cb, s.c.nm, (cutE s.l.next s.c.es), la, lc⟩, t'⟩ : St)).sx (St.cells ((⟨s.sx, s.l, ⟨s.c.cb, s.c.nm, (cutE s.l.next s.c.es), la, lc⟩, t'⟩ : St)) db) 80) (by unfold St.cells; rw [ht1]) ?_
 refine .pack (L := [blk ((⟨s.sx, s.l, ⟨s.c.cb, s.c.nm, (cutE s.l.next s.c.es), la, lc⟩, t'⟩ : St)).sx (St.cells ((⟨s.sx, s.l, ⟨s.c.cb, s.c.nm, (cutE s.l.next s.c.es), la, lc⟩, t'⟩ : St)) db) 80, LG db ((⟨s.sx, s.l, ⟨s.c.cb, s.c.nm, (cutE s.l.next s.c.es), la, lc⟩, t'⟩ : St)).l, CG db ((⟨s.sx, s.l, ⟨s.c.cb, s.c.nm, (cutE s.l.next s.c.es), la, lc⟩, t'⟩ : St)).c, TG ((⟨s.sx, s.l, ⟨s.c.cb, s.c.nm, (cutE s.l.next s.c.es), la, lc⟩, t'⟩ : St)).t]) (.cons .head (.cons (.tail (.tail (.tail (.tail .head)))) (.cons (.tail .head) (.cons .head .nil)))) ?_
 refine .endP Tryz.func51 .nil (.cons .head (.cons .head (.cons .head (.cons .head .nil)))) ?_
 exact ⟨[_, _, _], ⟨t', la, lc, ht2, rfl⟩, rfl⟩
end Go.Proofs.YtoglbebcdjdkiaaGreatDoor
namespace Go.Proofs.YtoglbebcdjdkiaaGreatDoor
open Go Go.Sp
namespace st1
theorem ts58 : TS Tryz.prog 58 1 := .of (by kernel_rfl)
theorem na58 : NotAgg Tryz.prog 58 := ⟨_, Tryz.underlying58, trivial⟩
theorem na48 : NotAgg Tryz.prog 48 := ⟨_, Tryz.underlying48, trivial⟩
theorem na54 : NotAgg Tryz.prog 54 := ⟨_, Tryz.underlying54, trivial⟩
theorem ti58 : TI Tryz.prog 58 1 8 (.nilFunc) := .of (by kernel_rfl)
end st1
open st1
set_option maxHeartbeats 2000000 in
set_option maxRecDepth 20000 in
theorem steps_ok (db mb : Nat) (d : Dk) (l : Lx) (bs : Nat) (hd : d.ok) (hl : l.ok d) : Cn Tryz.prog 56 [.slice (some ⟨bs, 0, none⟩) 1 1] (CellsAt bs 0 [.func (.func 57) #[.pointer (some ⟨l.cur.b, 0, none⟩)] #[]]) [LG db l, blk db (d.cells mb) 74, mp nmv Fl.val mb d.fs] fun v G => v = .int .i64 0 ∧ G = [LG db l, blk db ((sync l d).cells mb) 74, mp nmv Fl.val mb (sync l d).fs] := by
 refine .enter Tryz.func56 rfl (by kernel_rfl) rfl fun R k => ?_
 refine .goO fds 8 ?_
 refine .rd (.lenL rfl rfl Tryz.underlying148 rfl) ?_
 refine .goR fds 2 ?_
 refine .perm (.cons (.tail .head) (.cons .head (.cons .head (.cons .head .nil)))) ?_
 refine .cast (X' := blk db ((if 0 = 0 then d else sync l d).cells mb) 74) (rfl) ?_
 refine .perm (.cons (.tail (.tail .head)) (.cons .head (.cons .head (.cons .head .nil)))) ?_
 refine .cast (X' := mp nmv Fl.val mb (if 0 = 0 then d else sync l d).fs) (rfl) ?_
 refine .block ?_
 refine .loop (σ := Nat) (fun i => i ≤ 1) (fun i => 1 - i) (fun i => [(6, .slice (some ⟨bs, 0, none⟩) 1 1), (7, .int .i64 (1 : Nat)), (8, .int .i64 (i : Nat))]) (fun i => [LG db l, blk db ((if i = 0 then d else sync l d).cells mb) 74, mp nmv Fl.val mb (if i = 0 then d else sync l d).fs, R]) 0 (Nat.zero_le _) (.cons rfl (.cons rfl (.cons rfl .nil))) (.cons (.tail (.tail .head)) (.cons (.tail .head) (.cons .head (.cons .head .nil)))) (fun i hI ih => ?_)
 have hil := hI
 refine .go fds 5 ?_
 refine .condP rfl (fun h2 => ?_) (fun h2 => ?_)
 ·
  refine .go fds 4 ?_
  obtain rfl : i = 0 := by omega
  refine .region ?_
  refine .rd (.indexAddr (b := bs) (o := 0) Tryz.underlying148 ts58 rfl rfl (by omega) (by omega)) ?_
  refine .rd (.load na58 rfl (Knows.one (i := 0) (Knows.pick (.tail (.tail (.tail .head))) (k.mono fun _ h => h)) rfl)) ?_
  refine .goO fds 5 ?_
  refine .fnC rfl rfl (.cons (.tail .head) (.cons (.tail .head) .nil)) ((LG.at .head).mono fun _ h => h.2.2 _ l.cur_in) (SegSync_ok db mb d l.cur hd hl.cur.2.2.1) (fun v G1 hq => ?_)
  obtain ⟨rfl, rfl⟩ := hq
  simp only [List.cons_append, List.nil_append]
  refine .goO fds 11 ?_
  refine .rd (.add rfl rfl (by omega) (by omega)) ?_
  refine .goR fds 2 ?_
  refine .cast (X' := blk db ((if 1 = 0 then d else sync l d).cells mb) 74) (rfl) ?_
  refine .perm (.cons (.tail .head) (.cons .head (.cons .head (.cons .head .nil)))) ?_
  refine .cast (X' := mp nmv Fl.val mb (if 1 = 0 then d else sync l d).fs) (rfl) ?_
  exact (ih 1 (by omega) (by omega)).to (.cons rfl (.cons rfl (.cons rfl .nil))) (.cons (.tail (.tail .head)) (.cons (.tail .head) (.cons .head (.cons .head .nil))))
 ·
  refine .go fds 5 ?_
  obtain rfl : i = 1 := by omega
  refine .retP Tryz.func56 (.cons (.tmp rfl) .nil) (.cons .head (.cons .head (.cons .head (.cons .head .nil)))) ?_
  exact ⟨[_, _, _], ⟨rfl, rfl⟩, rfl⟩
set_option maxHeartbeats 2000000 in
set_option maxRecDepth 20000 in
theorem SyncS_ok (db mb : Nat) (d : Dk) (s : St) (hd : d.ok) (hl : s.l.ok d) : Cn Tryz.prog 24 [.pointer (some ⟨s.sx, 0, none⟩)] (fun _ => True) [SS db s, blk db (d.cells mb) 74, mp nmv Fl.val mb d.fs] fun v G => v = .int .i64 0 ∧ G = [SS db s, blk db ((sync s.l d).cells mb) 74, mp nmv Fl.val mb (sync s.l d).fs] := by
 refine .enter Tryz.func24 rfl (by kernel_rfl) rfl fun R k => ?_
 refine .unpack (L := [blk s.sx (s.cells db) 80, LG db s.l, CG db s.c, TG s.t]) .head ?_
 simp only [List.cons_append, List.nil_append]
 refine .goO fds 9 ?_
 refine .rd (.ld na48 rfl .head rfl) ?_
 refine .go fds 2 ?_
 refine .rd (.load na54 rfl (Knows.one (i := 0) ((LG.at (.tail .head)).mono fun _ h => h.1) rfl)) ?_
 refine .rd (.makeFunc (fs := [.pointer (some ⟨s.l.cur.b, 0, none⟩)]) rfl rfl) ?_
 refine .ef (.buildOne (cs := [.func (.func 57) #[.pointer (some ⟨s.l.cur.b, 0, none⟩)] #[]]) Tryz.underlying148 ti58 (by decide) rfl rfl rfl (ones.of rfl)) ?_
 rintro _ _ ⟨bs, rfl, rfl⟩
 refine .fn rfl rfl (.cons (.tail (.tail .head)) (.cons (.tail (.tail (.tail (.tail .head)))) (.cons (.tail (.tail (.tail (.tail .head)))) .nil))) (Knows.blk .head) (steps_ok db mb d s.l bs hd hl) (fun v G1 hq => ?_)
 obtain ⟨rfl, rfl⟩ := hq
 simp only [List.cons_append, List.nil_append]
 refine .goR fds 2 ?_
 refine .pack (L := [blk (s).sx (St.cells (s) db) 80, LG db (s).l, CG db (s).c, TG (s).t]) (.cons (.tail (.tail (.tail (.tail .head)))) (.cons .head (.cons (.tail (.tail (.tail .head))) (.cons (.tail (.tail (.tail .head))) .nil)))) ?_
 refine .retP Tryz.func24 (.cons (.tmp rfl) .nil) (.cons .head (.cons .head (.cons .head (.cons (.tail .head) .nil)))) ?_
 exact ⟨[_, _, _], ⟨rfl, rfl⟩, rfl⟩
end Go.Proofs.YtoglbebcdjdkiaaGreatDoor
namespace Go.Proofs.YtoglbebcdjdkiaaGreatDoor
open Go Go.Sp
namespace st2
theorem na65 : NotAgg Tryz.prog 65 := ⟨_, Tryz.underlying65, trivial⟩
theorem na3 : NotAgg Tryz.prog 3 := ⟨_, Tryz.underlying3, trivial⟩
theorem na48 : NotAgg Tryz.prog 48 := ⟨_, Tryz.underlying48, trivial⟩
theorem ia41 : IsAgg Tryz.prog 41 := ⟨_, Tryz.underlying41, trivial⟩
theorem ts41 : TS Tryz.prog 41 6 := .of (by kernel_rfl)
theorem na36 : NotAgg Tryz.prog 36 := ⟨_, Tryz.underlying36, trivial⟩
theorem na54 : NotAgg Tryz.prog 54 := ⟨_, Tryz.underlying54, trivial⟩
theorem fd41_0 : FD Tryz.prog 41 0 0 := .of Tryz.underlying41 (by kernel_rfl)
theorem ts3 : TS Tryz.prog 3 1 := .of (by kernel_rfl)
end st2
open st2
def Bat.at_ (b : Bat) (u : Int) : Bat := { b with base := u }
set_option maxHeartbeats 4000000 in
set_option maxRecDepth 20000 in
theorem TakeS_ok (db mb : Nat) (d : Dk) (s : St) (b : Bat) (a : Option Addr) (c : Nat) (hd : d.ok) (hl : s.l.ok d) (ho : Own s.l d) (hnE : s.c.nm = nmE s.l.pre) (hes : EpsOk s.c.es) (hHE : HoldsE d s.c.nm s.c.es) (h200 : s.c.es.length < 200) (hT : TabOk (pur s.t.m)) (hn : s.l.next < 4096) (hsg : s.l.segs.length < 100000) (hfs : d.fs.length < 254) (hb : b.good) (hbn : b.base = s.l.next) (hep : mayN b.epoch) (hlast : lastE s.c.es ≤ b.epoch) (hpid : 0 < b.pid) (hlate : late (notesOf (pur s.t.m) b.pid) b = false) (hroom : d.used + 8040 + (enc b).length ≤ d.size) : Cn Tryz.prog 44 [.pointer (some ⟨s.sx, 0, none⟩), .agg (b.cells a c).toArray] (fun w => LV w ∧ RowAt a (b.recs.flatMap Rec.cells) w) [SS db s, blk db (d.cells mb) 74, mp nmv Fl.val mb d.fs] fun v G => ∃ s' d', v = .int .i64 0 ∧ TookTo s d b s' d' ∧ G = [SS db s', blk db (d'.cells mb) 74, mp nmv Fl.val mb d'.fs] := by
 refine .enter Tryz.func44 rfl (by kernel_rfl) rfl fun R k => ?_
 refine .unpack (L := [blk s.sx (s.cells db) 80, LG db s.l, CG db s.c, TG s.t]) .head ?_
 simp only [List.cons_append, List.nil_append]
 have hnm : Named s.c.nm := by rw [hnE]; exact nmE_named hl.pre
 have hnx0 := hl.cur.1.next_ge
 have hnx1 := hl.cur.1.next_le
 have hb0 := hl.cur.1.base0
 have hnn : s.l.next = s.l.cur.next := rfl
 have hbm : mayN b.base := by unfold mayN; omega
 have hre : (d.get s.c.nm).isSome = true ∨ d.fs.length < 256 := .inr (by omega)
 have hroom1 : d.used + 4020 ≤ d.size := by omega
 obtain ⟨hB, hHE2, hus⟩ := kept_facts hd hl hnE (hes.next hep hbm h200) hroom1 hHE
 have hfl := hHE.len hes
 rw [hnE] at hfl
 refine .goO fds 2 ?_
 refine .ef (.box (l := b.cells a c) rfl rfl (ones.of rfl)) ?_
 rintro _ _ ⟨bx, rfl, rfl⟩
 refine .goO fds 7 ?_
 refine .rd (.ld na65 rfl (.tail .head) rfl) ?_
 refine .fn rfl rfl .nil (CG.at (.tail (.tail (.tail .head)))) (Last_ok db s.c (by have := hes.len; omega)) (fun v G1 hq => ?_)
 obtain ⟨rfl, rfl⟩ := hq
 simp only [List.nil_append]
 refine .goO fds 6 ?_
 refine .rd (.ld na3 rfl .head rfl) ?_
 refine .go fds 2 ?_
 refine .alter (t := 16) (v' := .bool false) rfl (congrArg Value.bool (decide_eq_false (by omega))) ?_
 refine .goO fds 7 ?_
 refine .rd (.ld na3 rfl .head rfl) ?_
 refine .goR fds 3 ?_
 refine .joinEx (σ := Option Addr × Nat) (φ := fun ⟨la, lc⟩ => True) (E' := fun ⟨la, lc⟩ => [(0, .pointer (some ⟨s.sx, 0, none⟩)), (3, .pointer (some ⟨bx, 0, none⟩)), (5, .int .i64 (lastE s.c.es))]) (Γ' := fun ⟨la, lc⟩ => [CG db ⟨s.c.cb, s.c.nm, (nextE s.c.es b.epoch b.base), la, lc⟩, blk db ((keptE d s.c (nextE s.c.es b.epoch b.base)).cells mb) 74, mp nmv Fl.val mb (keptE d s.c (nextE s.c.es b.epoch b.base)).fs, blk s.sx (s.cells db) 80, LG db s.l, TG s.t, blk bx (b.cells a c) 41, R]) (fun sj hj => ?_) (fun fin => ?_)
 ·
  obtain ⟨la, lc⟩ := sj
  dsimp only
  refine .go fds 2 ?_
  refine .draws [3, 4] [blk s.sx (s.cells db) 80, blk bx (b.cells a c) 41] (by kernel_rfl) ?_
  refine .goD fds [0] ?_
  refine .goD fds [1] ?_
  refine .goD fds [2] ?_
  refine .rd 3 rfl rfl (by kernel_rfl) (by kernel_rfl) (by kernel_rfl) (.ld na48 rfl .head rfl) (.cons (.tail (.tail (.tail .head))) (.cons (.tail (.tail (.tail (.tail (.tail .head))))) .nil)) ?_
  refine .rd 4 rfl rfl (by kernel_rfl) (by kernel_rfl) (by kernel_rfl) (.ldN ia41 ts41 rfl (.tail .head) rfl) (.cons (.tail (.tail (.tail .head))) (.cons (.tail (.tail (.tail (.tail (.tail .head))))) .nil)) ?_
  refine .ef 5 (by kernel_rfl) rfl (.fn rfl rfl (.cons (.tail (.tail (.tail (.tail .head)))) (.cons (.tail .head) (.cons (.tail .head) .nil))) (Knows.pick (.tail (.tail (.tail (.tail .head)))) k) (Take_ok7 db mb (keptE d s.c (nextE s.c.es b.epoch b.base)) s.l b a c hB.dok hB.ok (hB.own ho) hb hbn hn (by rw [hB.size]; omega) (by have := hB.len; omega) hsg)) ?_
  rintro v _ ⟨G1, hq, rfl⟩
  obtain ⟨l', d', rfl, hA, rfl⟩ := hq
  simp only [List.cons_append, List.nil_append]
  refine ⟨.inl (by kernel_rfl), ?_⟩
  refine .goD fds [6] ?_
  refine .done (by kernel_rfl) ?_
  refine .go fds 8 ?_
  refine .draws [3, 4] [blk s.sx (s.cells db) 80, blk bx (b.cells a c) 41] (by kernel_rfl) ?_
  refine .goD fds [0] ?_
  refine .goD fds [1] ?_
  refine .goD fds [2] ?_
  refine .rd 3 rfl rfl (by kernel_rfl) (by kernel_rfl) (by kernel_rfl) (.ld na36 rfl .head rfl) (.cons (.tail (.tail (.tail (.tail .head)))) (.cons (.tail (.tail (.tail (.tail (.tail .head))))) .nil)) ?_
  refine .rd 4 rfl rfl (by kernel_rfl) (by kernel_rfl) (by kernel_rfl) (.ldN ia41 ts41 rfl (.tail .head) rfl) (.cons (.tail (.tail (.tail (.tail .head)))) (.cons (.tail (.tail (.tail (.tail (.tail .head))))) .nil)) ?_
  refine .ef 5 (by kernel_rfl) rfl (.fn rfl rfl (.cons (.tail (.tail (.tail (.tail (.tail .head))))) .nil) (Knows.pick (.tail (.tail (.tail (.tail (.tail (.tail .head)))))) (k.mono fun _ h => h.2)) (Note_ok s.t b a c hT hpid hb.fits hb.right hlate)) ?_
  rintro v _ ⟨G1, hq, rfl⟩
  obtain ⟨t', ht1, ht2, rfl⟩ := hq
  simp only [List.cons_append, List.nil_append]
  refine ⟨.inl (by kernel_rfl), ?_⟩
  refine .done (by kernel_rfl) ?_
  refine .go fds 4 ?_
  refine .perm (.cons (.tail (.tail (.tail (.tail (.tail .head))))) (.cons .head (.cons .head (.cons .head (.cons .head (.cons .head (.cons .head (.cons .head .nil)))))))) ?_
  refine .cast (X' := blk ((⟨s.sx, l', ⟨s.c.cb, s.c.nm, (nextE s.c.es b.epoch b.base), la, lc⟩, t'⟩ : St)).sx (St.cells ((⟨s.sx, l', ⟨s.c.cb, s.c.nm, (nextE s.c.es b.epoch b.base), la, lc⟩, t'⟩ : St)) db) 80) (by unfold St.cells; rw [ht1, hA.lb, hA.pre]) ?_
  refine .pack (L := [blk ((⟨s.sx, l', ⟨s.c.cb, s.c.nm, (nextE s.c.es b.epoch b.base), la, lc⟩, t'⟩ : St)).sx (St.cells ((⟨s.sx, l', ⟨s.c.cb, s.c.nm, (nextE s.c.es b.epoch b.base), la, lc⟩, t'⟩ : St)) db) 80, LG db ((⟨s.sx, l', ⟨s.c.cb, s.c.nm, (nextE s.c.es b.epoch b.base), la, lc⟩, t'⟩ : St)).l, CG db ((⟨s.sx, l', ⟨s.c.cb, s.c.nm, (nextE s.c.es b.epoch b.base), la, lc⟩, t'⟩ : St)).c, TG ((⟨s.sx, l', ⟨s.c.cb, s.c.nm, (nextE s.c.es b.epoch b.base), la, lc⟩, t'⟩ : St)).t]) (.cons .head (.cons (.tail .head) (.cons (.tail (.tail (.tail .head))) (.cons .head .nil)))) ?_
  refine .retP Tryz.func44 (.cons (.tmp rfl) .nil) (.cons .head (.cons .head (.cons .head (.cons (.tail .head) .nil)))) ?_
  exact ⟨[_, _, _], ⟨(⟨s.sx, l', ⟨s.c.cb, s.c.nm, (nextE s.c.es b.epoch b.base), la, lc⟩, t'⟩ : St), d', rfl, ⟨hA, rfl, rfl, rfl, ht2⟩, rfl⟩, rfl⟩
 ·
  refine .condP rfl (fun c4 => ?_) (fun c4 => ?_)
  ·
   refine .seq ?_
   refine .draws [3, 5, 9, 12] [blk s.sx (s.cells db) 80, LG db s.l, blk bx (b.cells a c) 41] (by kernel_rfl) ?_
   refine .goD fds [0] ?_
   refine .goD fds [1] ?_
   refine .goD fds [2] ?_
   refine .rd 3 rfl rfl (by kernel_rfl) (by kernel_rfl) (by kernel_rfl) (.ld na65 rfl .head rfl) (.cons (.tail .head) (.cons (.tail .head) (.cons .head .nil))) ?_
   refine .goD fds [4] ?_
   refine .rd 5 rfl rfl (by kernel_rfl) (by kernel_rfl) (by kernel_rfl) (.ld na3 rfl (.tail (.tail .head)) rfl) (.cons (.tail .head) (.cons (.tail .head) (.cons .head .nil))) ?_
   refine .goD fds [6] ?_
   refine .goD fds [7] ?_
   refine .goD fds [8] ?_
   refine .rd 9 rfl rfl (by kernel_rfl) (by kernel_rfl) (by kernel_rfl) (.ld na48 rfl .head rfl) (.cons (.tail .head) (.cons (.tail .head) (.cons .head .nil))) ?_
   refine .goD fds [10] ?_
   refine .goD fds [11] ?_
   refine .rd 12 rfl rfl (by kernel_rfl) (by kernel_rfl) (by kernel_rfl) (.load na54 rfl (Knows.one (i := 0) ((LG.at (.tail .head)).mono fun _ h => h.1) rfl)) (.cons (.tail .head) (.cons (.tail .head) (.cons .head .nil))) ?_
   refine .ef 13 (by kernel_rfl) rfl (.fn rfl rfl .nil ((LG.at (.tail (.tail .head))).mono fun _ h => h.2.2 _ (Lx.cur_in (s.l))) (Next_ok db (s.l).cur hl.cur.1)) ?_
   rintro v _ ⟨G1, hq, rfl⟩
   obtain ⟨rfl, rfl⟩ := hq
   simp only [List.nil_append]
   refine ⟨.inr ⟨_, (.cons (.tail .head) (.cons (.tail .head) (.cons .head .nil)))⟩, ?_⟩
   refine .alter (t := 34) (v' := .int .i64 (s.l).next) rfl (rfl) ?_
   refine .alter (t := 34) (v' := .int .i64 b.base) rfl (by rw [hbn]) ?_
   refine .ef 14 (by kernel_rfl) rfl (.fn rfl rfl (.cons (.tail (.tail (.tail .head))) (.cons (.tail (.tail (.tail (.tail .head)))) (.cons (.tail (.tail (.tail (.tail .head)))) .nil))) (fun _ _ _ => trivial) (BeginE_ok db mb d s.c b.epoch b.base hep hbm (by omega) h200 hes hd hnm hre hroom1)) ?_
   rintro v _ ⟨G1, hq, rfl⟩
   obtain ⟨rfl, la, lc, rfl⟩ := hq
   simp only [List.cons_append, List.nil_append]
   refine ⟨.inl (by kernel_rfl), ?_⟩
   refine .goD fds [15] ?_
   refine .done (by kernel_rfl) ?_
   refine .go fds 7 ?_
   have hne : (nextE s.c.es b.epoch b.base) = cutE b.base s.c.es ++ [(b.epoch, b.base)] := if_pos (by omega)
   refine .perm (.cons (.tail (.tail .head)) (.cons .head (.cons .head (.cons .head (.cons .head (.cons .head (.cons .head (.cons .head .nil)))))))) ?_
   refine .cast (X' := mp nmv Fl.val mb (keptE d s.c (nextE s.c.es b.epoch b.base)).fs) (by rw [hne]) ?_
   refine .perm (.cons (.tail (.tail .head)) (.cons .head (.cons .head (.cons .head (.cons .head (.cons .head (.cons .head (.cons .head .nil)))))))) ?_
   refine .cast (X' := blk db ((keptE d s.c (nextE s.c.es b.epoch b.base)).cells mb) 74) (by rw [hne]) ?_
   refine .perm (.cons (.tail (.tail .head)) (.cons .head (.cons .head (.cons .head (.cons .head (.cons .head (.cons .head (.cons .head .nil)))))))) ?_
   refine .cast (X' := CG db ⟨s.c.cb, s.c.nm, (nextE s.c.es b.epoch b.base), la, lc⟩) (by rw [hne]) ?_
   exact fin (la, lc) trivial (.cons rfl (.cons rfl (.cons rfl .nil))) (.cons .head (.cons .head (.cons .head (.cons (.tail .head) (.cons (.tail .head) (.cons (.tail .head) (.cons .head (.cons .head .nil))))))))
  ·
   refine .skip ?_
   have hne : (nextE s.c.es b.epoch b.base) = s.c.es := if_neg (by omega)
   refine .perm (.cons (.tail (.tail (.tail (.tail (.tail (.tail .head)))))) (.cons .head (.cons .head (.cons .head (.cons .head (.cons .head (.cons .head (.cons .head .nil)))))))) ?_
   refine .cast (X' := mp nmv Fl.val mb (keptE d s.c (nextE s.c.es b.epoch b.base)).fs) (by rw [hne, keptE, if_pos rfl]) ?_
   refine .perm (.cons (.tail (.tail (.tail (.tail (.tail (.tail .head)))))) (.cons .head (.cons .head (.cons .head (.cons .head (.cons .head (.cons .head (.cons .head .nil)))))))) ?_
   refine .cast (X' := blk db ((keptE d s.c (nextE s.c.es b.epoch b.base)).cells mb) 74) (by rw [hne, keptE, if_pos rfl]) ?_
   refine .perm (.cons (.tail (.tail (.tail (.tail (.tail .head))))) (.cons .head (.cons .head (.cons .head (.cons .head (.cons .head (.cons .head (.cons .head .nil)))))))) ?_
   refine .cast (X' := CG db ⟨s.c.cb, s.c.nm, (nextE s.c.es b.epoch b.base), s.c.la, s.c.lc⟩) (by rw [hne]) ?_
   exact fin (s.c.la, s.c.lc) trivial (.cons rfl (.cons rfl (.cons rfl .nil))) (.cons .head (.cons .head (.cons .head (.cons (.tail .head) (.cons (.tail .head) (.cons (.tail .head) (.cons .head (.cons .head .nil))))))))
set_option maxHeartbeats 4000000 in
set_option maxRecDepth 20000 in
theorem AppendS_ok (db mb : Nat) (d : Dk) (s : St) (b : Bat) (a : Option Addr) (c : Nat) (hd : d.ok) (hl : s.l.ok d) (ho : Own s.l d) (hnE : s.c.nm = nmE s.l.pre) (hes : EpsOk s.c.es) (hHE : HoldsE d s.c.nm s.c.es) (h200 : s.c.es.length < 200) (hT : TabOk (pur s.t.m)) (hn : s.l.next < 4096) (hsg : s.l.segs.length < 100000) (hfs : d.fs.length < 254) (hb : (b.at_ s.l.next).good) (hep : mayN b.epoch) (hlast : lastE s.c.es ≤ b.epoch) (hpid : 0 < b.pid) (hlate : late (notesOf (pur s.t.m) b.pid) (b.at_ s.l.next) = false) (hroom : d.used + 8040 + (enc (b.at_ s.l.next)).length ≤ d.size) : Cn Tryz.prog 14 [.pointer (some ⟨s.sx, 0, none⟩), .agg (b.cells a c).toArray] (fun w => LV w ∧ RowAt a (b.recs.flatMap Rec.cells) w) [SS db s, blk db (d.cells mb) 74, mp nmv Fl.val mb d.fs] fun v G => ∃ s' d', v = .tuple #[.int .i64 s.l.next, .int .i64 0] ∧ TookTo s d (b.at_ s.l.next) s' d' ∧ G = [SS db s', blk db (d'.cells mb) 74, mp nmv Fl.val mb d'.fs] := by
 refine .enter Tryz.func14 rfl (by kernel_rfl) rfl fun R k => ?_
 refine .unpack (L := [blk s.sx (s.cells db) 80, LG db s.l, CG db s.c, TG s.t]) .head ?_
 simp only [List.cons_append, List.nil_append]
 refine .goO fds 2 ?_
 refine .ef (.box (l := b.cells a c) rfl rfl (ones.of rfl)) ?_
 rintro _ _ ⟨bx, rfl, rfl⟩
 refine .goO fds 8 ?_
 refine .rd (.ld na48 rfl (.tail .head) rfl) ?_
 refine .go fds 2 ?_
 refine .rd (.load na54 rfl (Knows.one (i := 0) ((LG.at (.tail (.tail .head))).mono fun _ h => h.1) rfl)) ?_
 refine .fn rfl rfl .nil ((LG.at (.tail (.tail .head))).mono fun _ h => h.2.2 _ (Lx.cur_in (s.l))) (Next_ok db (s.l).cur hl.cur.1) (fun v G1 hq => ?_)
 obtain ⟨rfl, rfl⟩ := hq
 simp only [List.nil_append]
 refine .alter (t := 14) (v' := .int .i64 (s.l).next) rfl (rfl) ?_
 refine .rd (.fieldAddr fd41_0 rfl) ?_
 refine .ef0 (.store ts3 rfl rfl .head rfl (Nat.le_of_ble_eq_true rfl)) ?_
 rintro _ _ rfl
 refine .cast (X' := blk bx ((b.at_ s.l.next).cells a c) 41) (rfl) ?_
 refine .goR fds 3 ?_
 refine .pack (L := [blk (s).sx (St.cells (s) db) 80, LG db (s).l, CG db (s).c, TG (s).t]) (.cons (.tail .head) (.cons (.tail .head) (.cons (.tail .head) (.cons (.tail .head) .nil)))) ?_
 refine .goO fds 2 ?_
 refine .rd (.ldN ia41 ts41 rfl (.tail .head) rfl) ?_
 refine .fn rfl rfl (.cons .head (.cons (.tail .head) (.cons (.tail .head) .nil))) (Knows.pick (.tail .head) k) (TakeS_ok db mb d s (b.at_ s.l.next) a c hd hl ho hnE hes hHE h200 hT hn hsg hfs hb rfl hep hlast hpid hlate hroom) (fun v G1 hq => ?_)
 obtain ⟨s', d', rfl, hA, rfl⟩ := hq
 simp only [List.cons_append, List.nil_append]
 refine .goO fds 12 ?_
 refine .rd (.ld na3 rfl (.tail (.tail (.tail .head))) rfl) ?_
 refine .goR fds 3 ?_
 refine .retP Tryz.func14 (.cons (.tmp rfl) (.cons (.tmp rfl) .nil)) (.cons .head (.cons .head (.cons .head (.cons (.tail .head) .nil)))) ?_
 exact ⟨[_, _, _], ⟨s', d', rfl, hA, rfl⟩, rfl⟩
end Go.Proofs.YtoglbebcdjdkiaaGreatDoor
namespace Go.Proofs.YtoglbebcdjdkiaaGreatDoor
open Go Go.Sp
namespace st3
theorem na48 : NotAgg Tryz.prog 48 := ⟨_, Tryz.underlying48, trivial⟩
theorem na36 : NotAgg Tryz.prog 36 := ⟨_, Tryz.underlying36, trivial⟩
theorem na65 : NotAgg Tryz.prog 65 := ⟨_, Tryz.underlying65, trivial⟩
end st3
open st3
set_option maxHeartbeats 4000000 in
set_option maxRecDepth 20000 in
theorem CutS_ok (db mb : Nat) (d : Dk) (s : St) (off : Int) (hd : d.ok) (hl : s.l.ok d) (hnE : s.c.nm = nmE s.l.pre) (hes : EpsOk s.c.es) (hT : TabOk (pur s.t.m)) (hfs : d.fs.length < 254) (h1 : s.l.start ≤ off) (h2 : off ≤ s.l.next) (hge : s.l.start ≤ nextOf (baseOf s.l) (cutN off s.l.all)) (hroom : d.used + 4020 ≤ d.size) : Cn Tryz.prog 20 [.pointer (some ⟨s.sx, 0, none⟩), .int .i64 off] LV [SS db s, blk db (d.cells mb) 74, mp nmv Fl.val mb d.fs] fun v G => ∃ s' d', v = .int .i64 0 ∧ CutS s d off s' d' ∧ G = [SS db s', blk db (d'.cells mb) 74, mp nmv Fl.val mb d'.fs] := by
 refine .enter Tryz.func20 rfl (by kernel_rfl) rfl fun R k => ?_
 refine .unpack (L := [blk s.sx (s.cells db) 80, LG db s.l, CG db s.c, TG s.t]) .head ?_
 simp only [List.cons_append, List.nil_append]
 have hnm : Named s.c.nm := by rw [hnE]; exact nmE_named hl.pre
 refine .goO fds 10 ?_
 refine .rd (.ld na48 rfl .head rfl) ?_
 refine .rd (.move rfl) ?_
 refine .fn rfl rfl (.cons (.tail .head) (.cons (.tail (.tail (.tail .head))) (.cons (.tail (.tail (.tail .head))) .nil))) (Knows.pick (.tail (.tail (.tail .head))) k) (LCut_ok db mb d s.l off hd hl h1 h2 hge) (fun v G1 hq => ?_)
 obtain ⟨q, e, rfl, hC, rfl⟩ := hq
 simp only [List.cons_append, List.nil_append]
 refine .goR fds 10 ?_
 refine .perm (.cons (.tail (.tail (.tail .head))) (.cons .head (.cons .head (.cons .head (.cons .head (.cons .head (.cons .head .nil))))))) ?_
 refine .cast (X' := blk ((⟨s.sx, q, s.c, s.t⟩ : St)).sx (St.cells ((⟨s.sx, q, s.c, s.t⟩ : St)) db) 80) (by unfold St.cells; rw [hC.lb, hC.pre]) ?_
 refine .pack (L := [blk ((⟨s.sx, q, s.c, s.t⟩ : St)).sx (St.cells ((⟨s.sx, q, s.c, s.t⟩ : St)) db) 80, LG db ((⟨s.sx, q, s.c, s.t⟩ : St)).l, CG db ((⟨s.sx, q, s.c, s.t⟩ : St)).c, TG ((⟨s.sx, q, s.c, s.t⟩ : St)).t]) (.cons .head (.cons .head (.cons (.tail (.tail .head)) (.cons (.tail (.tail .head)) .nil)))) ?_
 refine .goO fds 2 ?_
 refine .fn rfl rfl (.cons .head (.cons .head (.cons .head .nil))) (fun _ _ _ => trivial) (cutS_ok db mb e (⟨s.sx, q, s.c, s.t⟩ : St) hC.dok hC.ok (by have h3 := hC.ok.cur.1.next_ge; have h4 := hC.ok.cur.1.next_le; have h5 := hC.ok.cur.1.base0; exact ⟨by show 0 ≤ q.cur.next; omega, by show q.cur.next ≤ _; omega⟩) hes hT hnm (.inr (by have := hC.len; omega)) (by have h3 := hC.size; have h4 := hC.used; omega)) (fun v G1 hq => ?_)
 obtain ⟨t', la, lc, ht, rfl⟩ := hq
 simp only [List.cons_append, List.nil_append]
 refine .goR fds 5 ?_
 refine .retP Tryz.func20 (.cons (.tmp rfl) .nil) (.cons .head (.cons .head (.cons .head (.cons .head .nil)))) ?_
 exact ⟨[_, _, _], ⟨⟨s.sx, q, ⟨s.c.cb, s.c.nm, cutE q.next s.c.es, la, lc⟩, t'⟩, _, rfl, ⟨⟨e, hC, rfl⟩, rfl, rfl, rfl, ht⟩, rfl⟩, rfl⟩
set_option maxHeartbeats 4000000 in
set_option maxRecDepth 20000 in
theorem DeleteS_ok (db mb : Nat) (d : Dk) (s : St) (off : Nat) (hd : d.ok) (hl : s.l.ok d) (hnE : s.c.nm = nmE s.l.pre) (hes : EpsOk s.c.es) (hT : TabOk (pur s.t.m)) (hfs : d.fs.length < 254) (htl : s.t.m.length ≤ 1000000) (hts : sizeT (pur s.t.m) ≤ 100000000) (h1 : s.l.start ≤ (off : Int)) (hp : (off : Int) = s.l.next ∨ ∃ b ∈ s.l.all, b.base = (off : Int)) (h2 : (off : Int) ≤ s.l.next) (hroom : d.used + (keepT (pur s.t.m)).length + 5000 ≤ d.size) : Cn Tryz.prog 23 [.pointer (some ⟨s.sx, 0, none⟩), .int .i64 (off : Int)] LV [SS db s, blk db (d.cells mb) 74, mp nmv Fl.val mb d.fs] fun v G => ∃ s' d', v = .int .i64 0 ∧ DelS s d off s' d' ∧ G = [SS db s', blk db (d'.cells mb) 74, mp nmv Fl.val mb d'.fs] := by
 refine .enter Tryz.func23 rfl (by kernel_rfl) rfl fun R k => ?_
 refine .unpack (L := [blk s.sx (s.cells db) 80, LG db s.l, CG db s.c, TG s.t]) .head ?_
 simp only [List.cons_append, List.nil_append]
 have hnm : Named s.c.nm := by rw [hnE]; exact nmE_named hl.pre
 have hnx1 := hl.cur.1.next_le
 have hnn : s.l.next = s.l.cur.next := rfl
 have hB : Beside s.l (nmP s.l.pre) d (putP d s) := .put hd hl (nmP_named hl.pre).2.1 (fun u hu => nmP_far hu) (by dsimp only; omega) (Nat.le_refl _)
 have hu := Dk.used_put hd (nmP s.l.pre) ⟨keepT (pur s.t.m), (keepT (pur s.t.m)).length⟩
 dsimp only at hu
 have hu1 : (putP d s).used ≤ d.used + (keepT (pur s.t.m)).length := by unfold putP; omega
 refine .goO fds 11 ?_
 refine .rd (.ld na36 rfl .head rfl) ?_
 refine .pack (L := [blk (s).sx (St.cells (s) db) 80, LG db (s).l, CG db (s).c, TG (s).t]) (.cons .head (.cons .head (.cons .head (.cons .head .nil)))) ?_
 refine .fn rfl rfl (.cons .head (.cons .head (.cons .head .nil))) (fun _ _ _ => trivial) (keepS_ok db mb d s hl.pre hd hT htl hts (.inr (by omega)) (by omega)) (fun v G1 hq => ?_)
 obtain ⟨rfl, rfl⟩ := hq
 simp only [List.cons_append, List.nil_append]
 refine .goR fds 2 ?_
 refine .unpack (L := [blk s.sx (s.cells db) 80, LG db s.l, CG db s.c, TG s.t]) .head ?_
 simp only [List.cons_append, List.nil_append]
 refine .perm (.cons (.tail (.tail (.tail (.tail (.tail .head))))) (.cons .head (.cons .head (.cons .head (.cons .head (.cons .head (.cons .head .nil))))))) ?_
 refine .cast (X' := mp nmv Fl.val mb (putP d s).fs) (rfl) ?_
 refine .perm (.cons (.tail (.tail (.tail (.tail (.tail .head))))) (.cons .head (.cons .head (.cons .head (.cons .head (.cons .head (.cons .head .nil))))))) ?_
 refine .cast (X' := blk db ((putP d s).cells mb) 74) (rfl) ?_
 refine .goO fds 13 ?_
 refine .rd (.ld na48 rfl (.tail (.tail .head)) rfl) ?_
 refine .rd (.move rfl) ?_
 refine .fn rfl rfl (.cons (.tail (.tail (.tail .head))) (.cons .head (.cons .head .nil))) (Knows.pick (.tail (.tail (.tail .head))) k) (Delete_ok db mb (putP d s) s.l off hB.dok hB.ok h1 hp h2 (.inr (by have := hB.len; omega)) (by rw [hB.size]; omega)) (fun v G1 hq => ?_)
 obtain ⟨q, e, rfl, hD, rfl⟩ := hq
 simp only [List.cons_append, List.nil_append]
 refine .goO fds 14 ?_
 refine .rd (.ld na36 rfl (.tail (.tail (.tail .head))) rfl) ?_
 refine .rd (.move rfl) ?_
 refine .fn rfl rfl (.cons (.tail (.tail (.tail (.tail (.tail .head))))) .nil) (fun _ _ _ => trivial) (DeleteT_ok s.t (off : Int) hT) (fun v G1 hq => ?_)
 obtain ⟨t', ht1, ht2, rfl⟩ := hq
 simp only [List.cons_append, List.nil_append]
 refine .goO fds 6 ?_
 refine .rd (.ld na65 rfl (.tail (.tail (.tail (.tail .head)))) rfl) ?_
 refine .rd (.move rfl) ?_
 refine .fn rfl rfl (.cons (.tail (.tail (.tail (.tail (.tail .head))))) (.cons (.tail (.tail .head)) (.cons (.tail (.tail .head)) .nil))) (fun _ _ _ => trivial) (DeleteE_ok db mb e s.c (off : Int) ⟨by omega, by omega⟩ hes hD.dok hnm (.inr (by have := hD.len; have := hB.len; omega)) (by have h3 := hD.size; have h4 := hD.used; have h5 := hB.size; omega)) (fun v G1 hq => ?_)
 obtain ⟨rfl, la, lc, rfl⟩ := hq
 simp only [List.cons_append, List.nil_append]
 refine .goR fds 5 ?_
 refine .perm (.cons (.tail (.tail (.tail (.tail (.tail .head))))) (.cons .head (.cons .head (.cons .head (.cons .head (.cons .head (.cons .head .nil))))))) ?_
 refine .cast (X' := blk ((⟨s.sx, q, ⟨s.c.cb, s.c.nm, delE (off : Int) s.c.es, la, lc⟩, t'⟩ : St)).sx (St.cells ((⟨s.sx, q, ⟨s.c.cb, s.c.nm, delE (off : Int) s.c.es, la, lc⟩, t'⟩ : St)) db) 80) (by unfold St.cells; rw [hD.lb, hD.pre, ht1]) ?_
 refine .pack (L := [blk ((⟨s.sx, q, ⟨s.c.cb, s.c.nm, delE (off : Int) s.c.es, la, lc⟩, t'⟩ : St)).sx (St.cells ((⟨s.sx, q, ⟨s.c.cb, s.c.nm, delE (off : Int) s.c.es, la, lc⟩, t'⟩ : St)) db) 80, LG db ((⟨s.sx, q, ⟨s.c.cb, s.c.nm, delE (off : Int) s.c.es, la, lc⟩, t'⟩ : St)).l, CG db ((⟨s.sx, q, ⟨s.c.cb, s.c.nm, delE (off : Int) s.c.es, la, lc⟩, t'⟩ : St)).c, TG ((⟨s.sx, q, ⟨s.c.cb, s.c.nm, delE (off : Int) s.c.es, la, lc⟩, t'⟩ : St)).t]) (.cons .head (.cons (.tail (.tail (.tail (.tail .head)))) (.cons .head (.cons (.tail (.tail .head)) .nil)))) ?_
 refine .retP Tryz.func23 (.cons (.tmp rfl) .nil) (.cons .head (.cons .head (.cons .head (.cons .head .nil)))) ?_
 exact ⟨[_, _, _], ⟨(⟨s.sx, q, ⟨s.c.cb, s.c.nm, delE (off : Int) s.c.es, la, lc⟩, t'⟩ : St), _, rfl, ⟨⟨e, hD, rfl⟩, rfl, rfl, rfl, ht2⟩, rfl⟩, rfl⟩
end Go.Proofs.YtoglbebcdjdkiaaGreatDoor
namespace Go.Proofs.YtoglbebcdjdkiaaGreatDoor
open Go Go.Sp
namespace log5
theorem na40 : NotAgg Tryz.prog 55 := ⟨_, Tryz.underlying55, trivial⟩
theorem ts39 : TS Tryz.prog 54 1 := .of (by kernel_rfl)
theorem na39 : NotAgg Tryz.prog 54 := ⟨_, Tryz.underlying54, trivial⟩
theorem ts34 : TS Tryz.prog 41 6 := .of (by kernel_rfl)
theorem ia34 : IsAgg Tryz.prog 41 := ⟨_, Tryz.underlying41, trivial⟩
theorem ti34 : TI Tryz.prog 41 6 64 (.agg #[.int .i64 0, .int .i64 0, .int .i64 0, .int .i64 0, .int .i64 0, .slice none 0 0]) := .of (by kernel_rfl)
theorem na3 : NotAgg Tryz.prog 3 := ⟨_, Tryz.underlying3, trivial⟩
end log5
open log5
set_option maxHeartbeats 1000000 in
set_option maxRecDepth 20000 in
theorem All_ok (db mb : Nat) (d : Dk) (l : Lx) (hl : l.ok d) (hcap : l.all.length ≤ 100000000) : Cn Tryz.prog 19 [.pointer (some ⟨l.lb, 0, none⟩)] (LogAt db l) [blk db (d.cells mb) 74, mp nmv Fl.val mb d.fs] fun v G => ∃ (bl : List BatM) (ra : Option Addr) (rc : Nat), bl.map (·.1) = keepN l.start l.all ∧ v = .slice ra bl.length rc ∧ G = [blk db (d.cells mb) 74, mp nmv Fl.val mb d.fs, arr 41 6 ra rc (bl.flatMap bmc), know (Bal bl)] := by
 refine .enter Tryz.func19 rfl (by kernel_rfl) rfl fun R k => ?_
 have hst := hl.start
 have hll := hl.len
 refine .goO fds 14 ?_
 refine .rd (.load na40 rfl (Knows.one (i := 6) (Knows.pick (.tail (.tail .head)) (k.mono fun _ h => h.1)) rfl)) ?_
 refine .rd (.lenL rfl rfl Tryz.underlying55 rfl) ?_
 refine .goR fds 2 ?_
 refine .nilArr 41 6 none ?_
 refine .knowT (Bal []) (Bal.nil) ?_
 have hsl : l.segs.length = l.ini.length + 1 := by unfold Lx.segs; simp
 refine .alter (t := 12) (v' := .int .i64 (l.segs.length : Nat)) rfl (by rw [hsl]) ?_
 refine .block ?_
 refine .loop (σ := Nat × List BatM × Option Addr × Nat) (fun ⟨i, bl, ra, rc⟩ => i ≤ l.segs.length ∧ bl.map (·.1) = keepN l.start ((l.segs.take i).flatMap (·.bs))) (fun ⟨i, bl, ra, rc⟩ => l.segs.length - i) (fun ⟨i, bl, ra, rc⟩ => [(0, .pointer (some ⟨l.lb, 0, none⟩)), (11, .slice l.la (l.ini.length + 1) l.lc), (12, .int .i64 (l.segs.length : Nat)), (3, .slice ra bl.length rc), (13, .int .i64 (i : Nat))]) (fun ⟨i, bl, ra, rc⟩ => [arr 41 6 ra rc (bl.flatMap bmc), know (Bal bl), blk db (d.cells mb) 74, mp nmv Fl.val mb d.fs, R]) (0, [], none, 0) ⟨Nat.zero_le _, rfl⟩ (.cons rfl (.cons rfl (.cons rfl (.cons rfl (.cons rfl .nil))))) (.cons (.tail .head) (.cons .head (.cons .head (.cons .head (.cons .head .nil))))) (fun s' hI ih => ?_)
 obtain ⟨i, bl, ra, rc⟩ := s'
 dsimp only at hI ih ⊢
 obtain ⟨hin, hpre⟩ := hI
 refine .go fds 5 ?_
 refine .condP rfl (fun c3 => ?_) (fun c3 => ?_)
 ·
  refine .go fds 4 ?_
  obtain ⟨s, hs⟩ : ∃ s, l.segs[i]? = some s := ⟨_, List.getElem?_eq_getElem (by omega)⟩
  have hsm := List.mem_of_getElem? hs
  obtain ⟨hsok, hsn, hsx, hsf⟩ := hl.seg s hsm
  have hb0 := hsok.base0
  have hb1 := hsok.base1
  refine .tell (φ := ∃ b o, l.la = some ⟨b, o, none⟩) (Knows.pick (.tail (.tail (.tail (.tail .head)))) (k.mono fun _ h => RowAt.addr h.2.1 (by rw [flat_length sp_len]; omega))) (fun hh => ?_)
  obtain ⟨b9, o9, h9⟩ := hh
  refine .region ?_
  refine .rd (.indexAddr (b := b9) (o := o9) Tryz.underlying55 ts39 (by show some (Value.slice (l.la) _ _) = _; rw [h9]) rfl (by omega) (by omega)) ?_
  refine .rd (.load na39 rfl (Knows.one (i := 0) (Knows.elem (f := sp) sp_len (by decide) (Knows.pick (.tail (.tail (.tail (.tail .head)))) (k.mono fun _ h => h9 ▸ h.2.1)) hs) rfl)) ?_
  refine .goO fds 6 ?_
  refine .fn rfl rfl .nil (Knows.pick (.tail (.tail (.tail (.tail .head)))) (k.mono fun _ h => h.2.2 s hsm)) (Base_ok db s) (fun v G1 hq => ?_)
  obtain ⟨rfl, rfl⟩ := hq
  simp only [List.nil_append]
  refine .fn rfl rfl (.cons (.tail (.tail .head)) (.cons (.tail (.tail .head)) .nil)) (Knows.pick (.tail (.tail .head)) (k.mono fun _ h => h.2.2 s hsm)) (SegRead_ok db mb d s s.base 16777216 hsok hsx hsf ⟨by omega, by omega⟩) (fun v G1 hq => ?_)
  obtain ⟨xl, xa, xc, hxl, rfl, rfl⟩ := hq
  simp only [List.cons_append, List.nil_append]
  refine .rd (.lenL rfl rfl Tryz.underlying47 rfl) ?_
  refine .goR fds 2 ?_
  rw [segRead_base hsok] at hxl
  have hxn : xl.length ≤ 4096 := by have := congrArg List.length hxl; rw [List.length_map] at this; have := hsok.len; omega
  refine .settle (.tail (.tail .head)) (Settles.arr) ?_
  refine .block ?_
  refine .loop (σ := Nat × List BatM × Option Addr × Nat) (fun ⟨j, bl2, ra2, rc2⟩ => j ≤ xl.length ∧ bl2.map (·.1) = keepN l.start ((l.segs.take i).flatMap (·.bs)) ++ keepN l.start ((xl.take j).map (·.1))) (fun ⟨j, bl2, ra2, rc2⟩ => xl.length - j) (fun ⟨j, bl2, ra2, rc2⟩ => [(0, .pointer (some ⟨l.lb, 0, none⟩)), (11, .slice l.la (l.ini.length + 1) l.lc), (12, .int .i64 (l.segs.length : Nat)), (13, .int .i64 (i : Nat)), (20, .slice xa xl.length xc), (21, .int .i64 (xl.length : Nat)), (3, .slice ra2 bl2.length rc2), (22, .int .i64 (j : Nat))]) (fun ⟨j, bl2, ra2, rc2⟩ => [arr 41 6 ra2 rc2 (bl2.flatMap bmc), know (Bal bl2), know (RowAt xa (xl.flatMap bmc)), know (Bal xl), blk db (d.cells mb) 74, mp nmv Fl.val mb d.fs, R]) (0, bl, ra, rc) ⟨Nat.zero_le _, by rw [hpre]; simp [keepN]⟩ (.cons rfl (.cons rfl (.cons rfl (.cons rfl (.cons rfl (.cons rfl (.cons rfl (.cons rfl .nil)))))))) (.cons (.tail (.tail (.tail (.tail .head)))) (.cons (.tail (.tail (.tail (.tail .head)))) (.cons .head (.cons (.tail (.tail .head)) (.cons .head (.cons .head (.cons .head .nil))))))) (fun s2 hI ih => ?_)
  have ih2 := ih
  clear ih
  obtain ⟨j, bl2, ra2, rc2⟩ := s2
  dsimp only at hI ih2 ⊢
  obtain ⟨hjn, hI3⟩ := hI
  refine .go fds 5 ?_
  refine .condP rfl (fun c6 => ?_) (fun c6 => ?_)
  ·
   refine .go fds 4 ?_
   obtain ⟨y, hy⟩ : ∃ y, xl[j]? = some y := ⟨_, List.getElem?_eq_getElem (by omega)⟩
   have hyb : y.1 ∈ s.bs := by rw [← hxl]; exact List.mem_map_of_mem (List.mem_of_getElem? hy)
   have hyg := hsok.good _ hyb
   have hy0 := hyg.base
   have hy1 := hyg.en
   have hy2 := hyg.recs64
   have hy3 := hyg.lt
   have hbl : bl2.length ≤ l.all.length := by
    have h1 := congrArg List.length hI3
    rw [List.length_map, List.length_append] at h1
    have h2 := keep_len l.start ((l.segs.take i).flatMap (·.bs))
    have h3 := keep_len l.start ((xl.take j).map (·.1))
    rw [List.length_map, List.length_take] at h3
    have h4 := all_len hs
    have h5 := congrArg List.length hxl
    rw [List.length_map] at h5
    omega
   refine .tell (φ := ∃ b o, xa = some ⟨b, o, none⟩) ((Knows.know (.tail (.tail .head))).mono fun _ h => RowAt.addr h (by rw [flat_length bmc_len]; omega)) (fun hh => ?_)
   obtain ⟨b8, o8, h8⟩ := hh
   refine .region ?_
   refine .rd (.indexAddr (b := b8) (o := o8) Tryz.underlying47 ts34 (by show some (Value.slice (xa) _ _) = _; rw [h8]) rfl (by omega) (by omega)) ?_
   refine .rd (.loadN ia34 ts34 rfl rfl (Knows.elem (f := bmc) bmc_len (by decide) ((Knows.know (.tail (.tail .head))).mono fun _ h => h8 ▸ h) hy)) ?_
   refine .ef (.alloc ti34 rfl (ones.of rfl)) ?_
   rintro _ _ ⟨b7, rfl, rfl⟩
   refine .ef0 (.storeAll ts34 rfl rfl (by rfl) .head rfl (ones.of rfl)) ?_
   rintro _ _ rfl
   refine .nil ?_
   refine .cast (X' := blk b7 (bmc y) 41) (rfl) ?_
   refine .seq ?_
   refine .draws [0, 5] [blk b7 (bmc y) 41, R] (by kernel_rfl) ?_
   refine .rd 0 rfl rfl (by kernel_rfl) (by kernel_rfl) (by kernel_rfl) (.ldN ia34 ts34 rfl .head rfl) (.cons .head (.cons (.tail (.tail (.tail (.tail (.tail (.tail .head)))))) .nil)) ?_
   refine .goD fds [2] ?_
   refine .goD fds [3] ?_
   refine .goD fds [4] ?_
   refine .rd 5 rfl rfl (by kernel_rfl) (by kernel_rfl) (by kernel_rfl) (.load na3 rfl (Knows.one (i := 4) (Knows.pick (.tail .head) (k.mono fun _ h => h.1)) rfl)) (.cons .head (.cons (.tail (.tail (.tail (.tail (.tail (.tail .head)))))) .nil)) ?_
   refine .ef 1 (by kernel_rfl) rfl (.fn rfl rfl .nil (fun _ _ _ => trivial) (pend_ok y.1 y.2.1 y.2.2 (by omega) (by omega) (by omega))) ?_
   rintro v _ ⟨G1, hq, rfl⟩
   obtain ⟨rfl, rfl⟩ := hq
   simp only [List.nil_append]
   refine ⟨.inr ⟨_, (.cons .head (.cons (.tail (.tail (.tail (.tail (.tail (.tail .head)))))) .nil))⟩, ?_⟩
   refine .goD fds [6] ?_
   refine .done (by kernel_rfl) ?_
   refine .condP rfl (fun c8 => ?_) (fun c8 => ?_)
   ·
    refine .goO fds 2 ?_
    refine .rd (.ldN ia34 ts34 rfl .head rfl) ?_
    refine .ef (.buildOne (cs := bmc y) Tryz.underlying47 ti34 (by decide) rfl rfl rfl (ones.of rfl)) ?_
    rintro _ _ ⟨bo, rfl, rfl⟩
    refine .ef (.append rfl rfl Tryz.underlying47 ti34 rfl (ones.of rfl) (by decide) (by decide) rfl rfl (.tail (.tail .head)) (n := bl2.length) (m := 1) (flat_length bmc_len _) (.srcBlk .head Tryz.underlying47 rfl (by decide)) (by omega)) ?_
    rintro _ _ ⟨qa, qc, rfl, qn, rfl⟩
    refine .goR fds 2 ?_
    refine .cast (X' := arr 41 6 qa qc ((bl2 ++ [y]).flatMap bmc)) (by rw [List.flatMap_append]; simp) ?_
    refine .dup (.tail (.tail (.tail (.tail (.tail .head))))) ?_
    refine .knowAnd (Bal (bl2 ++ [y])) (.cons (.tail (.tail (.tail (.tail (.tail .head))))) (.cons .head .nil)) (fun w h1 h2 => h1.snoc (h2 y (List.mem_of_getElem? hy))) ?_
    refine .goO fds 2 ?_
    refine .rd (.add rfl rfl (by omega) (by omega)) ?_
    refine .goR fds 2 ?_
    have hJ : j + 1 ≤ xl.length ∧ (bl2 ++ [y]).map (·.1) = keepN l.start ((l.segs.take i).flatMap (·.bs)) ++ keepN l.start ((xl.take (j + 1)).map (·.1)) := ⟨by omega, by rw [List.map_append, maps_take hy, keepN_app, keep_hit c8, hI3, List.append_assoc]; rfl⟩
    exact (ih2 (j + 1, bl2 ++ [y], qa, qc) hJ (by show xl.length - (j + 1) < xl.length - j; omega)).to (.cons rfl (.cons rfl (.cons rfl (.cons rfl (.cons rfl (.cons rfl (.cons (by first | rfl | (show _ = some (Value.slice _ (List.length _) _); rw [List.length_append]; rfl)) (.cons rfl .nil)))))))) (.cons (.tail (.tail .head)) (.cons .head (.cons (.tail (.tail (.tail .head))) (.cons .head (.cons (.tail (.tail .head)) (.cons (.tail (.tail .head)) (.cons (.tail (.tail .head)) .nil)))))))
   ·
    refine .goO fds 3 ?_
    refine .rd (.add rfl rfl (by omega) (by omega)) ?_
    refine .goR fds 2 ?_
    have hJ : j + 1 ≤ xl.length ∧ (bl2).map (·.1) = keepN l.start ((l.segs.take i).flatMap (·.bs)) ++ keepN l.start ((xl.take (j + 1)).map (·.1)) := ⟨by omega, by rw [maps_take hy, keepN_app, keep_miss c8, List.append_nil]; exact hI3⟩
    exact (ih2 (j + 1, bl2, ra2, rc2) hJ (by show xl.length - (j + 1) < xl.length - j; omega)).to (.cons rfl (.cons rfl (.cons rfl (.cons rfl (.cons rfl (.cons rfl (.cons (by first | rfl | (show _ = some (Value.slice _ (List.length _) _); rw [List.length_append]; rfl)) (.cons rfl .nil)))))))) (.cons (.tail .head) (.cons (.tail .head) (.cons (.tail .head) (.cons (.tail .head) (.cons (.tail .head) (.cons (.tail .head) (.cons (.tail .head) .nil)))))))
  ·
   refine .goO fds 3 ?_
   refine .rd (.add rfl rfl (by omega) (by omega)) ?_
   refine .goR fds 2 ?_
   have hI' : i + 1 ≤ l.segs.length ∧ bl2.map (·.1) = keepN l.start ((l.segs.take (i + 1)).flatMap (·.bs)) := ⟨by omega, by rw [hI3, segs_take hs, keepN_app, List.take_of_length_le (l := xl) (show xl.length ≤ j by omega), hxl]⟩
   exact (ih (i + 1, bl2, ra2, rc2) hI' (by show l.segs.length - (i + 1) < l.segs.length - i; omega)).to (.cons rfl (.cons rfl (.cons rfl (.cons rfl (.cons rfl .nil))))) (.cons .head (.cons .head (.cons (.tail (.tail .head)) (.cons (.tail (.tail .head)) (.cons (.tail (.tail .head)) .nil)))))
 ·
  refine .go fds 6 ?_
  have hfin : bl.map (·.1) = keepN l.start l.all := by rw [hpre, List.take_of_length_le (by omega)]; rfl
  refine .retP Tryz.func19 (.cons (.tmp rfl) .nil) (.cons (.tail (.tail .head)) (.cons (.tail (.tail .head)) (.cons .head (.cons .head (.cons .head .nil))))) ?_
  exact ⟨[_, _, _, _], ⟨bl, ra, rc, hfin, rfl, rfl⟩, rfl⟩
end Go.Proofs.YtoglbebcdjdkiaaGreatDoor
namespace Go.Proofs.YtoglbebcdjdkiaaGreatDoor
open Go Go.Sp
namespace st4
theorem bld80_0_1_2_3_4 (x0 : Option Addr) (x1 : ByteArray) (x2 : Option Addr) (x3 : Option Addr) (x4 : Option Addr) (w : World) : (Instr.build 80 (([0, 1, 2, 3, 4] : List Nat).zip [.pointer x0, .string x1, .pointer x2, .pointer x3, .pointer x4]).toArray).run Tryz.prog w = .ok (.agg #[.pointer x0, .string x1, .pointer x2, .pointer x3, .pointer x4]) w := by kernel_rfl
theorem na65 : NotAgg Tryz.prog 65 := ⟨_, Tryz.underlying65, trivial⟩
theorem na54 : NotAgg Tryz.prog 54 := ⟨_, Tryz.underlying54, trivial⟩
theorem na36 : NotAgg Tryz.prog 36 := ⟨_, Tryz.underlying36, trivial⟩
theorem ts41 : TS Tryz.prog 41 6 := .of (by kernel_rfl)
theorem ia41 : IsAgg Tryz.prog 41 := ⟨_, Tryz.underlying41, trivial⟩
theorem ti41 : TI Tryz.prog 41 6 64 (.agg #[.int .i64 0, .int .i64 0, .int .i64 0, .int .i64 0, .int .i64 0, .slice none 0 0]) := .of (by kernel_rfl)
theorem na3 : NotAgg Tryz.prog 3 := ⟨_, Tryz.underlying3, trivial⟩
theorem ts36 : TS Tryz.prog 36 1 := .of (by kernel_rfl)
end st4
open st4
set_option maxHeartbeats 4000000 in
set_option maxRecDepth 20000 in
theorem OpenS_ok (db mb : Nat) (d : Dk) (pre : Nm) (most : Int) (es : List Ep) (D : Tm) (φ : Lx → Dk → Prop) (hO : Cn Tryz.prog 32 [.pointer (some ⟨db, 0, none⟩), nmv pre, .int .i64 most] LV [blk db (d.cells mb) 74, mp nmv Fl.val mb d.fs] fun v G => ∃ l d', v = .tuple #[.pointer (some ⟨l.lb, 0, none⟩), .int .i64 0] ∧ φ l d' ∧ G = [LG db l, blk db (d'.cells mb) 74, mp nmv Fl.val mb d'.fs]) (hA : ∀ l e, φ l e → OpenF pre es D l e) : Cn Tryz.prog 9 [.pointer (some ⟨db, 0, none⟩), nmv pre, .int .i64 most] LV [blk db (d.cells mb) 74, mp nmv Fl.val mb d.fs] fun v G => ∃ s e d', v = .tuple #[.pointer (some ⟨s.sx, 0, none⟩), .int .i64 0] ∧ φ s.l e ∧ OpenS pre es D s e d' ∧ G = [SS db s, blk db (d'.cells mb) 74, mp nmv Fl.val mb d'.fs] := by
 refine .enter Tryz.func9 rfl (by kernel_rfl) rfl fun R k => ?_
 refine .goO fds 10 ?_
 refine .fn rfl rfl (.cons .head (.cons .head .nil)) (Knows.pick .head k) (hO) (fun v G1 hq => ?_)
 obtain ⟨l, e, rfl, hφ, rfl⟩ := hq
 simp only [List.cons_append, List.nil_append]
 have hF := hA l e hφ
 have hp := hF.ok.pre
 refine .goR fds 6 ?_
 have hpl := hp.len
 rw [hF.prem] at hpl
 refine .goO fds 12 ?_
 refine .rd (.catT (l := pre) (m := [46, 101, 112, 111, 99, 104, 115]) rfl rfl (by simp only [List.length_cons, List.length_nil]; omega)) ?_
 refine .alter (t := 29) (v' := nmv (nmE pre)) rfl (rfl) ?_
 refine .fn rfl rfl (.cons (.tail .head) (.cons (.tail .head) .nil)) (fun _ _ _ => trivial) (OpenE_ok db mb e (nmE pre) es hF.esok hF.holdsE.old) (fun v G1 hq => ?_)
 obtain ⟨cb, la, lc, rfl, rfl⟩ := hq
 simp only [List.cons_append, List.nil_append]
 refine .goO fds 20 ?_
 refine .fn rfl rfl .nil (fun _ _ _ => trivial) (NewT_ok) (fun v G1 hq => ?_)
 obtain ⟨tb, mb', rfl, rfl⟩ := hq
 simp only [List.cons_append, List.nil_append]
 refine .rd (.build rfl (bld80_0_1_2_3_4 _ _ _ _ _)) ?_
 refine .ef (.box (l := [.pointer (some ⟨db, 0, none⟩), nmv pre, .pointer (some ⟨l.lb, 0, none⟩), .pointer (some ⟨cb, 0, none⟩), .pointer (some ⟨tb, 0, none⟩)]) rfl rfl (ones.of rfl)) ?_
 rintro _ _ ⟨sb, rfl, rfl⟩
 refine .goO fds 7 ?_
 refine .fn rfl rfl .nil ((Knows.blk .head).mono fun _ h => by show CellsAt _ _ (St.cells _ _) _; unfold St.cells; rw [show (⟨sb, l, (⟨cb, nmE pre, es, la, lc⟩ : Cx), ⟨tb, mb', []⟩⟩ : St).l.pre = pre from hF.prem]; exact h) (pids_ok db (⟨sb, l, (⟨cb, nmE pre, es, la, lc⟩ : Cx), ⟨tb, mb', []⟩⟩ : St) hp) (fun v G1 hq => ?_)
 obtain ⟨rfl, rfl⟩ := hq
 simp only [List.nil_append]
 refine .alter (t := 46) (v' := nmv (nmP pre)) rfl (by rw [show (⟨sb, l, (⟨cb, nmE pre, es, la, lc⟩ : Cx), ⟨tb, mb', []⟩⟩ : St).l.pre = pre from hF.prem]) ?_
 refine .fn rfl rfl (.cons (.tail (.tail (.tail .head))) (.cons (.tail (.tail (.tail .head))) .nil)) (fun _ _ _ => trivial) (Read_ok db mb e (nmP pre)) (fun v G1 hq => ?_)
 obtain ⟨rfl, rfl⟩ := hq
 simp only [List.cons_append, List.nil_append]
 refine .goR fds 11 ?_
 refine .joinEx (σ := Tb) (φ := fun t => pur t.m = D) (E' := fun t => [(8, .pointer (some ⟨l.lb, 0, none⟩)), (10, .pointer (some ⟨cb, 0, none⟩)), (11, .pointer (some ⟨sb, 0, none⟩))]) (Γ' := fun t => [blk sb [.pointer (some ⟨db, 0, none⟩), nmv pre, .pointer (some ⟨l.lb, 0, none⟩), .pointer (some ⟨cb, 0, none⟩), .pointer (some ⟨t.tb, 0, none⟩)] 80, LG db l, CG db (⟨cb, nmE pre, es, la, lc⟩ : Cx), TG t, blk db (e.cells mb) 74, mp nmv Fl.val mb e.fs, R]) (fun sj hj => ?_) (fun fin => ?_)
 ·
  obtain ⟨t, rfl⟩ : ∃ t, t = sj := ⟨_, rfl⟩
  have hD := hj
  refine .seq ?_
  have hnx0 := hF.ok.cur.1.next_ge
  have hnx1 := hF.ok.cur.1.next_le
  have hb0 := hF.ok.cur.1.base0
  have hTD : TabOk (pur t.m) := by rw [hD]; exact hF.holdsP.tab
  refine .draws [3, 7] [blk sb [.pointer (some ⟨db, 0, none⟩), nmv pre, .pointer (some ⟨l.lb, 0, none⟩), .pointer (some ⟨cb, 0, none⟩), .pointer (some ⟨t.tb, 0, none⟩)] 80, LG db l] (by kernel_rfl) ?_
  refine .goD fds [0] ?_
  refine .goD fds [1] ?_
  refine .goD fds [2] ?_
  refine .rd 3 rfl rfl (by kernel_rfl) (by kernel_rfl) (by kernel_rfl) (.ld na65 rfl .head rfl) (.cons .head (.cons .head .nil)) ?_
  refine .goD fds [4] ?_
  refine .goD fds [5] ?_
  refine .goD fds [6] ?_
  refine .rd 7 rfl rfl (by kernel_rfl) (by kernel_rfl) (by kernel_rfl) (.load na54 rfl (Knows.one (i := 0) ((LG.at (.tail .head)).mono fun _ h => h.1) rfl)) (.cons .head (.cons .head .nil)) ?_
  refine .ef 8 (by kernel_rfl) rfl (.fn rfl rfl .nil ((LG.at (.tail .head)).mono fun _ h => h.2.2 _ (Lx.cur_in (l))) (Next_ok db (l).cur hF.ok.cur.1)) ?_
  rintro v _ ⟨G1, hq, rfl⟩
  obtain ⟨rfl, rfl⟩ := hq
  simp only [List.nil_append]
  refine ⟨.inr ⟨_, (.cons .head (.cons .head .nil))⟩, ?_⟩
  refine .alter (t := 71) (v' := .int .i64 (l).next) rfl (rfl) ?_
  refine .ef 9 (by kernel_rfl) rfl (.fn rfl rfl (.cons (.tail (.tail .head)) (.cons (.tail (.tail (.tail .head))) (.cons (.tail (.tail (.tail .head))) .nil))) (fun _ _ _ => trivial) (CutE_ok db mb e (⟨cb, nmE pre, es, la, lc⟩ : Cx) l.next ⟨by show 0 ≤ l.cur.next; omega, by show l.cur.next ≤ _; omega⟩ hF.esok hF.dok (nmE_named (hF.prem ▸ hp)) (.inr (by have := hF.len; omega)) hF.room)) ?_
  rintro v _ ⟨G1, hq, rfl⟩
  obtain ⟨rfl, la2, lc2, rfl⟩ := hq
  simp only [List.cons_append, List.nil_append]
  refine ⟨.inl (by kernel_rfl), ?_⟩
  refine .done (by kernel_rfl) ?_
  refine .seq ?_
  refine .draws [3] [blk sb [.pointer (some ⟨db, 0, none⟩), nmv pre, .pointer (some ⟨l.lb, 0, none⟩), .pointer (some ⟨cb, 0, none⟩), .pointer (some ⟨t.tb, 0, none⟩)] 80] (by kernel_rfl) ?_
  refine .goD fds [0] ?_
  refine .goD fds [1] ?_
  refine .goD fds [2] ?_
  refine .rd 3 rfl rfl (by kernel_rfl) (by kernel_rfl) (by kernel_rfl) (.ld na36 rfl .head rfl) (.cons (.tail (.tail (.tail .head))) .nil) ?_
  refine .goD fds [4] ?_
  refine .ef 5 (by kernel_rfl) rfl (.fn rfl rfl .nil ((LG.at (.tail (.tail (.tail (.tail .head))))).mono fun _ h => h.1) (Start_ok l.lb db (some ⟨l.cur.b, 0, none⟩) l.pre l.most l.start l.high l.la (l.ini.length + 1) l.lc)) ?_
  rintro v _ ⟨G1, hq, rfl⟩
  obtain ⟨rfl, rfl⟩ := hq
  simp only [List.nil_append]
  refine ⟨.inr ⟨_, (.cons (.tail (.tail (.tail .head))) .nil)⟩, ?_⟩
  refine .ef 6 (by kernel_rfl) rfl (.fn rfl rfl (.cons (.tail (.tail (.tail (.tail (.tail .head))))) .nil) (fun _ _ _ => trivial) (CutT_ok t l.start hTD)) ?_
  rintro v _ ⟨G1, hq, rfl⟩
  obtain ⟨t2, h2b, h2, rfl⟩ := hq
  simp only [List.cons_append, List.nil_append]
  refine ⟨.inl (by kernel_rfl), ?_⟩
  refine .done (by kernel_rfl) ?_
  refine .perm (.cons (.tail (.tail (.tail (.tail .head)))) (.cons .head (.cons .head (.cons .head (.cons .head (.cons .head (.cons .head .nil))))))) ?_
  refine .cast (X' := blk sb [.pointer (some ⟨db, 0, none⟩), nmv pre, .pointer (some ⟨l.lb, 0, none⟩), .pointer (some ⟨cb, 0, none⟩), .pointer (some ⟨t2.tb, 0, none⟩)] 80) (by rw [h2b]) ?_
  rw [hD] at h2
  obtain ⟨hB, _, _⟩ := kept_facts (c := (⟨cb, nmE pre, es, la, lc⟩ : Cx)) (es := cutE l.next es) hF.dok hF.ok (by rw [hF.prem]) (hF.esok.cut _) hF.room hF.holdsE
  refine .goO fds 4 ?_
  refine .fn rfl rfl (.cons (.tail (.tail (.tail .head))) (.cons (.tail (.tail (.tail .head))) .nil)) (LG.at (.tail (.tail (.tail .head)))) (All_ok db mb (keptE e (⟨cb, nmE pre, es, la, lc⟩ : Cx) (cutE l.next es)) l hB.ok hF.cap) (fun v G1 hq => ?_)
  obtain ⟨bl, ra, rc, hbl, rfl, rfl⟩ := hq
  simp only [List.cons_append, List.nil_append]
  refine .rd (.lenL rfl rfl Tryz.underlying47 rfl) ?_
  refine .goR fds 2 ?_
  have hvl : bl.map (·.1) = l.vis := hbl
  have hbc : bl.length ≤ 100000000 := by have h1 := congrArg List.length hvl; rw [List.length_map] at h1; have h2 := keep_len l.start l.all; have h3 := hF.cap; rw [h1]; unfold Lx.vis; omega
  refine .block ?_
  refine .loop (σ := Nat × Tb) (fun ⟨i, t3⟩ => i ≤ bl.length ∧ pur t3.m = (l.vis.take i).foldl note (cutT l.start D) ∧ t3.tb = t2.tb) (fun ⟨i, t3⟩ => bl.length - i) (fun ⟨i, t3⟩ => [(10, .pointer (some ⟨cb, 0, none⟩)), (11, .pointer (some ⟨sb, 0, none⟩)), (81, .slice ra bl.length rc), (82, .int .i64 (bl.length : Nat)), (83, .int .i64 (i : Nat))]) (fun ⟨i, t3⟩ => [blk sb [.pointer (some ⟨db, 0, none⟩), nmv pre, .pointer (some ⟨l.lb, 0, none⟩), .pointer (some ⟨cb, 0, none⟩), .pointer (some ⟨t2.tb, 0, none⟩)] 80, LG db l, CG db (⟨cb, nmE pre, cutE l.next es, la2, lc2⟩ : Cx), TG t3, blk db ((keptE e (⟨cb, nmE pre, es, la, lc⟩ : Cx) (cutE l.next es)).cells mb) 74, mp nmv Fl.val mb (keptE e (⟨cb, nmE pre, es, la, lc⟩ : Cx) (cutE l.next es)).fs, arr 41 6 ra rc (bl.flatMap bmc), know (Bal bl), R]) (0, t2) ⟨Nat.zero_le _, h2, rfl⟩ (.cons rfl (.cons rfl (.cons rfl (.cons rfl (.cons rfl .nil))))) (.cons (.tail (.tail (.tail (.tail .head)))) (.cons (.tail (.tail (.tail (.tail (.tail (.tail .head)))))) (.cons (.tail (.tail (.tail (.tail (.tail .head))))) (.cons (.tail (.tail (.tail (.tail .head)))) (.cons .head (.cons .head (.cons .head (.cons .head (.cons .head .nil))))))))) (fun s' hI ih => ?_)
  obtain ⟨i, t3⟩ := s'
  dsimp only at hI ih ⊢
  obtain ⟨hil, h3, h3b⟩ := hI
  refine .go fds 5 ?_
  refine .condP rfl (fun h16 => ?_) (fun h16 => ?_)
  ·
   refine .go fds 4 ?_
   refine .tell (φ := ∃ b o, ra = some ⟨b, o, none⟩) ((Knows.arr (.tail (.tail (.tail (.tail (.tail (.tail .head))))))).mono fun _ h => RowAt.addr h (by rw [flat_length bmc_len]; omega)) (fun hh => ?_)
   obtain ⟨b9, o9, h9⟩ := hh
   obtain ⟨y, hy⟩ : ∃ y, bl[i]? = some y := ⟨_, List.getElem?_eq_getElem (by omega)⟩
   have hyv : l.vis[i]? = some y.1 := by rw [← hvl, List.getElem?_map, hy]; rfl
   obtain ⟨n1, n2, n3, n4, n5⟩ := hF.notes i y.1 hyv
   have hye := hF.ep y.1 (List.mem_of_getElem? hyv)
   rw [← h3] at n1 n5
   refine .region ?_
   refine .rd (.indexAddr (b := b9) (o := o9) Tryz.underlying47 ts41 (by show some (Value.slice (ra) _ _) = _; rw [h9]) rfl (by omega) (by omega)) ?_
   refine .rd (.loadN ia41 ts41 rfl rfl (Knows.elem (f := bmc) bmc_len (by decide) ((Knows.arr (.tail (.tail (.tail (.tail (.tail (.tail .head))))))).mono fun _ h => h9 ▸ h) (hy))) ?_
   refine .ef (.alloc ti41 rfl (ones.of rfl)) ?_
   rintro _ _ ⟨b15, rfl, rfl⟩
   refine .ef0 (.storeAll (vs := y.1.cells y.2.1 y.2.2) ts41 rfl rfl rfl .head rfl (ones.of rfl)) ?_
   rintro _ _ rfl
   refine .goR fds 3 ?_
   refine .draws [1] [blk b15 (y.1.cells y.2.1 y.2.2) 41] (by kernel_rfl) ?_
   refine .goD fds [0] ?_
   refine .rd 1 rfl rfl (by kernel_rfl) (by kernel_rfl) (by kernel_rfl) (.ld na3 rfl .head rfl) (.cons .head .nil) ?_
   refine .goD fds [2] ?_
   refine .ef 3 (by kernel_rfl) rfl (.fn rfl rfl .nil (CG.at (.tail (.tail (.tail .head)))) (Last_ok db (⟨cb, nmE pre, cutE l.next es, la2, lc2⟩ : Cx) (by have := (hF.esok.cut l.next).len; show (cutE l.next es).length ≤ _; omega))) ?_
   rintro v _ ⟨G1, hq, rfl⟩
   obtain ⟨rfl, rfl⟩ := hq
   simp only [List.nil_append]
   refine ⟨.inr ⟨_, (.cons .head .nil)⟩, ?_⟩
   refine .goD fds [4] ?_
   refine .alter (t := 91) (v' := .bool false) rfl (congrArg Value.bool (decide_eq_false (by show ¬ lastE (cutE l.next es) < _; omega))) ?_
   refine .done (by kernel_rfl) ?_
   refine .go fds 2 ?_
   refine .draws [3, 4] [blk sb [.pointer (some ⟨db, 0, none⟩), nmv pre, .pointer (some ⟨l.lb, 0, none⟩), .pointer (some ⟨cb, 0, none⟩), .pointer (some ⟨t2.tb, 0, none⟩)] 80, blk b15 (y.1.cells y.2.1 y.2.2) 41] (by kernel_rfl) ?_
   refine .goD fds [0] ?_
   refine .goD fds [1] ?_
   refine .goD fds [2] ?_
   refine .rd 3 rfl rfl (by kernel_rfl) (by kernel_rfl) (by kernel_rfl) (.ld na36 rfl .head rfl) (.cons (.tail .head) (.cons .head .nil)) ?_
   refine .alter (t := 101) (v' := .pointer (some ⟨t3.tb, 0, none⟩)) rfl (by rw [h3b]) ?_
   refine .rd 4 rfl rfl (by kernel_rfl) (by kernel_rfl) (by kernel_rfl) (.ldN ia41 ts41 rfl (.tail .head) rfl) (.cons (.tail .head) (.cons .head .nil)) ?_
   refine .ef 5 (by kernel_rfl) rfl (.fn rfl rfl (.cons (.tail (.tail (.tail (.tail .head)))) .nil) ((Knows.know (.tail (.tail (.tail (.tail (.tail (.tail (.tail .head)))))))).mono fun _ h => h y (List.mem_of_getElem? hy)) (Note_ok t3 y.1 y.2.1 y.2.2 n1 n2 n3 n4 n5)) ?_
   rintro v _ ⟨G1, hq, rfl⟩
   obtain ⟨t4, h4b, h4, rfl⟩ := hq
   simp only [List.cons_append, List.nil_append]
   refine ⟨.inl (by kernel_rfl), ?_⟩
   refine .done (by kernel_rfl) ?_
   have h4' : pur t4.m = (l.vis.take (i + 1)).foldl note (cutT l.start D) := by rw [h4, h3, List.take_add_one, hyv, List.foldl_append]; rfl
   refine .goO fds 2 ?_
   refine .rd (.add rfl rfl (by omega) (by omega)) ?_
   refine .goR fds 2 ?_
   exact (ih (i + 1, t4) ⟨by show i + 1 ≤ bl.length; omega, h4', by show t4.tb = t2.tb; rw [h4b, h3b]⟩ (by show bl.length - (i + 1) < bl.length - i; omega)).to (.cons rfl (.cons rfl (.cons rfl (.cons rfl (.cons rfl .nil))))) (.cons (.tail (.tail .head)) (.cons (.tail (.tail .head)) (.cons (.tail (.tail .head)) (.cons .head (.cons (.tail .head) (.cons (.tail .head) (.cons (.tail .head) (.cons (.tail .head) (.cons (.tail .head) .nil)))))))))
  ·
   refine .go fds 7 ?_
   obtain rfl : i = bl.length := by omega
   have hend : pur t3.m = l.vis.foldl note (cutT l.start D) := by rw [h3, show bl.length = l.vis.length by rw [← hvl, List.length_map], List.take_length]
   refine .cast (X' := blk ((⟨sb, l, (⟨cb, nmE pre, cutE l.next es, la2, lc2⟩ : Cx), t3⟩ : St)).sx (St.cells ((⟨sb, l, (⟨cb, nmE pre, cutE l.next es, la2, lc2⟩ : Cx), t3⟩ : St)) db) 80) (by unfold St.cells; rw [show (St.mk sb l (⟨cb, nmE pre, cutE l.next es, la2, lc2⟩ : Cx) t3).l.pre = pre from hF.prem, show (St.mk sb l (⟨cb, nmE pre, cutE l.next es, la2, lc2⟩ : Cx) t3).t.tb = t2.tb from h3b]) ?_
   refine .pack (L := [blk ((⟨sb, l, (⟨cb, nmE pre, cutE l.next es, la2, lc2⟩ : Cx), t3⟩ : St)).sx (St.cells ((⟨sb, l, (⟨cb, nmE pre, cutE l.next es, la2, lc2⟩ : Cx), t3⟩ : St)) db) 80, LG db ((⟨sb, l, (⟨cb, nmE pre, cutE l.next es, la2, lc2⟩ : Cx), t3⟩ : St)).l, CG db ((⟨sb, l, (⟨cb, nmE pre, cutE l.next es, la2, lc2⟩ : Cx), t3⟩ : St)).c, TG ((⟨sb, l, (⟨cb, nmE pre, cutE l.next es, la2, lc2⟩ : Cx), t3⟩ : St)).t]) (.cons .head (.cons .head (.cons .head (.cons .head .nil)))) ?_
   refine .retP Tryz.func9 (.cons (.tmp rfl) (.cons (.tmp rfl) .nil)) (.cons .head (.cons .head (.cons .head (.cons (.tail (.tail .head)) .nil)))) ?_
   exact ⟨[_, _, _], ⟨(⟨sb, l, (⟨cb, nmE pre, cutE l.next es, la2, lc2⟩ : Cx), t3⟩ : St), e, _, rfl, hφ, ⟨rfl, rfl, rfl, hend⟩, rfl⟩, rfl⟩
 ·
  refine .condP rfl (fun c9 => ?_) (fun c9 => ?_)
  ·
   obtain ⟨hg, hb, hRo, hDl, hDs⟩ : (e.get (nmP pre)).isSome = true ∧ (e.file (nmP pre)).b = keepR D ∧ RowsOk D ∧ D.length ≤ 1000000 ∧ sizeT D ≤ 400000000 := by
    rcases hF.holdsP with h | h
    ·
     rw [h.1] at c9; exact absurd c9 (by decide)
    ·
     exact h
   refine .alter (t := 12) (v' := .string (str (keepR D))) rfl (by rw [hb]; rfl) ?_
   refine .goO fds 4 ?_
   refine .fn rfl rfl .nil (fun _ _ _ => trivial) (Load_ok D hRo hDl hDs) (fun v G1 hq => ?_)
   obtain ⟨t1, rfl, ht1, rfl⟩ := hq
   simp only [List.cons_append, List.nil_append]
   refine .go fds 5 ?_
   refine .ef0 (.store ts36 rfl rfl (.tail (.tail (.tail .head))) rfl (Nat.le_of_ble_eq_true rfl)) ?_
   rintro _ _ rfl
   refine .cast (X' := blk sb [.pointer (some ⟨db, 0, none⟩), nmv pre, .pointer (some ⟨l.lb, 0, none⟩), .pointer (some ⟨cb, 0, none⟩), .pointer (some ⟨t1.tb, 0, none⟩)] 80) (rfl) ?_
   refine .goR fds 9 ?_
   exact fin t1 ht1 (.cons rfl (.cons rfl (.cons rfl .nil))) (.cons .head (.cons (.tail (.tail (.tail (.tail (.tail .head))))) (.cons (.tail (.tail (.tail (.tail .head)))) (.cons .head (.cons .head (.cons .head (.cons (.tail .head) .nil)))))))
  ·
   obtain rfl : D = [] := by
    rcases hF.holdsP with h | h
    ·
     exact h.2
    ·
     rw [if_pos h.1] at c9; exact absurd rfl c9
   refine .skip ?_
   refine .perm (.cons (.tail (.tail .head)) (.cons .head (.cons .head (.cons .head (.cons .head (.cons .head (.cons .head .nil))))))) ?_
   refine .cast (X' := blk sb [.pointer (some ⟨db, 0, none⟩), nmv pre, .pointer (some ⟨l.lb, 0, none⟩), .pointer (some ⟨cb, 0, none⟩), .pointer (some ⟨(⟨tb, mb', []⟩ : Tb).tb, 0, none⟩)] 80) (rfl) ?_
   exact fin ⟨tb, mb', []⟩ rfl (.cons rfl (.cons rfl (.cons rfl .nil))) (.cons .head (.cons (.tail (.tail (.tail (.tail .head)))) (.cons (.tail (.tail (.tail .head))) (.cons (.tail (.tail .head)) (.cons .head (.cons .head (.cons .head .nil)))))))
end Go.Proofs.YtoglbebcdjdkiaaGreatDoor
namespace Go.Proofs.YtoglbebcdjdkiaaGreatDoor
open Go Go.Sp
namespace sm13
theorem ti41 : TI Tryz.prog 41 6 64 (.agg #[.int .i64 0, .int .i64 0, .int .i64 0, .int .i64 0, .int .i64 0, .slice none 0 0]) := .of (by kernel_rfl)
theorem bld41_1_2_4 (x0 : Int) (x1 : Int) (x2 : Int) (w : World) : (Instr.build 41 (([1, 2, 4] : List Nat).zip [.int .i64 x0, .int .i64 x1, .int .i64 x2]).toArray).run Tryz.prog w = .ok (.agg #[.int .i64 0, .int .i64 x0, .int .i64 x1, .int .i64 0, .int .i64 x2, .slice none 0 0]) w := by kernel_rfl
theorem ts41 : TS Tryz.prog 41 6 := .of (by kernel_rfl)
theorem fd41_5 : FD Tryz.prog 41 5 5 := .of Tryz.underlying41 (by kernel_rfl)
theorem na39 : NotAgg Tryz.prog 39 := ⟨_, Tryz.underlying39, trivial⟩
theorem bld99_1 (x0 : ByteArray) (w : World) : (Instr.build 99 (([1] : List Nat).zip [.string x0]).toArray).run Tryz.prog w = .ok (.agg #[.string ⟨#[]⟩, .string x0, .int .i64 0]) w := by kernel_rfl
theorem ti99 : TI Tryz.prog 99 3 40 (.agg #[.string ⟨#[]⟩, .string ⟨#[]⟩, .int .i64 0]) := .of (by kernel_rfl)
theorem ts39 : TS Tryz.prog 39 1 := .of (by kernel_rfl)
theorem ia41 : IsAgg Tryz.prog 41 := ⟨_, Tryz.underlying41, trivial⟩
theorem ts70 : TS Tryz.prog 70 3 := .of (by kernel_rfl)
theorem ia70 : IsAgg Tryz.prog 70 := ⟨_, Tryz.underlying70, trivial⟩
end sm13
open sm13
set_option maxHeartbeats 2000000 in
set_option maxRecDepth 20000 in
theorem small_ok (ep pid seq : Int) (n : Nat) (hn : n ≤ 1000) : Cn Tryz.prog 13 [.int .i64 ep, .int .i64 pid, .int .i64 seq, .int .i64 (n : Nat)] (fun _ => True) [] fun v G => ∃ ra rc, v = .agg ((smB ep pid 0 seq n 0).cells ra rc).toArray ∧ G = [arr 99 3 ra rc ((smB ep pid 0 seq n 0).recs.flatMap Rec.cells)] := by
 refine .enter Tryz.func13 rfl (by kernel_rfl) rfl fun R k => ?_
 refine .goO fds 2 ?_
 refine .ef (.alloc ti41 rfl (ones.of rfl)) ?_
 rintro _ _ ⟨b8, rfl, rfl⟩
 refine .goO fds 6 ?_
 refine .rd (.build rfl (bld41_1_2_4 _ _ _)) ?_
 refine .ef (.alloc ti41 rfl (ones.of rfl)) ?_
 rintro _ _ ⟨b9, rfl, rfl⟩
 refine .ef0 (.storeAll ts41 rfl rfl rfl .head rfl (ones.of rfl)) ?_
 rintro _ _ rfl
 refine .goR fds 3 ?_
 refine .cast (X' := blk b9 [.int .i64 0, .int .i64 ep, .int .i64 pid, .int .i64 0, .int .i64 seq, .slice none 0 0] 41) (rfl) ?_
 refine .nilArr 99 3 none ?_
 refine .go fds 4 ?_
 refine .loop (σ := Nat × Option Addr × Nat) (fun ⟨i, ra, rc⟩ => i ≤ n) (fun ⟨i, ra, rc⟩ => n - i) (fun ⟨i, ra, rc⟩ => [(3, .int .i64 (n : Nat)), (8, .pointer (some ⟨b8, 0, none⟩)), (9, .pointer (some ⟨b9, 0, none⟩)), (10, .int .i64 (i : Nat))]) (fun ⟨i, ra, rc⟩ => [blk b9 [.int .i64 0, .int .i64 ep, .int .i64 pid, .int .i64 0, .int .i64 seq, .slice ra i rc] 41, arr 99 3 ra rc ((List.replicate i vrec).flatMap Rec.cells), blk b8 [.int .i64 0, .int .i64 0, .int .i64 0, .int .i64 0, .int .i64 0, .slice none 0 0] 41, R]) (0, none, 0) (Nat.zero_le _) (.cons rfl (.cons rfl (.cons rfl (.cons rfl .nil)))) (.cons (.tail .head) (.cons .head (.cons .head (.cons .head .nil)))) (fun s' hI ih => ?_)
 obtain ⟨i, ra, rc⟩ := s'
 dsimp only at hI ih ⊢
 refine .go fds 7 ?_
 refine .condP rfl (fun h3 => ?_) (fun h3 => ?_)
 ·
  refine .goO fds 5 ?_
  refine .rd (.ld na39 rfl .head rfl) ?_
  refine .rd (.build rfl (bld99_1 _)) ?_
  refine .ef (.buildOne (cs := vrec.cells) Tryz.underlying39 ti99 (by decide) rfl rfl rfl (ones.of rfl)) ?_
  rintro _ _ ⟨bo, rfl, rfl⟩
  refine .ef (.append rfl rfl Tryz.underlying39 ti99 rfl (ones.of rfl) (by decide) (by decide) rfl rfl (.tail (.tail .head)) (n := i) (m := 1) (rep_len i) (.srcBlk .head Tryz.underlying39 rfl (by decide)) (by omega)) ?_
  rintro _ _ ⟨qa, qc, rfl, qn, rfl⟩
  refine .rd (.fieldAddr fd41_5 rfl) ?_
  refine .ef0 (.store ts39 rfl rfl (.tail (.tail .head)) rfl (Nat.le_of_ble_eq_true rfl)) ?_
  rintro _ _ rfl
  refine .nil ?_
  refine .perm (.cons (.tail .head) (.cons .head (.cons .head (.cons .head (.cons .head .nil))))) ?_
  refine .cast (X' := arr 99 3 qa qc ((List.replicate (i + 1) vrec).flatMap Rec.cells)) (by rw [rep_snoc]) ?_
  refine .perm (.cons (.tail .head) (.cons .head (.cons .head (.cons .head (.cons .head .nil))))) ?_
  refine .cast (X' := blk b9 [.int .i64 0, .int .i64 ep, .int .i64 pid, .int .i64 0, .int .i64 seq, .slice qa (i + 1) qc] 41) (rfl) ?_
  refine .goO fds 3 ?_
  refine .rd (.add rfl rfl (by omega) (by omega)) ?_
  refine .goR fds 2 ?_
  exact (ih (i + 1, qa, qc) (by show i + 1 ≤ _; omega) (by show n - (i + 1) < n - i; omega)).to (.cons rfl (.cons rfl (.cons rfl (.cons rfl .nil)))) (.cons .head (.cons .head (.cons (.tail .head) (.cons (.tail .head) .nil))))
 ·
  refine .goO fds 3 ?_
  refine .rd (.ldN ia41 ts41 rfl .head rfl) ?_
  refine .ef0 (.storeAll ts41 rfl rfl (by rfl) (.tail (.tail .head)) rfl (ones.of rfl)) ?_
  rintro _ _ rfl
  refine .nil ?_
  obtain rfl : i = n := by omega
  refine .cast (X' := blk b8 ((smB ep pid 0 seq i 0).cells ra rc) 41) (by show _ = blk b8 [_, _, _, _, _, .slice ra (List.replicate i vrec).length rc] 41; rw [List.length_replicate]; rfl) ?_
  refine .retP Tryz.func13 (.cons (.blkN ia41 ts41 rfl .head rfl) .nil) (.cons (.tail (.tail .head)) (.cons (.tail (.tail .head)) .nil)) ?_
  exact ⟨[_], ⟨ra, rc, rfl, rfl⟩, rfl⟩
set_option maxHeartbeats 2000000 in
set_option maxRecDepth 20000 in
theorem sameEntries_ok (a a' : Option Addr) (c c' : Nat) (es fs : List Ep) (hl : es.length ≤ 1000000000) (hm : fs.length ≤ 1000000000) : Cn Tryz.prog 28 [.slice a es.length c, .slice a' fs.length c'] (fun w => RowAt a (es.flatMap epc) w ∧ RowAt a' (fs.flatMap epc) w) [] fun v G => v = .bool (decide (es = fs)) ∧ G = [] := by
 refine .enter Tryz.func28 rfl (by kernel_rfl) rfl fun R k => ?_
 refine .goO fds 8 ?_
 refine .rd (.lenL rfl rfl Tryz.underlying64 rfl) ?_
 refine .rd (.move rfl) ?_
 refine .rd (.lenL rfl rfl Tryz.underlying64 rfl) ?_
 refine .goR fds 2 ?_
 refine .condN rfl (fun h1 => ?_) (fun h1 => ?_)
 ·
  refine .go fds 4 ?_
  refine .retP Tryz.func28 (.cons (.tmp rfl) .nil) (.cons .head .nil) ?_
  exact ⟨[], ⟨congrArg Value.bool (decide_eq_false fun e => h1 (by rw [e])).symm, rfl⟩, rfl⟩
 ·
  have hlen : es.length = fs.length := by omega
  refine .go fds 7 ?_
  refine .loop (σ := Nat) (fun i => i ≤ es.length ∧ es.take i = fs.take i) (fun i => es.length - i) (fun i => [(0, .slice a es.length c), (1, .slice a' fs.length c'), (5, .int .i64 (i : Nat))]) (fun i => [R]) 0 ⟨Nat.zero_le _, rfl⟩ (.cons rfl (.cons rfl (.cons rfl .nil))) (.cons .head .nil) (fun i hI ih => ?_)
  have hil := hI.1
  refine .goO fds 5 ?_
  refine .rd (.lenL rfl rfl Tryz.underlying64 rfl) ?_
  refine .goR fds 2 ?_
  refine .condP rfl (fun h4 => ?_) (fun h4 => ?_)
  ·
   refine .go fds 4 ?_
   have hj : i < fs.length := by omega
   obtain ⟨x, hx⟩ : ∃ x, es[i]? = some x := ⟨_, List.getElem?_eq_getElem (by omega)⟩
   obtain ⟨y, hy⟩ : ∃ y, fs[i]? = some y := ⟨_, List.getElem?_eq_getElem hj⟩
   refine .tell (φ := ∃ b o, a = some ⟨b, o, none⟩) (Knows.pick .head (k.mono fun _ h => RowAt.addr h.1 (by rw [flat_length epc_len]; omega))) (fun hh => ?_)
   obtain ⟨b9, o9, h9⟩ := hh
   refine .tell (φ := ∃ b o, a' = some ⟨b, o, none⟩) (Knows.pick .head (k.mono fun _ h => RowAt.addr h.2 (by rw [flat_length epc_len]; omega))) (fun hh => ?_)
   obtain ⟨b8, o8, h8⟩ := hh
   refine .draws [3, 7] [R] (by kernel_rfl) ?_
   refine .goD fds [0] ?_
   refine .goD fds [1] ?_
   refine .rp 2 rfl (by kernel_rfl) (by kernel_rfl) (by kernel_rfl) (Reads.pure (.indexAddr (b := b9) (o := o9) Tryz.underlying64 ts70 (by show some (Value.slice (a) _ _) = _; rw [h9]) rfl (by omega) (by omega))) ?_
   refine .rd 3 rfl rfl (by kernel_rfl) (by kernel_rfl) (by kernel_rfl) (.loadN ia70 ts70 rfl rfl (Knows.elem (f := epc) epc_len (by decide) (Knows.pick .head (k.mono fun _ h => h9 ▸ h.1)) (hx))) (.cons .head .nil) ?_
   refine .goD fds [4] ?_
   refine .goD fds [5] ?_
   refine .rp 6 rfl (by kernel_rfl) (by kernel_rfl) (by kernel_rfl) (Reads.pure (.indexAddr (b := b8) (o := o8) Tryz.underlying64 ts70 (by show some (Value.slice (a') _ _) = _; rw [h8]) rfl (by omega) (by omega))) ?_
   refine .rd 7 rfl rfl (by kernel_rfl) (by kernel_rfl) (by kernel_rfl) (.loadN ia70 ts70 rfl rfl (Knows.elem (f := epc) epc_len (by decide) (Knows.pick .head (k.mono fun _ h => h8 ▸ h.2)) (hy))) (.cons .head .nil) ?_
   refine .rp 8 rfl (by kernel_rfl) (by kernel_rfl) (by kernel_rfl) (Reads.pure (.neA (xs := (epc x).toArray) (ys := (epc y).toArray) (by kernel_rfl) rfl (epeq _ _) rfl rfl)) ?_
   refine .done (by kernel_rfl) ?_
   refine .condN rfl (fun h6 => ?_) (fun h6 => ?_)
   ·
    refine .go fds 4 ?_
    refine .retP Tryz.func28 (.cons (.tmp rfl) .nil) (.cons .head .nil) ?_
    exact ⟨[], ⟨congrArg Value.bool (decide_eq_false (list_ne hx hy h6)).symm, rfl⟩, rfl⟩
   ·
    refine .goO fds 4 ?_
    refine .rd (.add rfl rfl (by omega) (by omega)) ?_
    refine .goR fds 2 ?_
    exact (ih (i + 1) ⟨by omega, take_same hI.2 hx hy h6⟩ (by omega)).to (.cons rfl (.cons rfl (.cons rfl .nil))) (.cons .head .nil)
  ·
   refine .go fds 5 ?_
   refine .retP Tryz.func28 (.cons (.tmp rfl) .nil) (.cons .head .nil) ?_
   exact ⟨[], ⟨congrArg Value.bool (decide_eq_true (by have := hI.2; rwa [List.take_of_length_le (by omega), List.take_of_length_le (by omega)] at this)).symm, rfl⟩, rfl⟩
end Go.Proofs.YtoglbebcdjdkiaaGreatDoor
namespace Go.Proofs.YtoglbebcdjdkiaaGreatDoor
open Go Go.Sp
namespace fl13
theorem ts33 : TS Tryz.prog 33 7 := .of (by kernel_rfl)
theorem ia33 : IsAgg Tryz.prog 33 := ⟨_, Tryz.underlying33, trivial⟩
theorem ti33 : TI Tryz.prog 33 7 72 (.agg #[.int .i64 0, .int .i64 0, .int .i64 0, .int .i64 0, .int .i64 0, .int .i64 0, .slice none 0 0]) := .of (by kernel_rfl)
theorem na3 : NotAgg Tryz.prog 3 := ⟨_, Tryz.underlying3, trivial⟩
end fl13
open fl13
set_option maxHeartbeats 8000000 in
set_option maxRecDepth 20000 in
theorem filled_ok (ta : Option Addr) (ts : List Ty) (tc : Nat) (hts : ∀ y ∈ ts, y.ok) (hsl : ts.length ≤ 140737488351232) : Cn Tryz.prog 26 [.slice ta ts.length tc] (fun w => LV w ∧ RowAt ta (ts.flatMap Ty.cells) w) [] fun v G => ∃ i s db mb d', v = .tuple #[.pointer (some ⟨s.sx, 0, none⟩), .pointer (some ⟨db, 0, none⟩)] ∧ i ≤ 40 ∧ BaseS 1000000 i 0 100 s d' ∧ PlainS s d' ∧ Synced s.l d' ∧ G = [SS db s, blk db (d'.cells mb) 74, mp nmv Fl.val mb d'.fs] := by
 refine .enter Tryz.func26 rfl (by kernel_rfl) rfl fun R k => ?_
 refine .goO fds 7 ?_
 refine .fn rfl rfl .nil (fun _ _ _ => trivial) (New_ok 1000000 (by decide) (by decide)) (fun v G1 hq => ?_)
 obtain ⟨db, mb, rfl, rfl⟩ := hq
 simp only [List.cons_append, List.nil_append]
 refine .goO fds 10 ?_
 refine .rd (.eqNilP Tryz.underlying24 rfl rfl) ?_
 refine .goO fds 10 ?_
 refine .fn rfl rfl (.cons .head (.cons .head .nil)) (Knows.pick .head (k.mono fun _ h => h.1)) (OpenS_ok db mb (Dk.mk 1000000 []) [112] 300 [] [] (fun l d' => OpenTo [112] 300 (Dk.mk 1000000 []) l d') (Open_ok7 db mb (Dk.mk 1000000 []) [112] 300 (dkz_ok (by decide)) pre1 (dkz_short _) (Nat.zero_lt_succ _) (dkz_free _ _) (by decide) (by decide)) (fun l e h => openF_new (.inl h) (by decide))) (fun v G1 hq => ?_)
 obtain ⟨s0, e0, d0, rfl, hO0, hS0, rfl⟩ := hq
 simp only [List.cons_append, List.nil_append]
 obtain ⟨hb0, hp0⟩ := new_store hO0 (by decide) hS0
 refine .goO fds 10 ?_
 refine .rd (.eqNilP Tryz.underlying28 rfl rfl) ?_
 refine .goR fds 17 ?_
 refine .loop (σ := Nat × Int × St × Dk) (fun ⟨i, ep, s, d⟩ => i ≤ ts.length ∧ i ≤ 40 ∧ (1 ≤ ep ∧ ep ≤ 1 + (i : Int)) ∧ BaseS 1000000 i 0 ep s d ∧ PlainS s d) (fun ⟨i, ep, s, d⟩ => ts.length - i) (fun ⟨i, ep, s, d⟩ => [(0, .slice ta ts.length tc), (4, .pointer (some ⟨db, 0, none⟩)), (6, .pointer (some ⟨s.sx, 0, none⟩)), (7, .int .i64 ep), (8, .int .i64 (i : Nat))]) (fun ⟨i, ep, s, d⟩ => [SS db s, blk db (d.cells mb) 74, mp nmv Fl.val mb d.fs, R]) (0, 1, s0, d0) ⟨Nat.zero_le _, by decide, by decide, hb0.mono (Nat.le_refl _) (Nat.le_refl _) (by decide), hp0⟩ (.cons rfl (.cons rfl (.cons rfl (.cons rfl (.cons rfl .nil))))) (.cons .head (.cons .head (.cons .head (.cons .head .nil)))) (fun s' hI ih => ?_)
 obtain ⟨i, ep, s, d⟩ := s'
 dsimp only at hI ih ⊢
 obtain ⟨hil, hi40, hep, hB, hP⟩ := hI
 refine .goO fds 3 ?_
 refine RunO.join 9 42 (decide (i < ts.length ∧ i < 40)) ?_ ?_
 ·
  refine .go fds 2 ?_
  refine .rd (.lenL rfl rfl Tryz.underlying22 rfl) ?_
  refine .go fds 2 ?_
  refine .split (t := 39) rfl (fun g9 => ?_) (fun g9 => ?_)
  ·
   replace g9 := of_decide_eq_true g9
   refine .go fds 3 ?_
   refine .nil ⟨rfl, ?_, by repeat (first | exact Le.refl _ | refine Le.skip rfl ?_)⟩
   exact congrArg (fun x => some (Value.bool x)) (decide_eq_decide.2 (by omega))
  ·
   replace g9 := of_decide_eq_false g9
   refine .go fds 3 ?_
   refine .nil ⟨rfl, ?_, by repeat (first | exact Le.refl _ | refine Le.skip rfl ?_)⟩
   exact congrArg (fun x => some (Value.bool x)) ((decide_eq_false (by omega)).symm)
 refine .nil ?_
 refine .condP rfl (fun c9 => ?_) (fun c9 => ?_)
 ·
  refine .go fds 4 ?_
  obtain ⟨y, hy⟩ : ∃ y, ts[i]? = some y := ⟨_, List.getElem?_eq_getElem (by omega)⟩
  have hy1 := hts y (List.mem_of_getElem? hy)
  have q1 := pickN_nn (c := y.pid) (n := 3) (by decide)
  have q2 := pickN_lt (c := y.pid) (n := 3) (by decide)
  have q3 := pickN_nn (c := y.ep) (n := 3) (by decide)
  have q4 := pickN_lt (c := y.ep) (n := 3) (by decide)
  have q5 := pickN_nn (c := y.seq) (n := 12) (by decide)
  have q6 := pickN_lt (c := y.seq) (n := 12) (by decide)
  have q7 := pickN_nn (c := y.n) (n := 3) (by decide)
  have q8 := pickN_lt (c := y.n) (n := 3) (by decide)
  obtain ⟨m, hm⟩ : ∃ m : Nat, (m : Int) = 1 + pickN y.n 3 := ⟨(1 + pickN y.n 3).toNat, by omega⟩
  have hbs := hB.ok
  have hn0 := hB.next0
  have hnx := hB.next
  have hes := hB.last
  have hS : SmOk (ep + pickN y.ep 3 / 2) (1 + pickN y.pid 3) 0 (pickN y.seq 12) m s.l.next := ⟨by unfold mayN; omega, by omega, by omega, by omega, by omega, by omega⟩
  refine .tell (φ := ∃ b o, ta = some ⟨b, o, none⟩) (Knows.pick (.tail (.tail (.tail .head))) (k.mono fun _ h => RowAt.addr h.2 (by rw [flat_length Ty.cells_len]; omega))) (fun hh => ?_)
  obtain ⟨b99, o99, h99⟩ := hh
  refine .goO fds 3 ?_
  refine .rd (.indexAddr (b := b99) (o := o99) Tryz.underlying22 ts33 (by show some (Value.slice (ta) _ _) = _; rw [h99]) rfl (by omega) (by omega)) ?_
  refine .rd (.loadN ia33 ts33 rfl rfl (Knows.elem (f := Ty.cells) Ty.cells_len (by decide) (Knows.pick (.tail (.tail (.tail .head))) (k.mono fun _ h => h99 ▸ h.2)) (hy))) ?_
  refine .ef (.alloc ti33 rfl (ones.of rfl)) ?_
  rintro _ _ ⟨b9, rfl, rfl⟩
  refine .ef0 (.storeAll (vs := y.cells) ts33 rfl rfl rfl .head rfl (ones.of rfl)) ?_
  rintro _ _ rfl
  refine .goO fds 5 ?_
  refine .rd (.ld na3 rfl .head rfl) ?_
  refine .fn rfl rfl .nil (fun _ _ _ => trivial) (pick_ok y.ep 3 hy1.ep (by decide)) (fun v G1 hq => ?_)
  obtain ⟨rfl, rfl⟩ := hq
  simp only [List.nil_append]
  refine .rd (.quo rfl rfl (by omega) (by omega) (by omega)) ?_
  refine .rd (.add rfl rfl (by omega) (by omega)) ?_
  refine .goR fds 3 ?_
  refine .unpack (L := [blk s.sx (s.cells db) 80, LG db s.l, CG db s.c, TG s.t]) (.tail .head) ?_
  simp only [List.cons_append, List.nil_append]
  refine .draws [3, 7, 10] [blk b9 (y.cells) 33] (by kernel_rfl) ?_
  refine .goD fds [0] ?_
  refine .goD fds [2] ?_
  refine .rd 3 rfl rfl (by kernel_rfl) (by kernel_rfl) (by kernel_rfl) (.ld na3 rfl .head rfl) (.cons (.tail (.tail (.tail (.tail .head)))) .nil) ?_
  refine .goD fds [6] ?_
  refine .rd 7 rfl rfl (by kernel_rfl) (by kernel_rfl) (by kernel_rfl) (.ld na3 rfl .head rfl) (.cons (.tail (.tail (.tail (.tail .head)))) .nil) ?_
  refine .goD fds [9] ?_
  refine .rd 10 rfl rfl (by kernel_rfl) (by kernel_rfl) (by kernel_rfl) (.ld na3 rfl .head rfl) (.cons (.tail (.tail (.tail (.tail .head)))) .nil) ?_
  refine .ef 1 (by kernel_rfl) rfl (.fn rfl rfl .nil (Knows.blk .head) (TableS_ok db s)) ?_
  rintro v _ ⟨G1, hq, rfl⟩
  obtain ⟨rfl, rfl⟩ := hq
  simp only [List.nil_append]
  refine ⟨.inr ⟨_, (.cons (.tail (.tail (.tail (.tail .head)))) .nil)⟩, ?_⟩
  refine .ef 4 (by kernel_rfl) rfl (.fn rfl rfl .nil (fun _ _ _ => trivial) (pick_ok y.pid 3 hy1.pid (by decide))) ?_
  rintro v _ ⟨G1, hq, rfl⟩
  obtain ⟨rfl, rfl⟩ := hq
  simp only [List.nil_append]
  refine ⟨.inr ⟨_, (.cons (.tail (.tail (.tail (.tail .head)))) .nil)⟩, ?_⟩
  refine .rp 5 rfl (by kernel_rfl) (by kernel_rfl) (by kernel_rfl) (Reads.pure (.add rfl rfl (by omega) (by omega))) ?_
  refine .ef 8 (by kernel_rfl) rfl (.fn rfl rfl .nil (fun _ _ _ => trivial) (pick_ok y.seq 12 hy1.seq (by decide))) ?_
  rintro v _ ⟨G1, hq, rfl⟩
  obtain ⟨rfl, rfl⟩ := hq
  simp only [List.nil_append]
  refine ⟨.inr ⟨_, (.cons (.tail (.tail (.tail (.tail .head)))) .nil)⟩, ?_⟩
  refine .ef 11 (by kernel_rfl) rfl (.fn rfl rfl .nil (fun _ _ _ => trivial) (pick_ok y.n 3 hy1.n (by decide))) ?_
  rintro v _ ⟨G1, hq, rfl⟩
  obtain ⟨rfl, rfl⟩ := hq
  simp only [List.nil_append]
  refine ⟨.inl (by kernel_rfl), ?_⟩
  refine .rp 12 rfl (by kernel_rfl) (by kernel_rfl) (by kernel_rfl) (Reads.pure (.add rfl rfl (by omega) (by omega))) ?_
  refine .alter (t := 68) (v' := .int .i64 (m : Nat)) rfl (congrArg (Value.int .i64) (by omega)) ?_
  refine .ef 13 (by kernel_rfl) rfl (.fn rfl rfl (.cons (.tail (.tail (.tail .head))) .nil) (fun _ _ _ => trivial) (Ask_ok s.t (1 + pickN y.pid 3) 0 (pickN y.seq 12) (m : Int) hB.tab.toTabOk (by unfold i64; omega) (by unfold i64; omega) (by unfold i64; omega) (by unfold i64; omega))) ?_
  rintro v _ ⟨G1, hq, rfl⟩
  obtain ⟨rfl, rfl⟩ := hq
  simp only [List.cons_append, List.nil_append]
  refine ⟨.inl (by kernel_rfl), ?_⟩
  refine .goD fds [14] ?_
  refine .goD fds [15] ?_
  refine .goD fds [16] ?_
  refine .goD fds [17] ?_
  refine .goD fds [18] ?_
  refine .done (by kernel_rfl) ?_
  refine .pack (L := [blk (s).sx (St.cells (s) db) 80, LG db (s).l, CG db (s).c, TG (s).t]) (.cons (.tail .head) (.cons (.tail .head) (.cons (.tail .head) (.cons .head .nil)))) ?_
  refine .goO fds 2 ?_
  refine RunO.join 14 77 (decide ((ask (pur s.t.m) (1 + pickN y.pid 3) 0 (pickN y.seq 12) (m : Int)).2 = 0 ∧ (ask (pur s.t.m) (1 + pickN y.pid 3) 0 (pickN y.seq 12) (m : Int)).1 < 0)) ?_ ?_
  ·
   refine .go fds 3 ?_
   refine .split (t := 74) rfl (fun g14 => ?_) (fun g14 => ?_)
   ·
    replace g14 := of_decide_eq_true g14
    refine .go fds 3 ?_
    refine .nil ⟨rfl, ?_, by repeat (first | exact Le.refl _ | refine Le.skip rfl ?_)⟩
    exact congrArg (fun x => some (Value.bool x)) (decide_eq_decide.2 (by omega))
   ·
    replace g14 := of_decide_eq_false g14
    refine .go fds 3 ?_
    refine .nil ⟨rfl, ?_, by repeat (first | exact Le.refl _ | refine Le.skip rfl ?_)⟩
    exact congrArg (fun x => some (Value.bool x)) ((decide_eq_false (by omega)).symm)
  refine .nil ?_
  refine .condP rfl (fun c14 => ?_) (fun c14 => ?_)
  ·
   have hk : (ask (pur s.t.m) (1 + pickN y.pid 3) 0 (pickN y.seq 12) (m : Int)).2 = 0 ∧ (ask (pur s.t.m) (1 + pickN y.pid 3) 0 (pickN y.seq 12) (m : Int)).1 < 0 := by omega
   refine .seq ?_
   refine .draws [3, 7, 10] [blk b9 (y.cells) 33] (by kernel_rfl) ?_
   refine .goD fds [0] ?_
   refine .goD fds [1] ?_
   refine .goD fds [2] ?_
   refine .rd 3 rfl rfl (by kernel_rfl) (by kernel_rfl) (by kernel_rfl) (.ld na3 rfl .head rfl) (.cons (.tail .head) .nil) ?_
   refine .goD fds [6] ?_
   refine .rd 7 rfl rfl (by kernel_rfl) (by kernel_rfl) (by kernel_rfl) (.ld na3 rfl .head rfl) (.cons (.tail .head) .nil) ?_
   refine .goD fds [9] ?_
   refine .rd 10 rfl rfl (by kernel_rfl) (by kernel_rfl) (by kernel_rfl) (.ld na3 rfl .head rfl) (.cons (.tail .head) .nil) ?_
   refine .ef 4 (by kernel_rfl) rfl (.fn rfl rfl .nil (fun _ _ _ => trivial) (pick_ok y.pid 3 hy1.pid (by decide))) ?_
   rintro v _ ⟨G1, hq, rfl⟩
   obtain ⟨rfl, rfl⟩ := hq
   simp only [List.nil_append]
   refine ⟨.inr ⟨_, (.cons (.tail .head) .nil)⟩, ?_⟩
   refine .rp 5 rfl (by kernel_rfl) (by kernel_rfl) (by kernel_rfl) (Reads.pure (.add rfl rfl (by omega) (by omega))) ?_
   refine .ef 8 (by kernel_rfl) rfl (.fn rfl rfl .nil (fun _ _ _ => trivial) (pick_ok y.seq 12 hy1.seq (by decide))) ?_
   rintro v _ ⟨G1, hq, rfl⟩
   obtain ⟨rfl, rfl⟩ := hq
   simp only [List.nil_append]
   refine ⟨.inr ⟨_, (.cons (.tail .head) .nil)⟩, ?_⟩
   refine .ef 11 (by kernel_rfl) rfl (.fn rfl rfl .nil (fun _ _ _ => trivial) (pick_ok y.n 3 hy1.n (by decide))) ?_
   rintro v _ ⟨G1, hq, rfl⟩
   obtain ⟨rfl, rfl⟩ := hq
   simp only [List.nil_append]
   refine ⟨.inl (by kernel_rfl), ?_⟩
   refine .rp 12 rfl (by kernel_rfl) (by kernel_rfl) (by kernel_rfl) (Reads.pure (.add rfl rfl (by omega) (by omega))) ?_
   refine .alter (t := 91) (v' := .int .i64 (m : Nat)) rfl (congrArg (Value.int .i64) (by omega)) ?_
   refine .ef 13 (by kernel_rfl) rfl (.fn rfl rfl .nil (fun _ _ _ => trivial) (small_ok (ep + pickN y.ep 3 / 2) (1 + pickN y.pid 3) (pickN y.seq 12) m (by omega))) ?_
   rintro v _ ⟨G1, hq, rfl⟩
   obtain ⟨ra, rc, rfl, rfl⟩ := hq
   simp only [List.cons_append, List.nil_append]
   refine ⟨.inl (by kernel_rfl), ?_⟩
   have hlt := hB.late (e := (ep + pickN y.ep 3 / 2)) hk.1 hk.2 (by omega)
   have hq := hS.enc
   have hus := hB.usd
   have hsz := hB.size
   have hsg := hB.segs
   have hln := hB.len
   have hesl := hB.esl
   refine .ef 14 (by kernel_rfl) rfl (.fn rfl rfl (.cons (.tail .head) (.cons (.tail (.tail .head)) (.cons (.tail (.tail .head)) .nil))) ((Knows.pick (.tail (.tail .head)) (k.mono fun _ h => h.1)).and (Knows.arr .head)) (AppendS_ok db mb d s (smB (ep + pickN y.ep 3 / 2) (1 + pickN y.pid 3) 0 (pickN y.seq 12) m 0) ra rc hB.dok hB.ok hB.own hB.nm hB.es hB.holdsE (by omega) hB.tab.toTabOk (by omega) (by omega) (by omega) hS.good hS.ep (by show _ ≤ ep + pickN y.ep 3 / 2; omega) (by show 0 < 1 + pickN y.pid 3; omega) hlt (by show d.used + 8040 + (enc (smB (ep + pickN y.ep 3 / 2) (1 + pickN y.pid 3) 0 (pickN y.seq 12) m s.l.next)).length ≤ _; omega))) ?_
   rintro v _ ⟨G1, hq, rfl⟩
   obtain ⟨s', d', rfl, hA', rfl⟩ := hq
   simp only [List.cons_append, List.nil_append]
   have hA : TookTo s d (smB (ep + pickN y.ep 3 / 2) (1 + pickN y.pid 3) 0 (pickN y.seq 12) m s.l.next) s' d' := hA'
   have hB' := hB.took hA hS (by omega) (by omega) (by omega) hlt ⟨by omega, by decide⟩ (by decide)
   have hP' := hP.took hB hA hS (by omega) hlt ⟨by omega, by decide⟩ (by decide)
   refine ⟨.inl (by kernel_rfl), ?_⟩
   refine .goD fds [15] ?_
   refine .goD fds [16] ?_
   refine .goD fds [17] ?_
   refine .goD fds [18] ?_
   refine .goD fds [19] ?_
   refine .done (by kernel_rfl) ?_
   refine .alter (t := 6) (v' := .pointer (some ⟨s'.sx, 0, none⟩)) rfl (by rw [hA.sx]) ?_
   refine .goO fds 10 ?_
   refine .rd (.add rfl rfl (by omega) (by omega)) ?_
   refine .goR fds 2 ?_
   exact (ih (i + 1, (ep + pickN y.ep 3 / 2), s', d') ⟨by show i + 1 ≤ _; omega, by show i + 1 ≤ _; omega, by show 1 ≤ (ep + pickN y.ep 3 / 2) ∧ (ep + pickN y.ep 3 / 2) ≤ 1 + ((i + 1 : Nat) : Int); omega, hB', hP'⟩ (by show ts.length - (i + 1) < ts.length - i; omega)).to (.cons rfl (.cons rfl (.cons rfl (.cons rfl (.cons rfl .nil))))) (.cons .head (.cons .head (.cons .head (.cons (.tail (.tail .head)) .nil))))
  ·
   refine .goO fds 4 ?_
   refine .rd (.add rfl rfl (by omega) (by omega)) ?_
   refine .goR fds 2 ?_
   exact (ih (i + 1, (ep + pickN y.ep 3 / 2), s, d) ⟨by show i + 1 ≤ _; omega, by show i + 1 ≤ _; omega, by show 1 ≤ (ep + pickN y.ep 3 / 2) ∧ (ep + pickN y.ep 3 / 2) ≤ 1 + ((i + 1 : Nat) : Int); omega, hB.mono (Nat.le_succ _) (Nat.le_refl _) (by show ep ≤ ep + pickN y.ep 3 / 2; omega), hP⟩ (by show ts.length - (i + 1) < ts.length - i; omega)).to (.cons rfl (.cons rfl (.cons rfl (.cons rfl (.cons rfl .nil))))) (.cons .head (.cons (.tail .head) (.cons (.tail .head) (.cons (.tail .head) .nil))))
 ·
  refine .goO fds 5 ?_
  refine .fn rfl rfl (.cons .head (.cons .head (.cons .head .nil))) (fun _ _ _ => trivial) (SyncS_ok db mb d s hB.dok hB.ok) (fun v G1 hq => ?_)
  obtain ⟨rfl, rfl⟩ := hq
  simp only [List.cons_append, List.nil_append]
  refine .goR fds 11 ?_
  refine .retP Tryz.func26 (.cons (.tmp rfl) (.cons (.tmp rfl) .nil)) (.cons .head (.cons .head (.cons .head (.cons .head .nil)))) ?_
  exact ⟨[_, _, _], ⟨i, s, db, mb, _, rfl, hi40, hB.sync.mono (Nat.le_refl _) (Nat.le_refl _) (by omega), hP.sync hB, synced _ _, rfl⟩, rfl⟩
end Go.Proofs.YtoglbebcdjdkiaaGreatDoor
namespace Go.Proofs.YtoglbebcdjdkiaaGreatDoor
open Go Go.Sp
namespace st5
theorem na65 : NotAgg Tryz.prog 65 := ⟨_, Tryz.underlying65, trivial⟩
theorem na3 : NotAgg Tryz.prog 3 := ⟨_, Tryz.underlying3, trivial⟩
theorem na48 : NotAgg Tryz.prog 48 := ⟨_, Tryz.underlying48, trivial⟩
theorem na54 : NotAgg Tryz.prog 54 := ⟨_, Tryz.underlying54, trivial⟩
theorem fd41_0 : FD Tryz.prog 41 0 0 := .of Tryz.underlying41 (by kernel_rfl)
theorem ts3 : TS Tryz.prog 3 1 := .of (by kernel_rfl)
theorem ia41 : IsAgg Tryz.prog 41 := ⟨_, Tryz.underlying41, trivial⟩
theorem ts41 : TS Tryz.prog 41 6 := .of (by kernel_rfl)
end st5
open st5
set_option maxHeartbeats 4000000 in
set_option maxRecDepth 20000 in
theorem TakeNo_ok (db : Nat) (s : St) (b : Bat) (a : Option Addr) (c : Nat) (hes : EpsOk s.c.es) (hlast : b.epoch < lastE s.c.es) : Cn Tryz.prog 44 [.pointer (some ⟨s.sx, 0, none⟩), .agg (b.cells a c).toArray] (fun _ => True) [SS db s] fun v G => v = .int .i64 13 ∧ G = [SS db s] := by
 refine .enter Tryz.func44 rfl (by kernel_rfl) rfl fun R k => ?_
 refine .unpack (L := [blk s.sx (s.cells db) 80, LG db s.l, CG db s.c, TG s.t]) .head ?_
 simp only [List.cons_append, List.nil_append]
 refine .goO fds 2 ?_
 refine .ef (.box (l := b.cells a c) rfl rfl (ones.of rfl)) ?_
 rintro _ _ ⟨bx, rfl, rfl⟩
 refine .goO fds 7 ?_
 refine .rd (.ld na65 rfl (.tail .head) rfl) ?_
 refine .fn rfl rfl .nil (CG.at (.tail (.tail (.tail .head)))) (Last_ok db s.c (by have := hes.len; omega)) (fun v G1 hq => ?_)
 obtain ⟨rfl, rfl⟩ := hq
 simp only [List.nil_append]
 refine .goO fds 6 ?_
 refine .rd (.ld na3 rfl .head rfl) ?_
 refine .go fds 2 ?_
 refine .alter (t := 16) (v' := .bool true) rfl (congrArg Value.bool (decide_eq_true hlast)) ?_
 refine .goR fds 6 ?_
 refine .pack (L := [blk (s).sx (St.cells (s) db) 80, LG db (s).l, CG db (s).c, TG (s).t]) (.cons (.tail .head) (.cons (.tail .head) (.cons (.tail .head) (.cons (.tail .head) .nil)))) ?_
 refine .retP Tryz.func44 (.cons (.tmp rfl) .nil) (.cons .head (.cons (.tail .head) .nil)) ?_
 exact ⟨[_], ⟨rfl, rfl⟩, rfl⟩
set_option maxHeartbeats 4000000 in
set_option maxRecDepth 20000 in
theorem AppendNo_ok (db : Nat) (d : Dk) (s : St) (b : Bat) (a : Option Addr) (c : Nat) (hl : s.l.ok d) (hes : EpsOk s.c.es) (hlast : b.epoch < lastE s.c.es) : Cn Tryz.prog 14 [.pointer (some ⟨s.sx, 0, none⟩), .agg (b.cells a c).toArray] (fun _ => True) [SS db s] fun v G => v = .tuple #[.int .i64 0, .int .i64 13] ∧ G = [SS db s] := by
 refine .enter Tryz.func14 rfl (by kernel_rfl) rfl fun R k => ?_
 refine .unpack (L := [blk s.sx (s.cells db) 80, LG db s.l, CG db s.c, TG s.t]) .head ?_
 simp only [List.cons_append, List.nil_append]
 refine .goO fds 2 ?_
 refine .ef (.box (l := b.cells a c) rfl rfl (ones.of rfl)) ?_
 rintro _ _ ⟨bx, rfl, rfl⟩
 refine .goO fds 8 ?_
 refine .rd (.ld na48 rfl (.tail .head) rfl) ?_
 refine .go fds 2 ?_
 refine .rd (.load na54 rfl (Knows.one (i := 0) ((LG.at (.tail (.tail .head))).mono fun _ h => h.1) rfl)) ?_
 refine .fn rfl rfl .nil ((LG.at (.tail (.tail .head))).mono fun _ h => h.2.2 _ (Lx.cur_in (s.l))) (Next_ok db (s.l).cur hl.cur.1) (fun v G1 hq => ?_)
 obtain ⟨rfl, rfl⟩ := hq
 simp only [List.nil_append]
 refine .alter (t := 14) (v' := .int .i64 (s.l).next) rfl (rfl) ?_
 refine .rd (.fieldAddr fd41_0 rfl) ?_
 refine .ef0 (.store ts3 rfl rfl .head rfl (Nat.le_of_ble_eq_true rfl)) ?_
 rintro _ _ rfl
 refine .cast (X' := blk bx ((b.at_ s.l.next).cells a c) 41) (rfl) ?_
 refine .goR fds 3 ?_
 refine .pack (L := [blk (s).sx (St.cells (s) db) 80, LG db (s).l, CG db (s).c, TG (s).t]) (.cons (.tail .head) (.cons (.tail .head) (.cons (.tail .head) (.cons (.tail .head) .nil)))) ?_
 refine .goO fds 2 ?_
 refine .rd (.ldN ia41 ts41 rfl (.tail .head) rfl) ?_
 refine .fn rfl rfl (.cons .head .nil) (fun _ _ _ => trivial) (TakeNo_ok db s (b.at_ s.l.next) a c hes hlast) (fun v G1 hq => ?_)
 obtain ⟨rfl, rfl⟩ := hq
 simp only [List.cons_append, List.nil_append]
 refine .goR fds 14 ?_
 refine .retP Tryz.func14 (.cons (.tmp rfl) (.cons (.tmp rfl) .nil)) (.cons .head (.cons (.tail .head) .nil)) ?_
 exact ⟨[_], ⟨rfl, rfl⟩, rfl⟩
end Go.Proofs.YtoglbebcdjdkiaaGreatDoor
namespace Go.Proofs.YtoglbebcdjdkiaaGreatDoor
open Go Go.Sp
namespace dk3
theorem ts9 : TS Tryz.prog 9 1 := .of (by kernel_rfl)
theorem na9 : NotAgg Tryz.prog 9 := ⟨_, Tryz.underlying9, trivial⟩
theorem na58 : NotAgg Tryz.prog 72 := ⟨_, Tryz.underlying72, trivial⟩
theorem ti82 : TI Tryz.prog 104 2 24 (.agg #[.string ⟨#[]⟩, .int .i64 0]) := .of (by kernel_rfl)
theorem ts82 : TS Tryz.prog 104 2 := .of (by kernel_rfl)
theorem fd82_1 : FD Tryz.prog 104 1 1 := .of Tryz.underlying104 (by kernel_rfl)
theorem na3 : NotAgg Tryz.prog 3 := ⟨_, Tryz.underlying3, trivial⟩
theorem bld82_0_1 (x0 : ByteArray) (x1 : Int) (w : World) : (Instr.build 104 (([0, 1] : List Nat).zip [.string x0, .int .i64 x1]).toArray).run Tryz.prog w = .ok (.agg #[.string x0, .int .i64 x1]) w := by kernel_rfl
theorem ts3 : TS Tryz.prog 3 1 := .of (by kernel_rfl)
end dk3
open dk3
set_option maxHeartbeats 4000000 in
set_option maxRecDepth 20000 in
theorem Crash_ok (db mb : Nat) (d : Dk) (ns : List Nm) (ka : Option Addr) (kl : List Int) (kc : Nat) (hd : d.ok) (hk : ∀ p ∈ d.fs, p.1.length ≤ 64) (hn : d.fs.length ≤ 1000000) (hs : (sorted (d.fs.map (·.1))) = ns) (hkc : kl.length ≤ kc) (hki : ∀ x ∈ kl, i64 x) (hkl : kl.length ≤ 140737488351232) : Cn Tryz.prog 16 [.pointer (some ⟨db, 0, none⟩), .slice ka kl.length kc] (fun _ => True) [blk db (d.cells mb) 74, mp nmv Fl.val mb d.fs, know (RowAt ka (kl.flatMap icI))] fun v G => ∃ e, CrashTo d e ∧ G = [blk db (e.cells mb) 74, mp nmv Fl.val mb e.fs] := by
 refine .enter Tryz.func16 rfl (by kernel_rfl) rfl fun R k => ?_
 have hns : ∀ n, n ∈ d.fs.map (·.1) → n ∈ ns := fun n h => hs ▸ sorted_mem.2 h
 have hnd : ns.Nodup := hs ▸ sorted_nodup hd.nodup
 have hnl : ns.length = d.fs.length := by rw [← hs, sorted, List.length_mergeSort, List.length_map]
 refine .goO fds 3 ?_
 refine .fn rfl rfl (.cons .head (.cons .head .nil)) (fun _ _ _ => trivial) (Names_ok db mb d hk hn) (fun v G1 hq => ?_)
 obtain ⟨ra, rc, rfl, rfl⟩ := hq
 simp only [List.cons_append, List.nil_append]
 refine .rd (.lenL rfl rfl Tryz.underlying101 rfl) ?_
 refine .goR fds 2 ?_
 refine .perm (.cons (.tail (.tail .head)) (.cons .head (.cons .head (.cons .head (.cons .head .nil))))) ?_
 refine .cast (X' := know (RowAt ra (ns.flatMap nmc))) (by rw [hs, map_nmc]) ?_
 refine .alter (t := 10) (v' := .slice ra ns.length rc) rfl (by rw [hnl]) ?_
 refine .alter (t := 11) (v' := .int .i64 (ns.length : Nat)) rfl (by rw [hnl]) ?_
 skip
 refine .block ?_
 refine .loop (σ := Nat × Dk × Option Addr × List Int × Nat) (fun ⟨j, e, qa, ql, qc⟩ => j ≤ ns.length ∧ CrashI d (ns.take j) e ∧ ql.length ≤ qc ∧ (∀ x ∈ ql, i64 x) ∧ ql.length ≤ 140737488351232) (fun ⟨j, e, qa, ql, qc⟩ => ns.length - j) (fun ⟨j, e, qa, ql, qc⟩ => [(0, .pointer (some ⟨db, 0, none⟩)), (1, .slice qa ql.length qc), (10, .slice ra ns.length rc), (11, .int .i64 (ns.length : Nat)), (12, .int .i64 (j : Nat))]) (fun ⟨j, e, qa, ql, qc⟩ => [blk db (e.cells mb) 74, mp nmv Fl.val mb e.fs, know (RowAt ra (ns.flatMap nmc)), know (RowAt qa (ql.flatMap icI)), R]) (0, d, ka, kl, kc) ⟨Nat.zero_le _, .begin hd, hkc, hki, hkl⟩ (.cons rfl (.cons rfl (.cons rfl (.cons rfl (.cons rfl .nil))))) (.cons (.tail .head) (.cons (.tail .head) (.cons .head (.cons .head (.cons .head .nil))))) (fun s' hI ih => ?_)
 obtain ⟨j, e, qa, ql, qc⟩ := s'
 dsimp only at hI ih ⊢
 obtain ⟨hjn, hC, hqc, hqi, hql⟩ := hI
 refine .go fds 5 ?_
 refine .condP rfl (fun c1 => ?_) (fun c1 => ?_)
 ·
  refine .go fds 4 ?_
  obtain ⟨x, hx⟩ : ∃ x, ns[j]? = some x := ⟨_, List.getElem?_eq_getElem (by omega)⟩
  have hxg : (d.get x).isSome = true := get_in.2 (sorted_mem.1 (hs ▸ List.mem_of_getElem? hx))
  have hxn : x ∉ ns.take j := fun h => by
   obtain ⟨i, hi⟩ := List.getElem?_of_mem h
   have hij : i < j := by have := (List.getElem?_eq_some_iff.1 hi).1; rw [List.length_take] at this; omega
   rw [List.getElem?_take, if_pos hij] at hi
   obtain ⟨h1, h2⟩ := List.getElem?_eq_some_iff.1 hi
   obtain ⟨h3, h4⟩ := List.getElem?_eq_some_iff.1 hx
   exact (List.pairwise_iff_getElem.1 hnd i j h1 h3 hij) (h2.trans h4.symm)
  have hxl := hC.left x hxn
  have hsf := Dk.file_safe hd x
  have hfl := Dk.file_le (d := d) x
  have hus := hd.used
  have hsz := hd.size
  refine .tell (φ := ∃ b o, ra = some ⟨b, o, none⟩) ((Knows.know (.tail (.tail .head))).mono fun _ h => RowAt.addr h (by rw [flat_length nmc_len]; omega)) (fun hh => ?_)
  obtain ⟨b9, o9, h9⟩ := hh
  refine .region ?_
  refine .rd (.indexAddr (b := b9) (o := o9) Tryz.underlying101 ts9 (by show some (Value.slice ra _ _) = _; rw [h9]) rfl (by omega) (by omega)) ?_
  refine .rd (.load na9 rfl (Knows.one (i := 0) (Knows.elem (f := nmc) nmc_len (by decide) ((Knows.know (.tail (.tail .head))).mono fun _ h => h9 ▸ h) hx) rfl)) ?_
  refine .goO fds 7 ?_
  refine .rd (.ld na58 rfl .head rfl) ?_
  refine .rd (.move rfl) ?_
  refine .rd (.lookup (q := x) kl58 Tryz.underlying72 (fun w => ti82.zero w) rfl rfl (.tail .head)) ?_
  refine .alter (t := 21) (v' := (d.file x).val) rfl ((lkNo e x).trans (by rw [hxl])) ?_
  refine .ef (.alloc ti82 rfl (ones.of rfl)) ?_
  rintro _ _ ⟨b6, rfl, rfl⟩
  refine .ef0 (.storeAll ts82 rfl rfl (by rfl) .head rfl (ones.of rfl)) ?_
  rintro _ _ rfl
  refine .nil ?_
  refine .cast (X' := blk b6 [.string (str (d.file x).b), .int .i64 ((d.file x).safe : Int)] 104) (rfl) ?_
  refine .goO fds 3 ?_
  refine .rd (.ld na9 rfl .head rfl) ?_
  refine .rd (.lenT rfl rfl Tryz.underlying9 rfl) ?_
  refine .rd (.fieldAddr fd82_1 rfl) ?_
  refine .rd (.ld na3 rfl .head rfl) ?_
  refine .rd (.sub rfl rfl (by omega) (by omega)) ?_
  refine .alter (t := 27) (v' := .int .i64 (((d.file x).b.length - (d.file x).safe : Nat) : Int)) rfl (congrArg (Value.int .i64) (by omega)) ?_
  refine .goR fds 8 ?_
  refine .condP rfl (fun c5 => ?_) (fun c5 => ?_)
  ·
   have hm0 : (d.file x).safe = (d.file x).b.length := by omega
   refine .goO fds 2 ?_
   refine .rd (.add rfl rfl (by omega) (by omega)) ?_
   refine .goR fds 2 ?_
   exact (ih (j + 1, e, qa, ql, qc) ⟨by show j + 1 ≤ _; omega, by rw [List.take_add_one, hx]; exact hC.keep hxn hm0, hqc, hqi, hql⟩ (by show ns.length - (j + 1) < ns.length - j; omega)).to (.cons rfl (.cons rfl (.cons rfl (.cons rfl (.cons rfl .nil))))) (.cons (.tail .head) (.cons (.tail .head) (.cons (.tail .head) (.cons (.tail .head) (.cons (.tail .head) .nil)))))
  ·
   refine .goO fds 9 ?_
   refine .rd (.lenL rfl rfl Tryz.underlying31 rfl) ?_
   refine .goR fds 2 ?_
   refine .joinEx (σ := Int × Option Addr × List Int × Nat) (φ := fun ⟨n, qa, ql, qc⟩ => i64 n ∧ ql.length ≤ qc ∧ (∀ x ∈ ql, i64 x) ∧ ql.length ≤ 140737488351232) (E' := fun ⟨n, qa, ql, qc⟩ => [(0, .pointer (some ⟨db, 0, none⟩)), (5, nmv x), (6, .pointer (some ⟨b6, 0, none⟩)), (7, .int .i64 (((d.file x).b.length - (d.file x).safe : Nat) : Int)), (10, .slice ra ns.length rc), (11, .int .i64 (ns.length : Nat)), (12, .int .i64 (j : Nat)), (1, .slice qa ql.length qc), (8, .int .i64 n)]) (Γ' := fun ⟨n, qa, ql, qc⟩ => [blk b6 [.string (str (d.file x).b), .int .i64 ((d.file x).safe : Int)] 104, blk db (e.cells mb) 74, mp nmv Fl.val mb e.fs, know (RowAt ra (ns.flatMap nmc)), know (RowAt qa (ql.flatMap icI)), R]) (fun sj hj => ?_) (fun fin => ?_)
   ·
    clear hqc hqi hql
    obtain ⟨n, qa', ql', qc'⟩ := sj
    dsimp only at hj ⊢
    obtain ⟨hn', hqc, hqi, hql⟩ := hj
    obtain ⟨hn1, hn2⟩ : -9223372036854775808 ≤ n ∧ n ≤ 9223372036854775807 := hn'
    obtain ⟨qa, rfl⟩ : ∃ q, q = qa' := ⟨_, rfl⟩
    obtain ⟨ql, rfl⟩ : ∃ q, q = ql' := ⟨_, rfl⟩
    obtain ⟨qc, rfl⟩ : ∃ q, q = qc' := ⟨_, rfl⟩
    refine .go fds 6 ?_
    refine .joinEx (σ := Int) (φ := fun n => 0 ≤ n ∧ n ≤ 9223372036854775807) (E' := fun n => [(0, .pointer (some ⟨db, 0, none⟩)), (5, nmv x), (6, .pointer (some ⟨b6, 0, none⟩)), (7, .int .i64 (((d.file x).b.length - (d.file x).safe : Nat) : Int)), (10, .slice ra ns.length rc), (11, .int .i64 (ns.length : Nat)), (12, .int .i64 (j : Nat)), (1, .slice qa ql.length qc), (8, .int .i64 n)]) (Γ' := fun n => [blk b6 [.string (str (d.file x).b), .int .i64 ((d.file x).safe : Int)] 104, blk db (e.cells mb) 74, mp nmv Fl.val mb e.fs, know (RowAt ra (ns.flatMap nmc)), know (RowAt qa (ql.flatMap icI)), R]) (fun sj hj => ?_) (fun fin => ?_)
    ·
     obtain ⟨n2, rfl⟩ : ∃ n : Int, n = sj := ⟨sj, rfl⟩
     obtain ⟨hm1, hm2⟩ := hj
     refine .seq ?_
     refine .draws [1] [blk b6 [.string (str (d.file x).b), .int .i64 ((d.file x).safe : Int)] 104] (by kernel_rfl) ?_
     refine .goD fds [0] ?_
     refine .rd 1 rfl rfl (by kernel_rfl) (by kernel_rfl) (by kernel_rfl) (.ld na3 rfl .head rfl) (.cons .head .nil) ?_
     refine .goD fds [2] ?_
     refine .goD fds [3] ?_
     refine .rp 4 rfl (by kernel_rfl) (by kernel_rfl) (by kernel_rfl) (Reads.pure (.add rfl rfl (by omega) (by omega))) ?_
     refine .alter (t := 47) (v' := .int .i64 ((((d.file x).b.length - (d.file x).safe + 1 : Nat)) : Int)) rfl (congrArg (Value.int .i64) (by omega)) ?_
     refine .rp 5 rfl (by kernel_rfl) (by kernel_rfl) (by kernel_rfl) (Reads.pure (.rem rfl rfl (by omega) (by omega))) ?_
     have hr1 := Int.emod_nonneg n2 (show (((d.file x).b.length - (d.file x).safe + 1 : Nat) : Int) ≠ 0 by omega)
     have hr2 := Int.emod_lt_of_pos n2 (show (0 : Int) < (((d.file x).b.length - (d.file x).safe + 1 : Nat) : Int) by omega)
     obtain ⟨z, hz⟩ : ∃ z : Nat, (z : Int) = (d.file x).safe + n2 % (((d.file x).b.length - (d.file x).safe + 1 : Nat) : Int) := ⟨((d.file x).safe + n2 % (((d.file x).b.length - (d.file x).safe + 1 : Nat) : Int)).toNat, by omega⟩
     have hz1 : (d.file x).safe ≤ z := by omega
     have hz2 : z ≤ (d.file x).b.length := by omega
     refine .rp 6 rfl (by kernel_rfl) (by kernel_rfl) (by kernel_rfl) (Reads.pure (.add rfl rfl (by omega) (by omega))) ?_
     refine .alter (t := 49) (v' := .int .i64 (z : Nat)) rfl (by rw [hz]) ?_
     refine .goD fds [7] ?_
     refine .done (by kernel_rfl) ?_
     refine .goO fds 4 ?_
     refine .rd (.ld na9 rfl .head rfl) ?_
     refine .rd (.move rfl) ?_
     refine .rd (.sliceT (l := (d.file x).b) (a := 0) (h := z) Tryz.underlying9 rfl rfl ⟨_, rfl⟩ (by omega) (by omega)) ?_
     refine .rd (.move rfl) ?_
     refine .rd (.build rfl (bld82_0_1 _ _)) ?_
     refine .alter (t := 57) (v' := (Fl.val ⟨(d.file x).b.take z, z⟩)) rfl (by simp [Fl.val]) ?_
     refine .fn rfl rfl (.cons (.tail .head) (.cons (.tail .head) .nil)) (fun _ _ _ => trivial) (put_ok db mb e x ⟨(d.file x).b.take z, z⟩ hC.dok (by rw [List.length_take]; omega)) (fun v G1 hq => ?_)
     obtain rfl := hq
     simp only [List.cons_append, List.nil_append]
     refine .goO fds 3 ?_
     refine .rd (.add rfl rfl (by omega) (by omega)) ?_
     refine .goR fds 2 ?_
     exact (ih (j + 1, e.put x ⟨(d.file x).b.take z, z⟩, qa, ql, qc) ⟨by show j + 1 ≤ _; omega, by rw [List.take_add_one, hx]; exact hC.step hxn hxg hz1 hz2, hqc, hqi, hql⟩ (by show ns.length - (j + 1) < ns.length - j; omega)).to (.cons rfl (.cons rfl (.cons rfl (.cons rfl (.cons rfl .nil))))) (.cons .head (.cons .head (.cons (.tail .head) (.cons (.tail .head) (.cons (.tail .head) .nil)))))
    ·
     refine .condP rfl (fun c9 => ?_) (fun c9 => ?_)
     ·
      refine .goO fds 2 ?_
      refine .rd (.add rfl rfl (by omega) (by omega)) ?_
      refine .rd (.neg rfl (by omega) (by omega)) ?_
      refine .goR fds 2 ?_
      exact fin (-(n + 1)) ⟨by omega, by omega⟩ (.cons rfl (.cons rfl (.cons rfl (.cons rfl (.cons rfl (.cons rfl (.cons rfl (.cons rfl (.cons rfl .nil))))))))) (.cons .head (.cons .head (.cons .head (.cons .head (.cons .head (.cons .head .nil))))))
     ·
      refine .skip ?_
      exact fin n ⟨by omega, hn2⟩ (.cons rfl (.cons rfl (.cons rfl (.cons rfl (.cons rfl (.cons rfl (.cons rfl (.cons rfl (.cons rfl .nil))))))))) (.cons .head (.cons .head (.cons .head (.cons .head (.cons .head (.cons .head .nil))))))
   ·
    refine .condP rfl (fun c7 => ?_) (fun c7 => ?_)
    ·
     obtain ⟨v, r, hvr⟩ : ∃ v r, ql = v :: r := by
      cases h : ql with
      | nil => rw [h] at c7; exact absurd c7 (by decide)
      | cons v r => exact ⟨v, r, rfl⟩
     have hv : i64 v := hqi v (by rw [hvr]; exact .head _)
     have hri : ∀ x ∈ r, i64 x := fun x hx => hqi x (by rw [hvr]; exact .tail _ hx)
     have hql1 : ql.length = r.length + 1 := by rw [hvr]; rfl
     have hv0 : ql[0]? = some v := by rw [hvr]; rfl
     refine .tell (φ := ∃ b o, qa = some ⟨b, o, none⟩) ((Knows.know (.tail (.tail (.tail (.tail .head))))).mono fun _ h => RowAt.addr h (by rw [flat_length icI_len]; omega)) (fun hh => ?_)
     obtain ⟨b8, o8, h8⟩ := hh
     refine .draws [2] [know (RowAt qa (ql.flatMap icI))] (by kernel_rfl) ?_
     refine .goD fds [0] ?_
     refine .rp 1 rfl (by kernel_rfl) (by kernel_rfl) (by kernel_rfl) (Reads.pure (.indexAddr (b := b8) (o := o8) Tryz.underlying31 ts3 (by show some (Value.slice qa _ _) = _; rw [h8]) rfl (by omega) (by omega))) ?_
     refine .rd 2 rfl rfl (by kernel_rfl) (by kernel_rfl) (by kernel_rfl) (.load na3 rfl (Knows.one (i := 0) (Knows.elem (f := icI) icI_len (by decide) ((Knows.know .head).mono fun _ h => h8 ▸ h) hv0) rfl)) (.cons (.tail (.tail (.tail (.tail .head)))) .nil) ?_
     refine .goD fds [3] ?_
     refine .rp 4 rfl (by kernel_rfl) (by kernel_rfl) (by kernel_rfl) (Reads.pure (.slice (l := 1) (h := ql.length) (m := qc) Tryz.underlying31 ts3 rfl rfl ⟨rfl, rfl⟩ ⟨_, rfl⟩ (by omega) (by omega) (by omega))) ?_
     refine .goD fds [5] ?_
     refine .goD fds [6] ?_
     refine .done (by kernel_rfl) ?_
     refine .alter (t := 1) (v' := .slice (if qc = 1 then qa else qa.map (·.add (1 * 1))) r.length (qc - 1)) rfl (by rw [hql1]; rfl) ?_
     refine .knowMono (RowAt (if qc = 1 then qa else qa.map (·.add (1 * 1))) (r.flatMap icI)) (.tail (.tail (.tail (.tail .head)))) (fun w h => row_tail h8 (hvr ▸ h) (by omega)) ?_
     exact fin (v, (if qc = 1 then qa else qa.map (·.add (1 * 1))), r, qc - 1) ⟨hv, by show r.length ≤ qc - 1; omega, hri, by show r.length ≤ _; omega⟩ (.cons rfl (.cons rfl (.cons rfl (.cons rfl (.cons rfl (.cons rfl (.cons rfl (.cons rfl (.cons rfl .nil))))))))) (.cons (.tail .head) (.cons (.tail .head) (.cons (.tail .head) (.cons (.tail .head) (.cons .head (.cons .head .nil))))))
    ·
     refine .skip ?_
     exact fin (0, qa, ql, qc) ⟨⟨by decide, by decide⟩, hqc, hqi, hql⟩ (.cons rfl (.cons rfl (.cons rfl (.cons rfl (.cons rfl (.cons rfl (.cons rfl (.cons rfl (.cons rfl .nil))))))))) (.cons .head (.cons .head (.cons .head (.cons .head (.cons .head (.cons .head .nil))))))
 ·
  refine .exit rfl ?_
  refine .endP Tryz.func16 .nil (.cons .head (.cons .head (.cons (.tail (.tail .head)) .nil))) ?_
  exact ⟨[_, _], ⟨e, hC.all hd fun n h => by rw [List.take_of_length_le (by omega)]; exact hns n h, rfl⟩, rfl⟩
end Go.Proofs.YtoglbebcdjdkiaaGreatDoor
namespace Go.Proofs.YtoglbebcdjdkiaaGreatDoor
open Go Go.Sp
namespace log20
theorem bld42_1_2_3 (x0 : Option Addr) (x1 : ByteArray) (x2 : Int) (w : World) : (Instr.build 57 (([1, 2, 3] : List Nat).zip [.pointer x0, .string x1, .int .i64 x2]).toArray).run Tryz.prog w = .ok (.agg #[.pointer none, .pointer x0, .string x1, .int .i64 x2, .int .i64 0, .int .i64 0, .slice none 0 0]) w := by kernel_rfl
theorem ts3 : TS Tryz.prog 3 1 := .of (by kernel_rfl)
theorem na3 : NotAgg Tryz.prog 3 := ⟨_, Tryz.underlying3, trivial⟩
theorem na40 : NotAgg Tryz.prog 55 := ⟨_, Tryz.underlying55, trivial⟩
theorem na39 : NotAgg Tryz.prog 54 := ⟨_, Tryz.underlying54, trivial⟩
end log20
open log20
theorem kept_any (lb db mb : Nat) (d : Dk) (pre : Nm) (most : Int) (z w : Nat) {L : List Piece} (hp : Pre pre) (hF : Found pre d L z w) : Cn Tryz.prog 65 [.pointer (some ⟨lb, 0, none⟩)] LV [blk lb (lcells none db pre most 0 0 none 0 0) 57, blk db (d.cells mb) 74, mp nmv Fl.val mb d.fs] fun v G => v = .bool true ∧ G = [blk lb (lcells none db pre most (z : Int) (w : Int) none 0 0) 57, blk db (d.cells mb) 74, mp nmv Fl.val mb d.fs] := by
 have hzw := hF.zw
 rcases hF.nums with ⟨rfl, rfl, hm⟩ | ⟨hm, hf⟩
 ·
  exact kept00_ok lb db mb d none pre most 0 0 none 0 0 hp hm
 ·
  exact kept1_ok lb db mb d none pre most 0 0 none 0 0 z w hp hm hf (by omega) (by omega) (by omega)
set_option maxHeartbeats 4000000 in
set_option maxRecDepth 20000 in
theorem Open_any (db mb : Nat) (d : Dk) (pre : Nm) (most : Int) (L : List Piece) (z w : Nat) (hd : d.ok) (hp : Pre pre) (hk : ∀ p ∈ d.fs, p.1.length ≤ 64) (hn : d.fs.length ≤ 1000000) (h1 : 256 ≤ most) (h2 : most ≤ 1000000) (hF : Found pre d L z w) : Cn Tryz.prog 32 [.pointer (some ⟨db, 0, none⟩), nmv pre, .int .i64 most] LV [blk db (d.cells mb) 74, mp nmv Fl.val mb d.fs] fun v G => ∃ l ss e, v = .tuple #[.pointer (some ⟨l.lb, 0, none⟩), .int .i64 0] ∧ Opened pre d L z w l ss e ∧ G = [LG db l, blk db (e.cells mb) 74, mp nmv Fl.val mb e.fs] := by
 refine .enter Tryz.func32 rfl (by kernel_rfl) rfl fun R k => ?_
 have h3 := hp.len
 refine .goO fds 9 ?_
 refine .rd (.eqT (m := []) rfl rfl) ?_
 refine .alter (t := 14) (v' := .bool false) rfl (congrArg Value.bool (decide_eq_false hp.ne)) ?_
 refine .go fds 2 ?_
 refine .on (t := 15) rfl rfl ?_
 refine .rd (.lenT rfl rfl Tryz.underlying9 rfl) ?_
 refine .go fds 1 ?_
 refine .alter (t := 18) (v' := .bool false) rfl (congrArg Value.bool (decide_eq_false (by omega))) ?_
 refine .go fds 3 ?_
 refine .on (t := 20) rfl rfl ?_
 refine .fn rfl rfl .nil (fun _ _ _ => trivial) (trim_ok pre abc (by omega) (by decide) (by decide)) (fun v G1 hq => ?_)
 obtain ⟨rfl, rfl⟩ := hq
 simp only [List.nil_append]
 refine .on (t := 20) rfl rfl ?_
 refine .rd (.neT (m := []) rfl rfl) ?_
 refine .alter (t := 23) (v' := .bool false) rfl (congrArg Value.bool (by rw [decide_eq_true (trim_nil.2 hp.abc)]; rfl)) ?_
 refine .go fds 4 ?_
 refine .alter (t := 27) (v' := .bool false) rfl (congrArg Value.bool (decide_eq_false (by omega))) ?_
 refine .go fds 4 ?_
 refine .alter (t := 31) (v' := .bool false) rfl (congrArg Value.bool (decide_eq_false (by omega))) ?_
 refine .goO fds 9 ?_
 refine .rd (.build rfl (bld42_1_2_3 _ _ _)) ?_
 refine .ef (.box (l := lcells none db pre most 0 0 none 0 0) rfl rfl (ones.of rfl)) ?_
 rintro _ _ ⟨lx, rfl, rfl⟩
 refine .goO fds 6 ?_
 refine .fn rfl rfl (.cons .head (.cons .head (.cons .head .nil))) (Knows.pick .head k) (kept_any lx db mb d pre most z w hp hF) (fun v G1 hq => ?_)
 obtain ⟨rfl, rfl⟩ := hq
 simp only [List.cons_append, List.nil_append]
 refine .goO fds 12 ?_
 refine .fn rfl rfl (.cons (.tail .head) (.cons (.tail .head) .nil)) ((Knows.blk .head)) (bases_ok lx db mb d none pre most (z : Int) (w : Int) none 0 0 hk hn hp.len) (fun v G1 hq => ?_)
 obtain ⟨ra, rc, rfl, rfl⟩ := hq
 simp only [List.cons_append, List.nil_append]
 refine .rd (.lenL rfl rfl Tryz.underlying31 rfl) ?_
 refine .goR fds 2 ?_
 refine .perm (.cons (.tail (.tail .head)) (.cons .head (.cons .head (.cons .head (.cons .head .nil))))) ?_
 refine .cast (X' := arr 3 1 ra rc ((L.map (·.1)).flatMap icN)) (by rw [hF.bases]) ?_
 refine .alter (t := 42) (v' := .slice ra L.length rc) rfl (by rw [hF.bases, List.length_map]) ?_
 refine .alter (t := 43) (v' := .int .i64 (L.length : Nat)) rfl (by rw [hF.bases, List.length_map]) ?_
 refine .perm (.cons (.tail (.tail (.tail .head))) (.cons .head (.cons .head (.cons .head (.cons .head .nil))))) ?_
 refine .cast (X' := blk lx (lcells (lastP []) db pre most (z : Int) (w : Int) none (([] : List Sx).map (·.b)).length 0) 57) (rfl) ?_
 refine .nilArr 54 1 none ?_
 refine .cast (X' := arr 54 1 none 0 ((([] : List Sx).map (·.b)).flatMap spb)) rfl ?_
 refine .close (X := bag (SG db) []) .nil (fun _ _ => bag.nil) ?_
 refine .block ?_
 refine .loop (σ := Nat × List Sx × Dk × Option Addr × Nat) (fun ⟨i, ss, e, la, lc⟩ => i ≤ L.length ∧ OpenI pre d L i ss e) (fun ⟨i, ss, e, la, lc⟩ => L.length - i) (fun ⟨i, ss, e, la, lc⟩ => [(0, .pointer (some ⟨db, 0, none⟩)), (8, .pointer (some ⟨lx, 0, none⟩)), (9, .bool true), (42, .slice ra L.length rc), (43, .int .i64 (L.length : Nat)), (44, .int .i64 (i : Nat))]) (fun ⟨i, ss, e, la, lc⟩ => [blk lx (lcells (lastP ss) db pre most (z : Int) (w : Int) la (ss.map (·.b)).length lc) 57, arr 54 1 la lc ((ss.map (·.b)).flatMap spb), bag (SG db) ss, blk db (e.cells mb) 74, mp nmv Fl.val mb e.fs, arr 3 1 ra rc ((L.map (·.1)).flatMap icN), R]) (0, [], d, none, 0) ⟨Nat.zero_le _, .begin pre hd L⟩ (.cons rfl (.cons rfl (.cons rfl (.cons rfl (.cons rfl (.cons rfl .nil)))))) (.cons (.tail (.tail .head)) (.cons (.tail .head) (.cons .head (.cons (.tail .head) (.cons (.tail .head) (.cons .head (.cons .head .nil))))))) (fun s' hI ih => ?_)
 obtain ⟨i, ss, e, la, lc⟩ := s'
 dsimp only at hI ih ⊢
 obtain ⟨hil, hO⟩ := hI
 have hsl := hO.len hil
 have hlL := hF.len
 have hml : (ss.map (·.b)).length = i := by rw [List.length_map]; exact hsl
 refine .go fds 5 ?_
 refine .condP rfl (fun c8 => ?_) (fun c8 => ?_)
 ·
  refine .go fds 4 ?_
  obtain ⟨p, hp0⟩ : ∃ p, L[i]? = some p := ⟨_, List.getElem?_eq_getElem (by omega)⟩
  have hh := hF.holds p (List.mem_of_getElem? hp0)
  have hhl := hh.le
  have hp1 : (L.map (·.1))[i]? = some p.1 := by rw [List.getElem?_map, hp0]; rfl
  refine .tell (φ := ∃ b o, ra = some ⟨b, o, none⟩) ((Knows.arr (.tail (.tail (.tail (.tail (.tail .head)))))).mono fun _ h => RowAt.addr h (by rw [flat_length icN_len, List.length_map]; omega)) (fun hh => ?_)
  obtain ⟨b9, o9, h9⟩ := hh
  refine .region ?_
  refine .rd (.indexAddr (b := b9) (o := o9) Tryz.underlying31 ts3 (by show some (Value.slice ra _ _) = _; rw [h9]) rfl (by omega) (by omega)) ?_
  refine .rd (.load na3 rfl (Knows.one (i := 0) (Knows.elem (f := icN) icN_len (by decide) ((Knows.arr (.tail (.tail (.tail (.tail (.tail .head)))))).mono fun _ h => h9 ▸ h) hp1) rfl)) ?_
  refine .goO fds 8 ?_
  refine .rd (.ld na40 rfl .head rfl) ?_
  refine .rd (.lenL rfl rfl Tryz.underlying55 rfl) ?_
  refine .goR fds 2 ?_
  refine .joinEx (σ := Unit) (φ := fun _ => True) (E' := fun _ => [(0, .pointer (some ⟨db, 0, none⟩)), (8, .pointer (some ⟨lx, 0, none⟩)), (9, .bool true), (42, .slice ra L.length rc), (43, .int .i64 (L.length : Nat)), (44, .int .i64 (i : Nat)), (11, .int .i64 (p.1 : Nat))]) (Γ' := fun _ => [blk lx (lcells (lastP ss) db pre most (z : Int) (w : Int) la (ss.map (·.b)).length lc) 57, arr 54 1 la lc ((ss.map (·.b)).flatMap spb), bag (SG db) ss, blk db (e.cells mb) 74, mp nmv Fl.val mb e.fs, arr 3 1 ra rc ((L.map (·.1)).flatMap icN), R]) (fun sj hj => ?_) (fun fin => ?_)
  ·
   skip
   refine .goO fds 6 ?_
   refine .on (t := 74) rfl rfl ?_
   refine .fn rfl rfl (.cons .head (.cons .head (.cons (.tail .head) (.cons (.tail .head) .nil)))) (Knows.pick (.tail (.tail .head)) k) (ladd_ok lx db mb e (lastP ss) pre most (z : Int) (w : Int) la lc (ss.map (·.b)) p.1 p.2.1 p.2.2 hO.dok hp hhl (.inl (by rw [hO.get]; exact hh.get)) (by rw [hO.here hF.nodup hp0]; exact hh.file) hh.stop hh.chain hh.good hh.len (by have := hF.len; omega)) (fun v G1 hq => ?_)
   obtain ⟨sb, sm, aa, ac, ia, ic, qa, qc, rfl, hix, hca, rfl⟩ := hq
   simp only [List.cons_append, List.nil_append]
   refine .goR fds 4 ?_
   refine .pack (L := [blk sb ((Sx.mk sb (nameOf pre p.1) (p.1 : Int) p.2.1 sm aa ac ia ic).cells db) 110, arr 112 4 aa ac (Sx.mk sb (nameOf pre p.1) (p.1 : Int) p.2.1 sm aa ac ia ic).rows, arr 3 1 ia ic (sm.flatMap icN)]) (.cons (.tail (.tail (.tail (.tail .head)))) (.cons (.tail (.tail (.tail (.tail .head)))) (.cons (.tail (.tail (.tail (.tail .head)))) .nil))) ?_
   refine .close (X := bag (SG db) (ss ++ [(Sx.mk sb (nameOf pre p.1) (p.1 : Int) p.2.1 sm aa ac ia ic)])) (.cons .head (.cons (.tail (.tail (.tail (.tail .head)))) .nil)) (fun h H => put_segs (ini := ss) (s := (Sx.mk sb (nameOf pre p.1) (p.1 : Int) p.2.1 sm aa ac ia ic)) H) ?_
   refine .perm (.cons (.tail .head) (.cons .head (.cons .head (.cons .head (.cons .head (.cons .head (.cons .head .nil))))))) ?_
   refine .cast (X' := blk lx (lcells (lastP (ss ++ [(Sx.mk sb (nameOf pre p.1) (p.1 : Int) p.2.1 sm aa ac ia ic)])) db pre most (z : Int) (w : Int) qa ((ss ++ [(Sx.mk sb (nameOf pre p.1) (p.1 : Int) p.2.1 sm aa ac ia ic)]).map (·.b)).length qc) 57) (by rw [lastP_snoc, List.map_append]; rfl) ?_
   refine .perm (.cons (.tail (.tail .head)) (.cons .head (.cons .head (.cons .head (.cons .head (.cons .head (.cons .head .nil))))))) ?_
   refine .cast (X' := arr 54 1 qa qc (((ss ++ [(Sx.mk sb (nameOf pre p.1) (p.1 : Int) p.2.1 sm aa ac ia ic)]).map (·.b)).flatMap spb)) (by rw [List.map_append]; rfl) ?_
   refine .goO fds 9 ?_
   refine .rd (.add rfl rfl (by omega) (by omega)) ?_
   refine .goR fds 2 ?_
   exact (ih (i + 1, ss ++ [(Sx.mk sb (nameOf pre p.1) (p.1 : Int) p.2.1 sm aa ac ia ic)], (e.put (nameOf pre p.1) ⟨flat p.2.1, (flat p.2.1).length⟩), qa, qc) ⟨by show i + 1 ≤ _; omega, hO.step hF.nodup hp0 hh hix hca⟩ (by show L.length - (i + 1) < L.length - i; omega)).to (.cons rfl (.cons rfl (.cons rfl (.cons rfl (.cons rfl (.cons rfl .nil)))))) (.cons (.tail .head) (.cons .head (.cons .head (.cons .head (.cons .head (.cons .head (.cons .head .nil)))))))
  ·
   refine .condP rfl (fun c10 => ?_) (fun c10 => ?_)
   ·
    have hi0 : i = 0 := by omega
    have hle : (p.1 : Int) ≤ (z : Int) := hF.first (hi0 ▸ hp0)
    refine .goO fds 7 ?_
    refine .on (t := 55) rfl rfl ?_
    refine .rd (.ld na3 rfl .head rfl) ?_
    refine .go fds 1 ?_
    refine .alter (t := 61) (v' := .bool true) rfl (congrArg Value.bool (decide_eq_true hle)) ?_
    refine .goR fds 3 ?_
    exact fin () trivial (.cons rfl (.cons rfl (.cons rfl (.cons rfl (.cons rfl (.cons rfl (.cons rfl .nil))))))) (.cons .head (.cons .head (.cons .head (.cons .head (.cons .head (.cons .head (.cons .head .nil)))))))
   ·
    obtain ⟨r, y, hry, hyi, hlp, hyok, hnx⟩ := hO.ahead hF hil (by omega) hp0
    refine .goO fds 7 ?_
    refine .on (t := 64) rfl rfl ?_
    refine .rd (.ld na39 rfl .head rfl) ?_
    refine .alter (t := 69) (v' := .pointer (some ⟨y.b, 0, none⟩)) rfl (by rw [hlp]) ?_
    refine .on (t := 64) rfl rfl ?_
    refine .fn rfl rfl .nil ((Knows.allSG (.tail (.tail .head))).mono fun _ h => h y hyi) (Next_ok db y hyok) (fun v G1 hq => ?_)
    obtain ⟨rfl, rfl⟩ := hq
    simp only [List.nil_append]
    refine .go fds 1 ?_
    refine .alter (t := 71) (v' := .bool true) rfl (congrArg Value.bool (decide_eq_true hnx)) ?_
    refine .goR fds 3 ?_
    exact fin () trivial (.cons rfl (.cons rfl (.cons rfl (.cons rfl (.cons rfl (.cons rfl (.cons rfl .nil))))))) (.cons .head (.cons .head (.cons .head (.cons .head (.cons .head (.cons .head (.cons .head .nil)))))))
 ·
  refine .go fds 3 ?_
  obtain rfl : i = L.length := by omega
  obtain ⟨r, y, hry, hyi, hlp, hyok, hyz⟩ := hO.end_ hF
  have hzw := hF.zw
  have hLl : 0 < L.length := List.length_pos_iff.2 hF.nonil
  have hyn := hyok.next_le
  have hok := hO.log hF hp hry h1 h2 lx la lc
  refine .draws [3, 10, 15] [blk lx (lcells (lastP ss) db pre most (z : Int) (w : Int) la (ss.map (·.b)).length lc) 57] (by kernel_rfl) ?_
  refine .goD fds [0] ?_
  refine .goD fds [1] ?_
  refine .goD fds [2] ?_
  refine .rd 3 rfl rfl (by kernel_rfl) (by kernel_rfl) (by kernel_rfl) (.ld na40 rfl .head rfl) (.cons .head .nil) ?_
  refine .rp 4 rfl (by kernel_rfl) (by kernel_rfl) (by kernel_rfl) (Reads.pure (.lenL rfl rfl Tryz.underlying55 rfl)) ?_
  refine .goD fds [5] ?_
  refine .alter (t := 93) (v' := .bool false) rfl (congrArg Value.bool (decide_eq_false (by omega))) ?_
  refine .goD fds [6] ?_
  refine .goD fds [7] ?_
  refine .goD fds [8] ?_
  refine .goD fds [9] ?_
  refine .rdG 10 (t := 94) rfl rfl rfl rfl (by kernel_rfl) (by kernel_rfl) (by kernel_rfl) (.ld na39 rfl .head rfl) (.cons .head .nil) ?_
  refine .alter (t := 98) (v' := .pointer (some ⟨y.b, 0, none⟩)) rfl (by rw [hlp]) ?_
  refine .goD fds [12] ?_
  refine .goD fds [13] ?_
  refine .goD fds [14] ?_
  refine .rdG 15 (t := 94) rfl rfl rfl rfl (by kernel_rfl) (by kernel_rfl) (by kernel_rfl) (.ld na3 rfl .head rfl) (.cons .head .nil) ?_
  refine .efG 11 (t := 94) (by kernel_rfl) rfl rfl rfl (.fn rfl rfl .nil ((Knows.allSG (.tail (.tail .head))).mono fun _ h => h y hyi) (Next_ok db y hyok)) ?_
  rintro v _ ⟨G1, hq, rfl⟩
  obtain ⟨rfl, rfl⟩ := hq
  simp only [List.nil_append]
  refine ⟨.inr ⟨_, (.cons .head .nil)⟩, ?_⟩
  refine .goD fds [16] ?_
  refine .alter (t := 104) (v' := .bool false) rfl (congrArg Value.bool (decide_eq_false (by omega))) ?_
  refine .goD fds [17] ?_
  refine .done (by kernel_rfl) ?_
  refine .go fds 3 ?_
  refine .draws [4, 8] [blk lx (lcells (lastP ss) db pre most (z : Int) (w : Int) la (ss.map (·.b)).length lc) 57] (by kernel_rfl) ?_
  refine .goD fds [0] ?_
  refine .goD fds [1] ?_
  refine .goD fds [2] ?_
  refine .goD fds [3] ?_
  refine .rd 4 rfl rfl (by kernel_rfl) (by kernel_rfl) (by kernel_rfl) (.ld na3 rfl .head rfl) (.cons .head .nil) ?_
  refine .goD fds [5] ?_
  refine .goD fds [6] ?_
  refine .goD fds [7] ?_
  refine .rd 8 rfl rfl (by kernel_rfl) (by kernel_rfl) (by kernel_rfl) (.ld na39 rfl .head rfl) (.cons .head .nil) ?_
  refine .alter (t := 123) (v' := .pointer (some ⟨y.b, 0, none⟩)) rfl (by rw [hlp]) ?_
  refine .ef 9 (by kernel_rfl) rfl (.fn rfl rfl .nil ((Knows.allSG (.tail (.tail .head))).mono fun _ h => h y hyi) (Next_ok db y hyok)) ?_
  rintro v _ ⟨G1, hq, rfl⟩
  obtain ⟨rfl, rfl⟩ := hq
  simp only [List.nil_append]
  refine ⟨.inr ⟨_, (.cons .head .nil)⟩, ?_⟩
  refine .rp 10 rfl (by kernel_rfl) (by kernel_rfl) (by kernel_rfl) (Reads.pure (.min2 rfl rfl rfl)) ?_
  refine .alter (t := 125) (v' := .int .i64 (min (w : Int) y.next)) rfl (congrArg (Value.int .i64) (by omega)) ?_
  refine .goD fds [11] ?_
  refine .goD fds [12] ?_
  refine .ef0 13 (by kernel_rfl) rfl (.store ts3 rfl rfl .head rfl (Nat.le_of_ble_eq_true rfl)) ?_
  rintro _ _ rfl
  refine ⟨.inl (by kernel_rfl), ?_⟩
  refine .done (by kernel_rfl) ?_
  refine .go fds 6 ?_
  refine .cast (X' := blk (Lx.mk lx pre most z (min (w : Int) y.next) r y la lc).lb ((Lx.mk lx pre most z (min (w : Int) y.next) r y la lc).cells db) 57) (by rw [hlp, hml, show L.length = r.length + 1 by rw [← hsl, hry, List.length_append]; rfl]; rfl) ?_
  refine .perm (.cons (.tail .head) (.cons .head (.cons .head (.cons .head (.cons .head (.cons .head (.cons .head .nil))))))) ?_
  refine .cast (X' := arr 54 1 (Lx.mk lx pre most z (min (w : Int) y.next) r y la lc).la (Lx.mk lx pre most z (min (w : Int) y.next) r y la lc).lc ((Lx.mk lx pre most z (min (w : Int) y.next) r y la lc).segs.flatMap sp)) (by rw [hry, List.flatMap_map]; rfl) ?_
  refine .perm (.cons (.tail (.tail .head)) (.cons .head (.cons .head (.cons .head (.cons .head (.cons .head (.cons .head .nil))))))) ?_
  refine .cast (X' := bag (SG db) (Lx.mk lx pre most z (min (w : Int) y.next) r y la lc).segs) (by rw [hry]; rfl) ?_
  refine .pack (L := [blk (Lx.mk lx pre most z (min (w : Int) y.next) r y la lc).lb ((Lx.mk lx pre most z (min (w : Int) y.next) r y la lc).cells db) 57, arr 54 1 (Lx.mk lx pre most z (min (w : Int) y.next) r y la lc).la (Lx.mk lx pre most z (min (w : Int) y.next) r y la lc).lc ((Lx.mk lx pre most z (min (w : Int) y.next) r y la lc).segs.flatMap sp), bag (SG db) (Lx.mk lx pre most z (min (w : Int) y.next) r y la lc).segs]) (.cons (.tail (.tail .head)) (.cons (.tail .head) (.cons .head .nil))) ?_
  refine .retP Tryz.func32 (.cons (.tmp rfl) (.cons (.tmp rfl) .nil)) (.cons .head (.cons .head (.cons .head (.cons (.tail .head) .nil)))) ?_
  exact ⟨[_, _, _], ⟨(Lx.mk lx pre most z (min (w : Int) y.next) r y la lc), ss, e, rfl, ⟨hok, hO, hry.symm, rfl, rfl⟩, rfl⟩, rfl⟩
end Go.Proofs.YtoglbebcdjdkiaaGreatDoor
namespace Go.Proofs.YtoglbebcdjdkiaaGreatDoor
open Go Go.Sp
namespace sh13
end sh13
open sh13
set_option maxHeartbeats 8000000 in
set_option maxRecDepth 20000 in
theorem shown_ok : Cn Tryz.prog 7 [] LV [] fun v G => v = .bool true ∧ G = [] := by
 refine .enter Tryz.func7 rfl (by kernel_rfl) rfl fun R k => ?_
 refine .goO fds 6 ?_
 refine .fn rfl rfl .nil (fun _ _ _ => trivial) (New_ok 100000 (by decide) (by decide)) (fun v G1 hq => ?_)
 obtain ⟨db, mb, rfl, rfl⟩ := hq
 simp only [List.cons_append, List.nil_append]
 refine .goO fds 10 ?_
 refine .rd (.eqNilP Tryz.underlying24 rfl rfl) ?_
 refine .goO fds 10 ?_
 refine .fn rfl rfl (.cons .head (.cons .head .nil)) (Knows.pick .head (k.mono fun _ h => h)) (OpenS_ok db mb (Dk.mk 100000 []) [112] 256 [] [] (fun l d' => OpenTo [112] 256 (Dk.mk 100000 []) l d') (Open_ok7 db mb (Dk.mk 100000 []) [112] 256 (dkz_ok (by decide)) pre1 (dkz_short _) (Nat.zero_lt_succ _) (dkz_free _ _) (by decide) (by decide)) (fun l e h => openF_new (.inr h) (by decide))) (fun v G1 hq => ?_)
 obtain ⟨s0, e0, d0, rfl, hO0, hS0, rfl⟩ := hq
 simp only [List.cons_append, List.nil_append]
 obtain ⟨hb0, hp0⟩ := new_store hO0 (by decide) hS0
 obtain ⟨hn0, ha0, ht0⟩ := base0 hb0 hp0
 have ho0 := new_old (z := 0) (m := 0) (e := d0) hp0 ha0 ht0
 have hb0' := hb0.mono (Nat.le_refl _) (Nat.le_refl _) (show (0 : Int) ≤ 2 by decide)
 refine .goO fds 10 ?_
 refine .rd (.eqNilP Tryz.underlying28 rfl rfl) ?_
 refine .go fds 6 ?_
 refine .on (t := 34) rfl rfl ?_
 refine .fn rfl rfl .nil (SS.cells .head) (LogS_ok db s0) (fun v G1 hq => ?_)
 obtain ⟨rfl, rfl⟩ := hq
 simp only [List.nil_append]
 refine .on (t := 34) rfl rfl ?_
 refine .rd (.eqNilP Tryz.underlying48 rfl rfl) ?_
 refine .go fds 3 ?_
 refine .on (t := 39) rfl rfl ?_
 refine .fn rfl rfl .nil (SS.cells .head) (CacheS_ok db s0) (fun v G1 hq => ?_)
 obtain ⟨rfl, rfl⟩ := hq
 simp only [List.nil_append]
 refine .on (t := 39) rfl rfl ?_
 refine .rd (.eqNilP Tryz.underlying65 rfl rfl) ?_
 refine .go fds 3 ?_
 refine .on (t := 44) rfl rfl ?_
 refine .fn rfl rfl .nil (SS.cells .head) (TableS_ok db s0) (fun v G1 hq => ?_)
 obtain ⟨rfl, rfl⟩ := hq
 simp only [List.nil_append]
 refine .on (t := 44) rfl rfl ?_
 refine .rd (.eqNilP Tryz.underlying36 rfl rfl) ?_
 refine .goO fds 7 ?_
 refine .fn rfl rfl .nil (fun _ _ _ => trivial) (small_ok 2 7 0 1 (by decide)) (fun v G1 hq => ?_)
 obtain ⟨ra, rc, rfl, rfl⟩ := hq
 simp only [List.cons_append, List.nil_append]
 have hs0 := smok 0 s0.l.next (by decide) (by omega)
 have hlt0 : late (notesOf (pur s0.t.m) 7) (smB 2 7 0 0 1 s0.l.next) = false := by rw [ht0, hn0]; exact asks.2.2.2
 have hq0 := hs0.enc
 have hus0 := hb0'.usd
 have hsz0 := hb0'.size
 have hsg0 := hb0'.segs
 have hln0 := hb0'.len
 have hesl0 := hb0'.esl
 refine .fn rfl rfl (.cons (.tail .head) (.cons (.tail .head) (.cons (.tail .head) .nil))) ((Knows.pick (.tail .head) k).and (Knows.arr .head)) (AppendS_ok db mb d0 s0 (smB 2 7 0 0 1 0) ra rc hb0'.dok hb0'.ok hb0'.own hb0'.nm hb0'.es hb0'.holdsE (by omega) hb0'.tab.toTabOk (by omega) (by omega) (by omega) hs0.good hs0.ep hb0'.last (by decide) hlt0 (by show Dk.used d0 + 8040 + (enc (smB 2 7 0 0 1 s0.l.next)).length ≤ _; omega)) (fun v G1 hq => ?_)
 obtain ⟨s1, d1, rfl, hA0', rfl⟩ := hq
 simp only [List.cons_append, List.nil_append]
 refine .alter (t := 52) (v' := .tuple #[.int .i64 0, .int .i64 0]) rfl (by rw [hn0]) ?_
 have hA0 : TookTo s0 d0 (smB 2 7 0 0 1 s0.l.next) s1 d1 := hA0'
 have hb1 := hb0'.took hA0 hs0 (Int.le_refl _) (by decide) (by decide) hlt0 ⟨by decide, by decide⟩ (by decide)
 have ho1 := ho0.took hb0' hA0 hs0 (Int.le_refl _) (by decide) hlt0 ⟨by decide, by decide⟩ (by decide)
 have hn1 : s1.l.next = 1 := by rw [hA0.app.next, sm_en, hn0]; rfl
 have ht1 : pur s1.t.m = [(7, [n0])] := by rw [hA0.t, ht0, hn0]; exact tabs.1
 have ha1 : s1.l.all = [smB 2 7 0 0 1 0] := by rw [hA0.app.all, ha0, hn0]; rfl
 refine .goR fds 6 ?_
 refine .alter (t := 3) (v' := .pointer (some ⟨s1.sx, 0, none⟩)) rfl (by rw [hA0.sx]; try rfl) ?_
 refine .goO fds 3 ?_
 refine .fn rfl rfl .nil (fun _ _ _ => trivial) (small_ok 2 7 1 1 (by decide)) (fun v G1 hq => ?_)
 obtain ⟨ra, rc, rfl, rfl⟩ := hq
 simp only [List.cons_append, List.nil_append]
 have hs1 := smok 1 s1.l.next (by decide) (by omega)
 have hlt1 : late (notesOf (pur s1.t.m) 7) (smB 2 7 0 1 1 s1.l.next) = false := by rw [ht1, hn1]; exact asks.2.2.1
 have hq1 := hs1.enc
 have hus1 := hb1.usd
 have hsz1 := hb1.size
 have hsg1 := hb1.segs
 have hln1 := hb1.len
 have hesl1 := hb1.esl
 refine .fn rfl rfl (.cons (.tail .head) (.cons (.tail .head) (.cons (.tail .head) .nil))) ((Knows.pick (.tail (.tail .head)) k).and (Knows.arr .head)) (AppendS_ok db mb d1 s1 (smB 2 7 0 1 1 0) ra rc hb1.dok hb1.ok hb1.own hb1.nm hb1.es hb1.holdsE (by omega) hb1.tab.toTabOk (by omega) (by omega) (by omega) hs1.good hs1.ep hb1.last (by decide) hlt1 (by show Dk.used d1 + 8040 + (enc (smB 2 7 0 1 1 s1.l.next)).length ≤ _; omega)) (fun v G1 hq => ?_)
 obtain ⟨s2, d2, rfl, hA1', rfl⟩ := hq
 simp only [List.cons_append, List.nil_append]
 refine .alter (t := 58) (v' := .tuple #[.int .i64 1, .int .i64 0]) rfl (by rw [hn1]) ?_
 have hA1 : TookTo s1 d1 (smB 2 7 0 1 1 s1.l.next) s2 d2 := hA1'
 have hb2 := hb1.took hA1 hs1 (Int.le_refl _) (by decide) (by decide) hlt1 ⟨by decide, by decide⟩ (by decide)
 have ho2 := ho1.took hb1 hA1 hs1 (Int.le_refl _) (by decide) hlt1 ⟨by decide, by decide⟩ (by decide)
 have hn2 : s2.l.next = 2 := by rw [hA1.app.next, sm_en, hn1]; rfl
 have ht2 : pur s2.t.m = [(7, [n0, n1])] := by rw [hA1.t, ht1, hn1]; exact tabs.2.1
 have ha2 : s2.l.all = [smB 2 7 0 0 1 0, smB 2 7 0 1 1 1] := by rw [hA1.app.all, ha1, hn1]; rfl
 refine .goR fds 6 ?_
 refine .alter (t := 3) (v' := .pointer (some ⟨s2.sx, 0, none⟩)) rfl (by rw [hA1.sx]; try rfl) ?_
 refine .goO fds 3 ?_
 refine .fn rfl rfl .nil (fun _ _ _ => trivial) (small_ok 1 0 0 1 (by decide)) (fun v G1 hq => ?_)
 obtain ⟨ra, rc, rfl, rfl⟩ := hq
 simp only [List.cons_append, List.nil_append]
 have hl2 : lastE s2.c.es = 2 := by rw [hA1.es]; exact nextE_last hb1.last
 refine .fn rfl rfl (.cons (.tail .head) .nil) (fun _ _ _ => trivial) (AppendNo_ok db d2 s2 (smB 1 0 0 0 1 0) ra rc hb2.ok hb2.es (by rw [hl2]; decide)) (fun v G1 hq => ?_)
 obtain ⟨rfl, rfl⟩ := hq
 simp only [List.cons_append, List.nil_append]
 refine .goR fds 7 ?_
 refine .unpack (L := [blk s2.sx (s2.cells db) 80, LG db s2.l, CG db s2.c, TG s2.t]) .head ?_
 simp only [List.cons_append, List.nil_append]
 refine .goO fds 2 ?_
 refine .fn rfl rfl .nil (Knows.blk .head) (TableS_ok db s2) (fun v G1 hq => ?_)
 obtain ⟨rfl, rfl⟩ := hq
 simp only [List.nil_append]
 refine .fn rfl rfl (.cons (.tail (.tail (.tail .head))) .nil) (fun _ _ _ => trivial) (Ask_ok s2.t 7 0 0 1 hb2.tab.toTabOk ⟨by decide, by decide⟩ ⟨by decide, by decide⟩ ⟨by decide, by decide⟩ ⟨by decide, by decide⟩) (fun v G1 hq => ?_)
 obtain ⟨rfl, rfl⟩ := hq
 simp only [List.cons_append, List.nil_append]
 refine .alter (t := 70) (v' := .tuple #[.int .i64 0, .int .i64 0]) rfl (by rw [show ask (pur s2.t.m) 7 0 0 1 = (0, 0) from by rw [ht2]; exact asks.1]) ?_
 refine .goR fds 6 ?_
 refine .pack (L := [blk (s2).sx (St.cells (s2) db) 80, LG db (s2).l, CG db (s2).c, TG (s2).t]) (.cons (.tail .head) (.cons (.tail .head) (.cons (.tail .head) (.cons .head .nil)))) ?_
 refine .goO fds 31 ?_
 refine .on (t := 99) rfl rfl ?_
 refine .fn rfl rfl .nil (SS.cells .head) (CacheS_ok db s2) (fun v G1 hq => ?_)
 obtain ⟨rfl, rfl⟩ := hq
 simp only [List.nil_append]
 refine .on (t := 99) rfl rfl ?_
 refine .fn rfl rfl .nil (SS.cache .head) (Last_ok db s2.c (by have := hb2.es.len; omega)) (fun v G1 hq => ?_)
 obtain ⟨rfl, rfl⟩ := hq
 simp only [List.nil_append]
 refine .alter (t := 102) (v' := .int .i64 2) rfl (by rw [hl2]) ?_
 refine .go fds 4 ?_
 refine .on (t := 105) rfl rfl ?_
 refine .fn rfl rfl (.cons .head (.cons (.tail .head) (.cons (.tail .head) .nil))) (fun _ _ _ => trivial) (SyncS_ok db mb d2 s2 hb2.dok hb2.ok) (fun v G1 hq => ?_)
 obtain ⟨rfl, rfl⟩ := hq
 simp only [List.cons_append, List.nil_append]
 have hbY := hb2.sync
 have hoY := ho2.sync hb2
 have hyY := synced s2.l d2
 generalize sync s2.l d2 = d3 at hbY hoY hyY ⊢
 refine .go fds 4 ?_
 refine .on (t := 110) rfl rfl ?_
 have hkl := keepT_len hbY
 have husY := hbY.usd
 have hszY := hbY.size
 have hlnY := hbY.len
 have hfw := hbY.few
 have htz := hbY.tsz
 have hst0 : s2.l.start = 0 := by rw [hA1.app.start, hA0.app.start]; exact hp0.start
 have hin1 : ∃ b ∈ s2.l.all, b.base = ((1 : Nat) : Int) := ⟨smB 2 7 0 1 1 1, by rw [ha2]; exact .tail _ (.head _), rfl⟩
 refine .fn rfl rfl (.cons .head (.cons .head (.cons .head .nil))) (Knows.pick (.tail (.tail (.tail .head))) k) (DeleteS_ok db mb d3 s2 1 hbY.dok hbY.ok hbY.nm hbY.es hbY.tab.toTabOk (by omega) (by unfold pur at hfw; rw [List.length_map] at hfw; omega) (by omega) (by omega) (.inr hin1) (by omega) (by omega)) (fun v G1 hq => ?_)
 obtain ⟨s3, d4, rfl, hD, rfl⟩ := hq
 simp only [List.cons_append, List.nil_append]
 have hb3 := hbY.del (by decide) hD hin1 ⟨by decide, by decide⟩ (.inr ⟨by decide, by decide, by decide⟩)
 have ho3 := hoY.del hbY hD hin1 (by omega) ⟨by decide, by decide⟩ (.inr ⟨by decide, by decide, by decide⟩)
 have hy3 := hyY.del hbY hD ⟨by decide, by decide⟩
 have hln3 := hb3.len
 refine .goO fds 8 ?_
 refine .knowT (RowAt none (([] : List Int).flatMap icI)) (fun _ => .inl rfl) ?_
 refine .fn rfl rfl (.cons (.tail (.tail .head)) (.cons (.tail (.tail .head)) (.cons .head .nil))) (fun _ _ _ => trivial) (Crash_ok db mb d4 _ none [] 0 hb3.dok hb3.short.all (by omega) rfl (Nat.le_refl _) nil_all (by decide)) (fun v G1 hq => ?_)
 obtain ⟨e, hC, rfl⟩ := hq
 simp only [List.cons_append, List.nil_append]
 have hke : e.fs.length = d4.fs.length := by have := congrArg List.length hC.keys; rwa [List.length_map, List.length_map] at this
 have hse : Short e := fun n hn => hb3.short n (by rw [← hC.get]; exact hn)
 refine .goO fds 4 ?_
 refine .fn rfl rfl (.cons .head (.cons .head .nil)) (Knows.pick (.tail (.tail (.tail (.tail .head)))) k) (OpenS_ok db mb e [112] 256 s3.c.es (rowsT (pur s2.t.m)) (fun l d' => Again s3 d4 s3.l.cur.bs.length l d' ∧ l.all = s3.l.all ∧ l.next = s3.l.next) (reopen_ok db mb 256 hb3 ho3 hy3 hC ⟨by decide, by decide⟩ (by decide) (by decide) (fun L z w hF => Open_any db mb e [112] 256 L z w hC.dok pre1 hse.all (by omega) (by decide) (by decide) hF)) (fun l e2 h => openF_old hb3 ho3 h.1 ⟨by decide, by decide⟩ (by decide))) (fun v G1 hq => ?_)
 obtain ⟨s4, e2, d5, rfl, hφ, hS4, rfl⟩ := hq
 simp only [List.cons_append, List.nil_append]
 obtain ⟨hb4, ho4⟩ := again_kept hb3 ho3 (by decide) hφ.1 hS4 ⟨by decide, by decide⟩ (by decide)
 obtain ⟨ht4, hst4⟩ := shown_tab ha2 ht2 hb2.tab.toTabOk hD hφ.2.1 hφ.1.start hS4
 refine .goO fds 10 ?_
 refine .rd (.eqNilP Tryz.underlying28 rfl rfl) ?_
 refine .go fds 6 ?_
 refine .on (t := 128) rfl rfl ?_
 refine .fn rfl rfl .nil (SS.cells .head) (LogS_ok db s4) (fun v G1 hq => ?_)
 obtain ⟨rfl, rfl⟩ := hq
 simp only [List.nil_append]
 refine .on (t := 128) rfl rfl ?_
 refine .fn rfl rfl .nil ((SS.log .head).mono fun _ h => h.1) (Start_ok s4.l.lb db (some ⟨s4.l.cur.b, 0, none⟩) s4.l.pre s4.l.most s4.l.start s4.l.high s4.l.la (s4.l.ini.length + 1) s4.l.lc) (fun v G1 hq => ?_)
 obtain ⟨rfl, rfl⟩ := hq
 simp only [List.nil_append]
 refine .alter (t := 131) (v' := .int .i64 1) rfl (congrArg (Value.int .i64) hst4) ?_
 refine .goR fds 6 ?_
 refine .unpack (L := [blk s4.sx (s4.cells db) 80, LG db s4.l, CG db s4.c, TG s4.t]) .head ?_
 simp only [List.cons_append, List.nil_append]
 refine .goO fds 2 ?_
 refine .fn rfl rfl .nil (Knows.blk .head) (TableS_ok db s4) (fun v G1 hq => ?_)
 obtain ⟨rfl, rfl⟩ := hq
 simp only [List.nil_append]
 refine .fn rfl rfl (.cons (.tail (.tail (.tail .head))) .nil) (fun _ _ _ => trivial) (Ask_ok s4.t 7 0 0 1 hb4.tab.toTabOk ⟨by decide, by decide⟩ ⟨by decide, by decide⟩ ⟨by decide, by decide⟩ ⟨by decide, by decide⟩) (fun v G1 hq => ?_)
 obtain ⟨rfl, rfl⟩ := hq
 simp only [List.cons_append, List.nil_append]
 refine .alter (t := 137) (v' := .tuple #[.int .i64 0, .int .i64 0]) rfl (by rw [show ask (pur s4.t.m) 7 0 0 1 = (0, 0) from by rw [ht4]; exact asks.1]) ?_
 refine .goR fds 6 ?_
 refine .pack (L := [blk (s4).sx (St.cells (s4) db) 80, LG db (s4).l, CG db (s4).c, TG (s4).t]) (.cons (.tail .head) (.cons (.tail .head) (.cons (.tail .head) (.cons .head .nil)))) ?_
 refine .goO fds 11 ?_
 refine .on (t := 146) rfl rfl ?_
 have hn4 : s4.l.next = 2 := by rw [hφ.2.2]; obtain ⟨_, h1, _⟩ := hD.del; exact (show s3.l.cur.next = s2.l.cur.next by rw [h1.cur]).trans hn2
 have hcn := ho4.cut_next hb4 (off := 1) (by omega)
 have hus4 := hb4.usd
 have hsz4 := hb4.size
 have hln4 := hb4.len
 refine .fn rfl rfl (.cons .head (.cons .head (.cons .head .nil))) (Knows.pick (.tail (.tail (.tail (.tail .head)))) k) (CutS_ok db mb d5 s4 1 hb4.dok hb4.ok hb4.nm hb4.es hb4.tab.toTabOk (by omega) (by omega) (by omega) hcn.1 (by omega)) (fun v G1 hq => ?_)
 obtain ⟨s5, d6, rfl, hC5, rfl⟩ := hq
 simp only [List.cons_append, List.nil_append]
 have hn5 : s5.l.next = 1 := by
  obtain ⟨e5, h1, _⟩ := hC5.cut
  have h2 := h1.ok.nextOf
  rw [h1.all, h1.base] at h2
  omega
 have ht5 : pur s5.t.m = [(7, [n0])] := by rw [hC5.t, hn5, ht4]; exact tabs.2.2.2
 have hT5 : TabW (pur s5.t.m) := by rw [hC5.t]; exact hb4.tab.cut _
 refine .goR fds 3 ?_
 refine .alter (t := 12) (v' := .pointer (some ⟨s5.sx, 0, none⟩)) rfl (by rw [hC5.sx]; try rfl) ?_
 refine .go fds 3 ?_
 refine .unpack (L := [blk s5.sx (s5.cells db) 80, LG db s5.l, CG db s5.c, TG s5.t]) .head ?_
 simp only [List.cons_append, List.nil_append]
 refine .goO fds 2 ?_
 refine .fn rfl rfl .nil (Knows.blk .head) (TableS_ok db s5) (fun v G1 hq => ?_)
 obtain ⟨rfl, rfl⟩ := hq
 simp only [List.nil_append]
 refine .fn rfl rfl (.cons (.tail (.tail (.tail .head))) .nil) (fun _ _ _ => trivial) (Ask_ok s5.t 7 0 1 1 hT5.toTabOk ⟨by decide, by decide⟩ ⟨by decide, by decide⟩ ⟨by decide, by decide⟩ ⟨by decide, by decide⟩) (fun v G1 hq => ?_)
 obtain ⟨rfl, rfl⟩ := hq
 simp only [List.cons_append, List.nil_append]
 refine .alter (t := 154) (v' := .tuple #[.int .i64 (-1), .int .i64 0]) rfl (by rw [show ask (pur s5.t.m) 7 0 1 1 = (-1, 0) from by rw [ht5]; exact asks.2.1]) ?_
 refine .goR fds 6 ?_
 refine .pack (L := [blk (s5).sx (St.cells (s5) db) 80, LG db (s5).l, CG db (s5).c, TG (s5).t]) (.cons (.tail .head) (.cons (.tail .head) (.cons (.tail .head) (.cons .head .nil)))) ?_
 refine .go fds 10 ?_
 refine .retP Tryz.func7 (.cons (.tmp rfl) .nil) (.cons (.tail (.tail (.tail (.tail (.tail (.tail (.tail .head))))))) .nil) ?_
 exact ⟨[], ⟨rfl, rfl⟩, rfl⟩
end Go.Proofs.YtoglbebcdjdkiaaGreatDoor
namespace Go.Proofs.YtoglbebcdjdkiaaGreatDoor
open Go Go.Sp
namespace ag13
theorem na54 : NotAgg Tryz.prog 54 := ⟨_, Tryz.underlying54, trivial⟩
theorem na3 : NotAgg Tryz.prog 3 := ⟨_, Tryz.underlying3, trivial⟩
end ag13
open ag13
set_option maxHeartbeats 8000000 in
set_option maxRecDepth 20000 in
theorem StoreAgain_ok (ta : Option Addr) (ts : List Ty) (tc : Nat) (ka : Option Addr) (kl : List Int) (kc : Nat) (y : Ty) (hts : ∀ y ∈ ts, y.ok) (hsl : ts.length ≤ 140737488351232) (hkc : kl.length ≤ kc) (hki : ∀ x ∈ kl, i64 x) (hkl : kl.length ≤ 140737488351232) (hy : y.ok) : Cn Tryz.prog 5 [.slice ta ts.length tc, .slice ka kl.length kc, .agg y.cells.toArray] (fun _ => True) [know fun w => LV w ∧ RowAt ta (ts.flatMap Ty.cells) w ∧ RowAt ka (kl.flatMap icI) w] fun v G => v = .bool true ∧ G = [] := by
 refine .enter Tryz.func5 rfl (by kernel_rfl) rfl fun R k => ?_
 refine .goO fds 2 ?_
 refine .ef (.box (l := y.cells) rfl rfl (ones.of rfl)) ?_
 rintro _ _ ⟨b5, rfl, rfl⟩
 refine .goO fds 4 ?_
 refine .fn rfl rfl .nil ((Knows.know (.tail .head)).mono fun _ h => h.1) (shown_ok) (fun v G1 hq => ?_)
 obtain ⟨rfl, rfl⟩ := hq
 simp only [List.nil_append]
 refine .goO fds 5 ?_
 refine .fn rfl rfl .nil ((Knows.know (.tail .head)).mono fun _ h => ⟨h.1, h.2.1⟩) (filled_ok ta ts tc hts hsl) (fun v G1 hq => ?_)
 obtain ⟨i, s, db, mb, d, rfl, hi40, hB, hP, hY, rfl⟩ := hq
 simp only [List.cons_append, List.nil_append]
 refine .goO fds 13 ?_
 refine .on (t := 25) rfl rfl ?_
 refine .rd (.eqNilP Tryz.underlying28 rfl rfl) ?_
 refine .goR fds 5 ?_
 refine .dup (.tail (.tail (.tail (.tail .head)))) ?_
 refine .knowMono (RowAt ka (kl.flatMap icI)) .head (fun w h => h.2.2) ?_
 have hln := hB.len
 refine .goO fds 3 ?_
 refine .fn rfl rfl (.cons (.tail (.tail (.tail .head))) (.cons (.tail (.tail (.tail .head))) (.cons .head .nil))) (fun _ _ _ => trivial) (Crash_ok db mb d _ ka kl kc hB.dok hB.short.all (by omega) rfl hkc hki hkl) (fun v G1 hq => ?_)
 obtain ⟨e, hC, rfl⟩ := hq
 simp only [List.cons_append, List.nil_append]
 have hke : e.fs.length = d.fs.length := by have := congrArg List.length hC.keys; rwa [List.length_map, List.length_map] at this
 have hse : Short e := fun n hn => hB.short n (by rw [← hC.get]; exact hn)
 refine .goO fds 4 ?_
 refine .fn rfl rfl (.cons .head (.cons .head .nil)) ((Knows.know .head).mono fun _ h => h.1) (OpenS_ok db mb e [112] 300 s.c.es [] (fun l d' => SameF s l d') (replain_ok db mb 300 hB hP hY hC ⟨by omega, by decide⟩ (by decide) (fun L z w hF => Open_any db mb e [112] 300 L z w hC.dok pre1 hse.all (by omega) (by decide) (by decide) hF)) (fun l e2 h => h.f)) (fun v G1 hq => ?_)
 obtain ⟨t, e2, d2, rfl, hF, hO, rfl⟩ := hq
 simp only [List.cons_append, List.nil_append]
 obtain ⟨rfl, hes, hpu, hvis⟩ := hF.store hB hP hO
 refine .goR fds 8 ?_
 refine .unpack (L := [blk s.sx (s.cells db) 80, LG db s.l, CG db s.c, TG s.t]) (.tail (.tail (.tail (.tail .head)))) ?_
 simp only [List.cons_append, List.nil_append]
 refine .unpack (L := [blk t.sx (t.cells db) 80, LG db t.l, CG db t.c, TG t.t]) (.tail (.tail (.tail (.tail .head)))) ?_
 simp only [List.cons_append, List.nil_append]
 have hfw := hB.few
 have htz := hB.tsz
 have hlm : (pur s.t.m).length = s.t.m.length := List.length_map ..
 have hlm2 : (pur t.t.m).length = t.t.m.length := List.length_map ..
 rw [hpu] at hlm2
 have hT : TabOk (pur s.t.m) := hB.tab.toTabOk
 have hT2 : TabOk (pur t.t.m) := by rw [hpu]; exact hT
 refine .goO fds 2 ?_
 refine .rd (.eqNilP Tryz.underlying28 rfl rfl) ?_
 refine .go fds 6 ?_
 refine .on (t := 43) rfl rfl ?_
 refine .fn rfl rfl .nil (Knows.blk .head) (LogS_ok db t) (fun v G1 hq => ?_)
 obtain ⟨rfl, rfl⟩ := hq
 simp only [List.nil_append]
 refine .go fds 2 ?_
 refine .on (t := 43) rfl rfl ?_
 refine .rd (.load na54 rfl (Knows.one (i := 0) ((LG.at (.tail .head)).mono fun _ h => h.1) rfl)) ?_
 refine .on (t := 43) rfl rfl ?_
 refine .fn rfl rfl .nil ((LG.at (.tail .head)).mono fun _ h => h.2.2 _ t.l.cur_in) (Next_ok db t.l.cur hF.f.ok.cur.1) (fun v G1 hq => ?_)
 obtain ⟨rfl, rfl⟩ := hq
 simp only [List.nil_append]
 refine .alter (t := 49) (v' := .int .i64 s.l.next) rfl (congrArg (Value.int .i64) hF.next) ?_
 refine .go fds 1 ?_
 refine .on (t := 43) rfl rfl ?_
 refine .fn rfl rfl .nil (Knows.blk (.tail (.tail (.tail (.tail .head))))) (LogS_ok db s) (fun v G1 hq => ?_)
 obtain ⟨rfl, rfl⟩ := hq
 simp only [List.nil_append]
 refine .go fds 2 ?_
 refine .on (t := 43) rfl rfl ?_
 refine .rd (.load na54 rfl (Knows.one (i := 0) ((LG.at (.tail (.tail (.tail (.tail (.tail .head)))))).mono fun _ h => h.1) rfl)) ?_
 refine .on (t := 43) rfl rfl ?_
 refine .fn rfl rfl .nil ((LG.at (.tail (.tail (.tail (.tail (.tail .head)))))).mono fun _ h => h.2.2 _ s.l.cur_in) (Next_ok db s.l.cur hB.ok.cur.1) (fun v G1 hq => ?_)
 obtain ⟨rfl, rfl⟩ := hq
 simp only [List.nil_append]
 refine .alter (t := 55) (v' := .int .i64 s.l.next) rfl (rfl) ?_
 refine .go fds 1 ?_
 refine .alter (t := 56) (v' := .bool false) rfl (congrArg Value.bool (by simp)) ?_
 refine .go fds 3 ?_
 refine .on (t := 58) rfl rfl ?_
 refine .fn rfl rfl .nil (Knows.blk .head) (LogS_ok db t) (fun v G1 hq => ?_)
 obtain ⟨rfl, rfl⟩ := hq
 simp only [List.nil_append]
 refine .on (t := 58) rfl rfl ?_
 refine .fn rfl rfl .nil ((LG.at (.tail .head)).mono fun _ h => h.1) (Start_ok t.l.lb db (some ⟨t.l.cur.b, 0, none⟩) t.l.pre t.l.most t.l.start t.l.high t.l.la (t.l.ini.length + 1) t.l.lc) (fun v G1 hq => ?_)
 obtain ⟨rfl, rfl⟩ := hq
 simp only [List.nil_append]
 refine .alter (t := 61) (v' := .int .i64 0) rfl (congrArg (Value.int .i64) hF.start) ?_
 refine .go fds 1 ?_
 refine .on (t := 58) rfl rfl ?_
 refine .fn rfl rfl .nil (Knows.blk (.tail (.tail (.tail (.tail .head))))) (LogS_ok db s) (fun v G1 hq => ?_)
 obtain ⟨rfl, rfl⟩ := hq
 simp only [List.nil_append]
 refine .on (t := 58) rfl rfl ?_
 refine .fn rfl rfl .nil ((LG.at (.tail (.tail (.tail (.tail (.tail .head)))))).mono fun _ h => h.1) (Start_ok s.l.lb db (some ⟨s.l.cur.b, 0, none⟩) s.l.pre s.l.most s.l.start s.l.high s.l.la (s.l.ini.length + 1) s.l.lc) (fun v G1 hq => ?_)
 obtain ⟨rfl, rfl⟩ := hq
 simp only [List.nil_append]
 refine .alter (t := 64) (v' := .int .i64 0) rfl (congrArg (Value.int .i64) hP.start) ?_
 refine .go fds 4 ?_
 refine .on (t := 67) rfl rfl ?_
 refine .fn rfl rfl .nil (Knows.blk .head) (TableS_ok db t) (fun v G1 hq => ?_)
 obtain ⟨rfl, rfl⟩ := hq
 simp only [List.nil_append]
 refine .on (t := 67) rfl rfl ?_
 refine .fn rfl rfl (.cons (.tail (.tail (.tail .head))) .nil) (fun _ _ _ => trivial) (Keep_ok t.t hT2 (by omega) (by rw [hpu]; omega)) (fun v G1 hq => ?_)
 obtain ⟨rfl, rfl⟩ := hq
 simp only [List.cons_append, List.nil_append]
 refine .alter (t := 70) (v' := .string (str (keepT (pur s.t.m)))) rfl (by rw [hpu]) ?_
 refine .go fds 1 ?_
 refine .on (t := 67) rfl rfl ?_
 refine .fn rfl rfl .nil (Knows.blk (.tail (.tail (.tail (.tail .head))))) (TableS_ok db s) (fun v G1 hq => ?_)
 obtain ⟨rfl, rfl⟩ := hq
 simp only [List.nil_append]
 refine .on (t := 67) rfl rfl ?_
 refine .fn rfl rfl (.cons (.tail (.tail (.tail (.tail (.tail (.tail (.tail .head))))))) .nil) (fun _ _ _ => trivial) (Keep_ok s.t hT (by omega) (by omega)) (fun v G1 hq => ?_)
 obtain ⟨rfl, rfl⟩ := hq
 simp only [List.cons_append, List.nil_append]
 refine .on (t := 67) rfl rfl ?_
 refine .rd (.neT (m := keepT (pur s.t.m)) rfl rfl) ?_
 refine .alter (t := 74) (v' := .bool false) rfl (congrArg Value.bool (by simp)) ?_
 refine .goR fds 5 ?_
 refine .draws [3, 5, 7, 9] [blk b5 (y.cells) 33] (by kernel_rfl) ?_
 refine .goD fds [0] ?_
 refine .goD fds [2] ?_
 refine .rd 3 rfl rfl (by kernel_rfl) (by kernel_rfl) (by kernel_rfl) (.ld na3 rfl .head rfl) (.cons (.tail (.tail (.tail (.tail (.tail (.tail (.tail (.tail (.tail (.tail (.tail .head))))))))))) .nil) ?_
 refine .goD fds [4] ?_
 refine .rd 5 rfl rfl (by kernel_rfl) (by kernel_rfl) (by kernel_rfl) (.ld na3 rfl .head rfl) (.cons (.tail (.tail (.tail (.tail (.tail (.tail (.tail (.tail (.tail (.tail (.tail .head))))))))))) .nil) ?_
 refine .goD fds [6] ?_
 refine .rd 7 rfl rfl (by kernel_rfl) (by kernel_rfl) (by kernel_rfl) (.ld na3 rfl .head rfl) (.cons (.tail (.tail (.tail (.tail (.tail (.tail (.tail (.tail (.tail (.tail (.tail .head))))))))))) .nil) ?_
 refine .goD fds [8] ?_
 refine .rd 9 rfl rfl (by kernel_rfl) (by kernel_rfl) (by kernel_rfl) (.ld na3 rfl .head rfl) (.cons (.tail (.tail (.tail (.tail (.tail (.tail (.tail (.tail (.tail (.tail (.tail .head))))))))))) .nil) ?_
 refine .ef 1 (by kernel_rfl) rfl (.fn rfl rfl .nil (Knows.blk (.tail (.tail (.tail (.tail (.tail .head)))))) (TableS_ok db s)) ?_
 rintro v _ ⟨G1, hq, rfl⟩
 obtain ⟨rfl, rfl⟩ := hq
 simp only [List.nil_append]
 refine ⟨.inr ⟨_, (.cons (.tail (.tail (.tail (.tail (.tail (.tail (.tail (.tail (.tail (.tail (.tail .head))))))))))) .nil)⟩, ?_⟩
 refine .ef 10 (by kernel_rfl) rfl (.fn rfl rfl (.cons .head .nil) (fun _ _ _ => trivial) (Ask_ok s.t y.pid y.ep y.seq y.n hT hy.pid hy.ep hy.seq hy.n)) ?_
 rintro v _ ⟨G1, hq, rfl⟩
 obtain ⟨rfl, rfl⟩ := hq
 simp only [List.cons_append, List.nil_append]
 refine ⟨.inl (by kernel_rfl), ?_⟩
 refine .goD fds [11] ?_
 refine .goD fds [12] ?_
 refine .goD fds [13] ?_
 refine .goD fds [14] ?_
 refine .goD fds [15] ?_
 refine .done (by kernel_rfl) ?_
 refine .seq ?_
 refine .draws [3, 5, 7, 9] [blk b5 (y.cells) 33] (by kernel_rfl) ?_
 refine .goD fds [0] ?_
 refine .goD fds [2] ?_
 refine .rd 3 rfl rfl (by kernel_rfl) (by kernel_rfl) (by kernel_rfl) (.ld na3 rfl .head rfl) (.cons (.tail (.tail (.tail (.tail (.tail (.tail (.tail (.tail (.tail (.tail (.tail .head))))))))))) .nil) ?_
 refine .goD fds [4] ?_
 refine .rd 5 rfl rfl (by kernel_rfl) (by kernel_rfl) (by kernel_rfl) (.ld na3 rfl .head rfl) (.cons (.tail (.tail (.tail (.tail (.tail (.tail (.tail (.tail (.tail (.tail (.tail .head))))))))))) .nil) ?_
 refine .goD fds [6] ?_
 refine .rd 7 rfl rfl (by kernel_rfl) (by kernel_rfl) (by kernel_rfl) (.ld na3 rfl .head rfl) (.cons (.tail (.tail (.tail (.tail (.tail (.tail (.tail (.tail (.tail (.tail (.tail .head))))))))))) .nil) ?_
 refine .goD fds [8] ?_
 refine .rd 9 rfl rfl (by kernel_rfl) (by kernel_rfl) (by kernel_rfl) (.ld na3 rfl .head rfl) (.cons (.tail (.tail (.tail (.tail (.tail (.tail (.tail (.tail (.tail (.tail (.tail .head))))))))))) .nil) ?_
 refine .ef 1 (by kernel_rfl) rfl (.fn rfl rfl .nil (Knows.blk (.tail (.tail .head))) (TableS_ok db t)) ?_
 rintro v _ ⟨G1, hq, rfl⟩
 obtain ⟨rfl, rfl⟩ := hq
 simp only [List.nil_append]
 refine ⟨.inr ⟨_, (.cons (.tail (.tail (.tail (.tail (.tail (.tail (.tail (.tail (.tail (.tail (.tail .head))))))))))) .nil)⟩, ?_⟩
 refine .ef 10 (by kernel_rfl) rfl (.fn rfl rfl (.cons (.tail .head) .nil) (fun _ _ _ => trivial) (Ask_ok t.t y.pid y.ep y.seq y.n hT2 hy.pid hy.ep hy.seq hy.n)) ?_
 rintro v _ ⟨G1, hq, rfl⟩
 obtain ⟨rfl, rfl⟩ := hq
 simp only [List.cons_append, List.nil_append]
 refine ⟨.inl (by kernel_rfl), ?_⟩
 refine .alter (t := 101) (v' := .tuple #[.int .i64 (ask (pur s.t.m) y.pid y.ep y.seq y.n).1, .int .i64 (ask (pur s.t.m) y.pid y.ep y.seq y.n).2]) rfl (by rw [hpu]) ?_
 refine .goD fds [11] ?_
 refine .goD fds [12] ?_
 refine .goD fds [13] ?_
 refine .goD fds [14] ?_
 refine .goD fds [15] ?_
 refine .done (by kernel_rfl) ?_
 refine .goO fds 3 ?_
 refine .fn rfl rfl .nil (Knows.blk (.tail (.tail (.tail (.tail (.tail .head)))))) (CacheS_ok db s) (fun v G1 hq => ?_)
 obtain ⟨rfl, rfl⟩ := hq
 simp only [List.nil_append]
 refine .fn rfl rfl .nil (CG.at (.tail (.tail (.tail (.tail (.tail (.tail (.tail .head)))))))) (AllE_ok db s.c (by have := hB.es.len; omega)) (fun v G1 hq => ?_)
 obtain ⟨ea1, en1, rfl, rfl⟩ := hq
 simp only [List.cons_append, List.nil_append]
 refine .rd (.move rfl) ?_
 refine .fn rfl rfl .nil (Knows.blk (.tail (.tail (.tail .head)))) (CacheS_ok db t) (fun v G1 hq => ?_)
 obtain ⟨rfl, rfl⟩ := hq
 simp only [List.nil_append]
 refine .fn rfl rfl .nil (CG.at (.tail (.tail (.tail (.tail (.tail .head)))))) (AllE_ok db t.c (by rw [hes]; have := hB.es.len; omega)) (fun v G1 hq => ?_)
 obtain ⟨ea2, en2, rfl, rfl⟩ := hq
 simp only [List.cons_append, List.nil_append]
 refine .fn rfl rfl .nil ((Knows.arr (.tail .head)).and (Knows.arr .head)) (sameEntries_ok ea1 ea2 en1 en2 s.c.es t.c.es (by have := hB.es.len; omega) (by rw [hes]; have := hB.es.len; omega)) (fun v G1 hq => ?_)
 obtain ⟨rfl, rfl⟩ := hq
 simp only [List.nil_append]
 refine .alter (t := 110) (v' := .bool true) rfl (congrArg Value.bool (decide_eq_true hes.symm)) ?_
 refine .goO fds 9 ?_
 refine .alter (t := 115) (v' := .bool true) rfl (congrArg Value.bool (by simp)) ?_
 refine .go fds 5 ?_
 refine .alter (t := 120) (v' := .bool true) rfl (congrArg Value.bool (by simp)) ?_
 refine .go fds 3 ?_
 refine .on (t := 122) rfl rfl ?_
 refine .fn rfl rfl .nil (Knows.blk (.tail (.tail (.tail (.tail (.tail (.tail (.tail .head)))))))) (LogS_ok db s) (fun v G1 hq => ?_)
 obtain ⟨rfl, rfl⟩ := hq
 simp only [List.nil_append]
 refine .on (t := 122) rfl rfl ?_
 refine .fn rfl rfl (.cons (.tail (.tail (.tail (.tail (.tail (.tail (.tail (.tail (.tail (.tail .head)))))))))) (.cons (.tail (.tail (.tail (.tail (.tail (.tail (.tail (.tail (.tail (.tail .head)))))))))) .nil)) (LG.at (.tail (.tail (.tail (.tail (.tail (.tail (.tail (.tail .head))))))))) (All_ok db mb d2 s.l hF.ok (by have := hB.all; omega)) (fun v G1 hq => ?_)
 obtain ⟨bl1, ra1, rc1, hbl1, rfl, rfl⟩ := hq
 simp only [List.cons_append, List.nil_append]
 refine .on (t := 122) rfl rfl ?_
 refine .rd (.lenL rfl rfl Tryz.underlying47 rfl) ?_
 refine .go fds 1 ?_
 refine .on (t := 122) rfl rfl ?_
 refine .fn rfl rfl .nil (Knows.blk (.tail (.tail (.tail (.tail (.tail (.tail (.tail (.tail .head))))))))) (LogS_ok db t) (fun v G1 hq => ?_)
 obtain ⟨rfl, rfl⟩ := hq
 simp only [List.nil_append]
 refine .on (t := 122) rfl rfl ?_
 refine .fn rfl rfl (.cons .head (.cons .head .nil)) (LG.at (.tail (.tail (.tail (.tail (.tail (.tail (.tail .head)))))))) (All_ok db mb d2 t.l hF.f.ok (by rw [hF.all]; have := hB.all; omega)) (fun v G1 hq => ?_)
 obtain ⟨bl2, ra2, rc2, hbl2, rfl, rfl⟩ := hq
 simp only [List.cons_append, List.nil_append]
 have hll : bl1.length = bl2.length := by
  have h1 := congrArg List.length hbl1
  have h2 := congrArg List.length hbl2
  have h3 := congrArg List.length hvis
  unfold Lx.vis at h3
  rw [List.length_map] at h1 h2
  omega
 refine .on (t := 122) rfl rfl ?_
 refine .rd (.lenL rfl rfl Tryz.underlying47 rfl) ?_
 refine .go fds 1 ?_
 refine .alter (t := 131) (v' := .bool true) rfl (congrArg Value.bool (decide_eq_true (by omega))) ?_
 refine .goR fds 3 ?_
 refine .retP Tryz.func5 (.cons (.tmp rfl) .nil) (.cons (.tail (.tail (.tail (.tail (.tail (.tail (.tail (.tail (.tail (.tail (.tail (.tail (.tail (.tail (.tail (.tail (.tail (.tail .head)))))))))))))))))) .nil) ?_
 exact ⟨[], ⟨rfl, rfl⟩, rfl⟩
end Go.Proofs.YtoglbebcdjdkiaaGreatDoor
namespace Go.Sp
open Go Go.ChangeShapes Go.WideShapes Go.ChangeAt Go.RowKit
section
variable {H : Type} {enc : TypeId × Value → H} {P : Program} {W : World} {spare : Nat → Bool} {held : Bool}
def Fits (P : Program) (t : TypeId) (d : DataW H) : Prop := ∀ n ∈ d.weights P t, n ≤ 140737488351232
def Rd {α : Type} (enc : TypeId × Value → H) (P : Program) (W : World) (spare : Nat → Bool) (held : Bool) (t : TypeId) (cells : α → List Value) (good : α → Prop) : Prop :=
 ∀ (n : Nat) (cs : List Value) (x : DataW H × List MemPlace), DataW.trod enc P W 0 spare held n t cs = some x → Fits P t x.1 → ∃ a, cs = cells a ∧ good a
theorem Rd.int {t} {k : IntKind} (ht : P.underlying t = some (.int k)) : Rd enc P W spare held t (fun n : Int => [.int k n]) (fun n => (Lit.int k n).wf = true) := fun n cs x h _ => by
 obtain ⟨m, rfl, _, hw⟩ := DataW.trod_int ht h
 exact ⟨m, rfl, hw⟩
theorem weightsAll_mem {e : TypeId} {l : List (DataW H)} {d : DataW H} (hd : d ∈ l) {n : Nat} (hn : n ∈ d.weights P e) : n ∈ DataW.weightsAll P e l := by
 induction l with
 | nil => cases hd
 | cons y l ih =>
  rw [DataW.weightsAll, List.mem_append]
  rcases List.mem_cons.1 hd with rfl | h
  ·
   exact .inl hn
  ·
   exact .inr (ih h)
theorem weightsEach_mem {n : Nat} {t : TypeId} {d : DataW H} (hn : n ∈ d.weights P t) : ∀ {ts : List TypeId} {l : List (DataW H)} {i : Nat}, ts[i]? = some t → l[i]? = some d → n ∈ DataW.weightsEach P ts l
 | [], _, _, h, _ => by simp at h
 | _ :: _, [], _, _, h => by simp at h
 | u :: ts, y :: l, 0, h, k => by
  simp at h k; subst h k
  rw [DataW.weightsEach.eq_def]; simp only [List.mem_append]; exact .inl hn
 | u :: ts, y :: l, i + 1, h, k => by
  rw [DataW.weightsEach.eq_def]; simp only [List.mem_append]
  exact .inr (weightsEach_mem hn (ts := ts) (l := l) (i := i) (by simpa using h) (by simpa using k))
theorem Rd.field {α : Type} {t ft : TypeId} {cells : α → List Value} {good : α → Prop} {fs : Array Field} {n : Nat} {cs : List Value} {x : DataW H × List MemPlace} (ht : P.underlying t = some (.struct fs))
  (h : DataW.trod enc P W 0 spare held n t cs = some x) (hf : Fits P t x.1) (i off sz : Nat) (hi : (fs[i]?).map (fun d => (d.type, d.offset)) = some (ft, off)) (hc : P.cellsOf ft = sz) (r : Rd enc P W spare held ft cells good) :
  ∃ a, (cs.drop off).take sz = cells a ∧ good a := by
 obtain ⟨xs, m, rfl, rfl, hl, hx, hall⟩ := DataW.trod_struct ht h
 cases hfi : fs[i]? with
 | none => simp [hfi] at hi
 | some f =>
  simp [hfi] at hi
  obtain ⟨rfl, rfl⟩ := hi
  have h1 := hall i f hfi
  rw [hc] at h1
  have hlt : i < xs.length := by rw [hx]; exact (Array.getElem?_eq_some_iff.1 hfi).1
  have h2 : xs[i]? = some xs[i] := List.getElem?_eq_getElem hlt
  rw [h2] at h1
  refine r m _ _ h1 fun w hw => hf w ?_
  rw [DataW.weights.eq_def]
  simp only [ht]
  exact weightsEach_mem hw (i := i) (by simp [hfi]) (by simp [h2])
theorem Rd.structLen {t : TypeId} {fs : Array Field} {n : Nat} {cs : List Value} {x : DataW H × List MemPlace} (ht : P.underlying t = some (.struct fs)) (h : DataW.trod enc P W 0 spare held n t cs = some x) : cs.length = P.cellsOf t := by
 obtain ⟨xs, m, rfl, rfl, hl, hx, hall⟩ := DataW.trod_struct ht h
 exact hl
theorem cons_of_len {l : List Value} {n : Nat} (h : l.length = n + 1) : ∃ a t, l = a :: t ∧ t.length = n := by
 cases l with
 | nil => simp at h
 | cons a t => exact ⟨a, t, rfl, by simpa using h⟩
theorem Rd.slice {α : Type} {t e : TypeId} {s by_ : Nat} {cells : α → List Value} {good : α → Prop} (ht : P.underlying t = some (.slice e)) (hs : P.cellsOf e = s) (hs0 : 0 < s) (hby : P.bytesOf e = by_) (hlen : ∀ a, (cells a).length = s) (hone : ∀ a, ones (cells a))
  (r : Rd enc P W spare held e cells good) :
  Rd enc P W spare held t (fun y : Option Addr × Nat × List α => [.slice y.1 y.2.2.length y.2.1]) (fun y => RowAt y.1 (y.2.2.flatMap cells) W ∧ (∀ a ∈ y.2.2, good a) ∧ y.2.2.length * by_ ≤ 140737488351232 ∧ (y.1 = none → y.2.2 = []) ∧ y.2.2.length ≤ y.2.1) := by
 intro n cs x h hf
 rcases DataW.trod_slice ht h with ⟨rfl, _⟩ | ⟨a, len, cap, elems, rest, m, rfl, rfl, rfl, _, hlc, hcm, hel, heach, _, _⟩
 ·
  exact ⟨(none, 0, []), rfl, .inl rfl, fun _ h => (by cases h), by show 0 * by_ ≤ _; omega, fun _ => rfl, Nat.le_refl _⟩
 ·
  have hw : DataW.weights P t (.slice (elems.map (·.1)) (rest.map (·.1))) = (elems.length + rest.length) * by_ :: (DataW.weightsAll P e (elems.map (·.1)) ++ DataW.weightsAll P e (rest.map (·.1))) := by
   rw [DataW.weights.eq_def]; simp only [ht, hby, List.length_map]
  have hb : len * by_ ≤ 140737488351232 := by
   have h1 := hf _ (by rw [hw]; exact List.mem_cons_self)
   have h2 : len * by_ ≤ (elems.length + rest.length) * by_ := Nat.mul_le_mul_right _ (by omega)
   omega
  have each : ∀ i : Fin len, ∃ y : α, W.cells? 0 (a.add (i * s)) s = some (cells y) ∧ good y := fun i => by
   have h1 := heach i i.2
   rw [hs] at h1
   have hi : (i : Nat) < elems.length := by omega
   rw [List.getElem?_eq_getElem hi, Option.bind_eq_some_iff] at h1
   obtain ⟨cs', hc, hd⟩ := h1
   obtain ⟨y, rfl, hy⟩ := r _ _ _ hd fun w hw' => hf w (by
    rw [hw]
    exact List.mem_cons_of_mem _ (List.mem_append_left _ (weightsAll_mem (List.mem_map_of_mem (List.getElem_mem hi)) hw')))
   exact ⟨y, hc, hy⟩
  let f : Fin len → α := fun i => (each i).choose
  have hf1 : ∀ i : Fin len, W.cells? 0 (a.add (i * s)) s = some (cells (f i)) := fun i => (each i).choose_spec.1
  have hf2 : ∀ i : Fin len, good (f i) := fun i => (each i).choose_spec.2
  have hll : (List.ofFn f).length = len := List.length_ofFn
  refine ⟨(some a, cap, List.ofFn f), by show _ = [Value.slice (some a) (List.ofFn f).length cap]; rw [hll], ?_, ?_, by show (List.ofFn f).length * by_ ≤ _; rw [hll]; exact hb, fun h => (by cases h), by show (List.ofFn f).length ≤ cap; rw [hll]; exact hlc⟩
  ·
   by_cases h0 : len = 0
   ·
    left
    have : List.ofFn f = [] := List.eq_nil_of_length_eq_zero (by rw [hll, h0])
    rw [this]; rfl
   ·
    right
    obtain ⟨_, _, hc0⟩ := World.cells?_some (hf1 ⟨0, by omega⟩)
    have hsp : a.spot = none := by
     have := hc0 0 hs0
     simp only [Nat.zero_mul] at this
     have hz : (cells (f ⟨0, by omega⟩))[0]? = some ((cells (f ⟨0, by omega⟩))[0]'(by rw [hlen]; exact hs0)) := List.getElem?_eq_getElem _
     rw [hz] at this
     simp only [Addr.add, if_true, World.cell?] at this
     split at this
     ·
      split at this
      ·
       cases this
      ·
       simpa using ‹¬ a.spot.isSome = true›
     ·
      cases this
    obtain ⟨b, o, sp⟩ := a
    cases hsp
    refine ⟨b, o, rfl, fun i v hv => ?_, ones.flatMap _ fun y _ => hone y⟩
    have hil : i < (List.ofFn f).length * s := by
     have := (List.getElem?_eq_some_iff.1 hv).1
     rwa [flat_length hlen] at this
    have hq : i / s < len := by rw [← hll]; exact Nat.div_lt_of_lt_mul (by rw [Nat.mul_comm]; exact hil)
    have hr : i % s < s := Nat.mod_lt _ hs0
    have hx : (List.ofFn f)[i / s]? = some (f ⟨i / s, hq⟩) := by rw [List.getElem?_ofFn]; simp [hq]
    obtain ⟨_, _, hc⟩ := World.cells?_some (hf1 ⟨i / s, hq⟩)
    have h1 := hc (i % s) hr
    have hv' : (cells (f ⟨i / s, hq⟩))[i % s]? = some v := by
     have hz : (cells (f ⟨i / s, hq⟩))[i % s]? = some ((cells (f ⟨i / s, hq⟩))[i % s]'(by rw [hlen]; exact hr)) := List.getElem?_eq_getElem _
     have h2 := flat_at hlen _ _ _ hx _ _ hz
     rw [show i / s * s + i % s = i by rw [Nat.mul_comm]; exact Nat.div_add_mod i s] at h2
     rw [h2] at hv
     rw [hz]; exact hv
    rw [hv'] at h1
    rw [Addr_add, Addr_add] at h1
    rw [← h1]
    congr 2
    have := Nat.div_add_mod i s
    rw [Nat.mul_comm] at this
    show o + i = o + i / s * s + i % s
    omega
  ·
   intro y hy
   obtain ⟨i, rfl⟩ := List.mem_ofFn.1 hy
   exact hf2 i
end
theorem okWide_agg {P : Program} {w : World} {r : Reach} {b0 : Nat} {t : TypeId} {fs : Array Field} {v : Value} (ht : P.underlying t = some (.struct fs)) (h : Value.okWide P w r b0 t v) : ∃ cs, v = .agg cs := by
 unfold Value.okWide at h
 rw [ht] at h
 obtain ⟨cs, e, _⟩ := h
 exact ⟨cs, e⟩
theorem Sat.below {W w' : World} {Γ : List SProp} (h : Sat (amb W) w' (Sp.base W :: Γ)) : Below W.heap.size W w' := by
 have hb : ∀ (k : Nat) (o : Obj), W.heap[k]? = some o → w'.heap[k]? = some o := fun k o hk => h.base k o hk
 obtain ⟨ha, _⟩ := h
 refine ⟨congrArg Amb.os ha, congrArg Amb.tape ha, congrArg Amb.output ha, ?_, fun k hk => ?_⟩
 ·
  by_cases h0 : W.heap.size = 0
  ·
   omega
  ·
   have hlt : W.heap.size - 1 < W.heap.size := by omega
   have h1 := hb (W.heap.size - 1) _ (Array.getElem?_eq_getElem hlt)
   have := (Array.getElem?_eq_some_iff.1 h1).1
   omega
 ·
  have h1 : W.heap[k]? = some W.heap[k] := Array.getElem?_eq_getElem hk
  rw [hb k _ h1, h1]
theorem Cn.lawK {P f} {args : List Value} {φ : World → Prop} {W : World} (h : Cn P f args (fun _ => True) [know φ] fun v G => v = .bool true ∧ G = []) (hφ : ∀ w : World, (∀ (b : Nat) (o : Obj), W.heap[b]? = some o → w.heap[b]? = some o) → φ w) :
  Calls P f args.toArray W fun e w' => e = .returned (.bool true) ∧ Below W.heap.size W w' := by
 have hs : Sat (amb W) W (([know φ] ++ [base W]) ++ []) := by
  have h1 : Sat (amb W) W ([base W] ++ [base W]) := (Sat.start W).map fun _ s => sat.base_dup s
  refine Sat.close (fun h s => ?_) h1
  obtain ⟨k, _, _, l, _, s, _⟩ := s
  obtain ⟨j, jl, jr, e⟩ := sat.base_know hφ s
  exact ⟨j, jl.trans l, jr, e⟩
 refine ((h (base W) fun _ _ _ => trivial).runs (amb W) [] W hs).mono ?_
 rintro e w' ⟨v, Γ', rfl, ⟨Γ1, ⟨rfl, rfl⟩, rfl⟩, s⟩
 exact ⟨rfl, s.below⟩
theorem RowAt.later {W w : World} (H : ∀ (b : Nat) (o : Obj), W.heap[b]? = some o → w.heap[b]? = some o) {a cs} (h : RowAt a cs W) : RowAt a cs w := by
 rcases h with h | ⟨b, o, e, h⟩
 ·
  exact .inl h
 ·
  refine .inr ⟨b, o, e, fun i v hv => ?_, h.2⟩
  have h1 := h.1 i v hv
  unfold World.cell? at h1 ⊢
  cases hb : W.heap[b]? with
  | none => simp [hb] at h1
  | some ob => rw [hb] at h1; rw [H b ob hb]; exact h1
end Go.Sp
namespace Go.Proofs.YtoglbebcdjdkiaaGreatDoor
open Go Go.Sp Go.RowKit
theorem LV_of {W : World} (h : laidMetH Tryz.prog Go.Proofs.YtoglbebcdjdkiaaGreatDoor.Rows.storeOnceRow.laid W) (hs : W.ShapedOpen Tryz.prog) : LV W := by
 have hl : laidMet Tryz.prog Go.Proofs.YtoglbebcdjdkiaaGreatDoor.Rows.storeOnceRow.laid W := by
  rw [← MakeChecks.laidMetH_plain _ _ _ (by kernel_rfl)]; exact h
 have h2 := hl.tail.tail
 refine ⟨?_, ?_⟩
 ·
  exact Go.Proofs.cell_of_shapedOpen_int (g := 2) (zero := #[.int .i64 0]) (t := 3) hs (of_decide_eq_true (by kernel_rfl)) (by kernel_rfl) rfl (by kernel_rfl) (by kernel_rfl) Tryz.underlying3
 ·
  exact Lib.tabIs_of_head (g := 5) (t := 273) (e := 192) (n := 20) (by kernel_rfl) (by kernel_rfl) (by kernel_rfl) (by kernel_rfl) (by kernel_rfl) (by kernel_rfl) (rest := _) (by
   have e : (Go.Proofs.YtoglbebcdjdkiaaGreatDoor.Rows.laid_internal_strconv_uint64pow10 : DataW Unit) = Lib.tabData .u64 Lib.pow10Tab := by kernel_rfl
   exact e ▸ h2)
theorem LV.later {W w : World} (H : ∀ (b : Nat) (o : Obj), W.heap[b]? = some o → w.heap[b]? = some o) (h : LV W) : LV w := by
 have hc : ∀ b off v, W.cell? ⟨b, off, none⟩ = some v → w.cell? ⟨b, off, none⟩ = some v := fun b off v h1 => by
  unfold World.cell? at h1 ⊢
  cases hb : W.heap[b]? with
  | none => simp [hb] at h1
  | some ob => rw [hb] at h1; rw [H b ob hb]; exact h1
 obtain ⟨⟨m, h0⟩, h3⟩ := h
 refine ⟨⟨m, hc _ _ _ h0⟩, ?_⟩
 unfold Lib.TabIs World.var? at h3 ⊢
 cases hg : Tryz.prog.globalNamed powName with
 | none => simp [hg] at h3
 | some g =>
  rw [hg] at h3
  simp only [Option.bind_some] at h3 ⊢
  cases hb : W.heap[g]? with
  | none => simp [hb] at h3
  | some ob => rw [hb] at h3; rw [H g ob hb]; exact h3
theorem i64_wf {n : Int} (h : (Lit.int .i64 n).wf = true) : i64 n := by simpa [i64, Lit.wf, IntKind.min, IntKind.max, IntKind.signed, IntKind.bits] using h
theorem Rd.num {H : Type} {enc : TypeId × Value → H} {P : Program} {W : World} {spare : Nat → Bool} {held : Bool} {t} (ht : P.underlying t = some (.int .i64)) : Rd enc P W spare held t (fun n : Int => [.int .i64 n]) i64 := fun n cs x h hf => by
 obtain ⟨m, e, hm⟩ := Rd.int ht n cs x h hf
 exact ⟨m, e, i64_wf hm⟩
end Go.Proofs.YtoglbebcdjdkiaaGreatDoor
namespace Go.Proofs.YtoglbebcdjdkiaaGreatDoor
open Go Go.Sp
namespace read13
end read13
open read13
theorem Ty.cells_ones (y : Ty) : ones y.cells := .of rfl
theorem rdTry {H : Type} {enc : TypeId × Value → H} {W : World} {spare : Nat → Bool} {held : Bool} : Rd enc Tryz.prog W spare held 33 Ty.cells (fun y => RowAt y.ka (y.kl.flatMap icI) W ∧ y.ok) := by
 intro n cs x h hf
 have hl : cs.length = 7 := (Rd.structLen Tryz.underlying33 h).trans (by kernel_rfl)
 obtain ⟨c0, cs0, rfl, hl0⟩ := cons_of_len hl
 obtain ⟨c1, cs1, rfl, hl1⟩ := cons_of_len hl0
 obtain ⟨c2, cs2, rfl, hl2⟩ := cons_of_len hl1
 obtain ⟨c3, cs3, rfl, hl3⟩ := cons_of_len hl2
 obtain ⟨c4, cs4, rfl, hl4⟩ := cons_of_len hl3
 obtain ⟨c5, cs5, rfl, hl5⟩ := cons_of_len hl4
 obtain ⟨c6, cs6, rfl, hl6⟩ := cons_of_len hl5
 obtain rfl : cs6 = [] := List.eq_nil_of_length_eq_zero hl6
 obtain ⟨f0, e0, w0⟩ := Rd.field Tryz.underlying33 h hf 0 0 1 rfl (by kernel_rfl) (Rd.num Tryz.underlying3)
 simp only [List.drop_zero, List.take_succ_cons, List.take_zero, List.cons.injEq, and_true] at e0
 obtain ⟨f1, e1, w1⟩ := Rd.field Tryz.underlying33 h hf 1 1 1 rfl (by kernel_rfl) (Rd.num Tryz.underlying3)
 simp only [List.drop_succ_cons, List.drop_zero, List.take_succ_cons, List.take_zero, List.cons.injEq, and_true] at e1
 obtain ⟨f2, e2, w2⟩ := Rd.field Tryz.underlying33 h hf 2 2 1 rfl (by kernel_rfl) (Rd.num Tryz.underlying3)
 simp only [List.drop_succ_cons, List.drop_zero, List.take_succ_cons, List.take_zero, List.cons.injEq, and_true] at e2
 obtain ⟨f3, e3, w3⟩ := Rd.field Tryz.underlying33 h hf 3 3 1 rfl (by kernel_rfl) (Rd.num Tryz.underlying3)
 simp only [List.drop_succ_cons, List.drop_zero, List.take_succ_cons, List.take_zero, List.cons.injEq, and_true] at e3
 obtain ⟨f4, e4, w4⟩ := Rd.field Tryz.underlying33 h hf 4 4 1 rfl (by kernel_rfl) (Rd.num Tryz.underlying3)
 simp only [List.drop_succ_cons, List.drop_zero, List.take_succ_cons, List.take_zero, List.cons.injEq, and_true] at e4
 obtain ⟨f5, e5, w5⟩ := Rd.field Tryz.underlying33 h hf 5 5 1 rfl (by kernel_rfl) (Rd.num Tryz.underlying3)
 simp only [List.drop_succ_cons, List.drop_zero, List.take_succ_cons, List.take_zero, List.cons.injEq, and_true] at e5
 obtain ⟨⟨ka, kc, kl⟩, e6, hr, hg, hb, _, hc⟩ := Rd.field Tryz.underlying33 h hf 6 6 1 rfl (by kernel_rfl) (Rd.slice (s := 1) (by_ := 8) Tryz.underlying31 (by kernel_rfl) (by decide) (by kernel_rfl) icI_len icI_ones (Rd.num Tryz.underlying3))
 simp only [List.drop_succ_cons, List.drop_zero, List.take_succ_cons, List.take_zero, List.cons.injEq, and_true] at e6
 subst e0
 subst e1
 subst e2
 subst e3
 subst e4
 subst e5
 subst e6
 exact ⟨⟨f0, f1, f2, f3, f4, f5, ka, kl, kc⟩, rfl, hr, ⟨w0, w1, w2, w3, w4, w5, hc, hg, Nat.le_trans (Nat.le_mul_of_pos_right _ (by decide)) hb⟩⟩
end Go.Proofs.YtoglbebcdjdkiaaGreatDoor