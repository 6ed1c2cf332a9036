/- Part 5 of a claim's texts: rules for the machine's steps, and steps through functions of the program, under the conditions that each theorem states. -/
import Derived.Test.YtglhoenjflpibaaGreatDoorProg
import Derived.WalkKit
import Derived.ProofKit
import Derived.OpenShut
import Derived.ShutString
import Derived.ChangeOld
import Derived.Below
import Derived.SizedLaws
import Derived.Carry
import Derived.LaidLaws
import Derived.Lib.LaidTab
import Derived.Stop.LaidErr
import Derived.MakeChecks
import Derived.Shelf.Vars
import Derived.FnData
import Derived.Test.YtglhoenjflpibaaGreatDoorSav0
import Derived.Test.YtglhoenjflpibaaGreatDoorSav1
import Derived.Test.YtglhoenjflpibaaGreatDoorSav2
import Derived.Test.YtglhoenjflpibaaGreatDoorSav3
import Derived.Test.YtglhoenjflpibaaGreatDoorSav4
set_option linter.unusedVariables false
namespace Go.Proofs.YtglhoenjflpibaaGreatDoor
open Go Go.Sp

set_option linter.unusedVariables false

namespace dk3
theorem ts9 : TS Tryz.prog 9 1 := .of (by kernel_rfl)
theorem na9 : NotAgg Tryz.prog 9 := ⟨_, Tryz.underlying9, trivial⟩
theorem fd60_2 : FD Tryz.prog 60 2 2 := .of Tryz.underlying60 (by kernel_rfl)
theorem na58 : NotAgg Tryz.prog 58 := ⟨_, Tryz.underlying58, trivial⟩
theorem ti82 : TI Tryz.prog 82 2 24 (.agg #[.string ⟨#[]⟩, .int .i64 0]) := .of (by kernel_rfl)
theorem ts82 : TS Tryz.prog 82 2 := .of (by kernel_rfl)
theorem fd82_0 : FD Tryz.prog 82 0 0 := .of Tryz.underlying82 (by kernel_rfl)
theorem fd82_1 : FD Tryz.prog 82 1 1 := .of Tryz.underlying82 (by kernel_rfl)
theorem na3 : NotAgg Tryz.prog 3 := ⟨_, Tryz.underlying3, trivial⟩
theorem bld82_0_1 (x0 : ByteArray) (x1 : Int) (w : World) : (Instr.build 82 (([0, 1] : List Nat).zip [.string x0, .int .i64 x1]).toArray).run Tryz.prog w = .ok (.agg #[.string x0, .int .i64 x1]) w := by kernel_rfl
theorem ts3 : TS Tryz.prog 3 1 := .of (by kernel_rfl)
end dk3
open dk3



set_option maxHeartbeats 4000000 in
set_option maxRecDepth 20000 in
theorem Crash_ok (db mb : Nat) (d : Dk) (ns : List Nm) (ka : Option Addr) (kl : List Int) (kc : Nat) (hd : d.ok) (hk : ∀ p ∈ d.fs, p.1.length ≤ 64) (hn : d.fs.length ≤ 1000000) (hs : (sorted (d.fs.map (·.1))) = ns) (hkc : kl.length ≤ kc) (hki : ∀ x ∈ kl, i64 x) (hkl : kl.length ≤ 140737488351232) : Cn Tryz.prog 25 [.pointer (some ⟨db, 0, none⟩), .slice ka kl.length kc] (fun _ => True) [blk db (d.cells mb) 60, mp nmv Fl.val mb d.fs, know (RowAt ka (kl.flatMap icI))] fun v G => ∃ e, CrashTo d e ∧ G = [blk db (e.cells mb) 60, mp nmv Fl.val mb e.fs] := by
  refine .enter Tryz.func25 rfl (by kernel_rfl) rfl fun R k => ?_
  have hns : ∀ n, n ∈ d.fs.map (·.1) → n ∈ ns := fun n h => hs ▸ sorted_mem.2 h
  have hnd : ns.Nodup := hs ▸ sorted_nodup hd.nodup
  have hnl : ns.length = d.fs.length := by rw [← hs, sorted, List.length_mergeSort, List.length_map]
  refine .seq ?_
  refine .region ?_
  refine .rd (.move rfl) ?_
  refine .fn rfl rfl (.cons .head (.cons .head .nil)) (fun _ _ _ => trivial) (Names_ok db mb d hk hn) (fun v G1 hq => ?_)
  obtain ⟨ra, rc, rfl, rfl⟩ := hq
  simp only [List.cons_append, List.nil_append]
  refine .rd (.lenL rfl rfl Tryz.underlying79 rfl) ?_
  refine .rd (.move rfl) ?_
  refine .nil ?_
  refine .perm (.cons (.tail (.tail .head)) (.cons .head (.cons .head (.cons .head (.cons .head .nil))))) ?_
  refine .cast (X' := know (RowAt ra (ns.flatMap nmc))) (by rw [hs, map_nmc]) ?_
  refine .alter (t := 10) (v' := .slice ra ns.length rc) rfl (by rw [hnl]) ?_
  refine .alter (t := 11) (v' := .int .i64 (ns.length : Nat)) rfl (by rw [hnl]) ?_
  skip
  refine .block ?_
  refine .loop (σ := Nat × Dk × Option Addr × List Int × Nat) (fun ⟨j, e, qa, ql, qc⟩ => j ≤ ns.length ∧ CrashI d (ns.take j) e ∧ ql.length ≤ qc ∧ (∀ x ∈ ql, i64 x) ∧ ql.length ≤ 140737488351232) (fun ⟨j, e, qa, ql, qc⟩ => ns.length - j) (fun ⟨j, e, qa, ql, qc⟩ => [(0, .pointer (some ⟨db, 0, none⟩)), (1, .slice qa ql.length qc), (10, .slice ra ns.length rc), (11, .int .i64 (ns.length : Nat)), (12, .int .i64 (j : Nat))]) (fun ⟨j, e, qa, ql, qc⟩ => [blk db (e.cells mb) 60, mp nmv Fl.val mb e.fs, know (RowAt ra (ns.flatMap nmc)), know (RowAt qa (ql.flatMap icI)), R]) (0, d, ka, kl, kc) ⟨Nat.zero_le _, .begin hd, hkc, hki, hkl⟩ (.cons rfl (.cons rfl (.cons rfl (.cons rfl (.cons rfl .nil))))) (.cons (.tail .head) (.cons (.tail .head) (.cons .head (.cons .head (.cons .head .nil))))) (fun s' hI ih => ?_)
  obtain ⟨j, e, qa, ql, qc⟩ := s'
  dsimp only at hI ih ⊢
  obtain ⟨hjn, hC, hqc, hqi, hql⟩ := hI
  refine .seq ?_
  refine .region ?_
  refine .rd (.lt rfl rfl) ?_
  refine .nil ?_
  refine .seq ?_
  refine .condP rfl (fun c1 => ?_) (fun c1 => ?_)
  · refine .skip ?_
    refine .seq ?_
    refine .block ?_
    refine .seq ?_
    obtain ⟨x, hx⟩ : ∃ x, ns[j]? = some x := ⟨_, List.getElem?_eq_getElem (by omega)⟩
    have hxg : (d.get x).isSome = true := get_in.2 (sorted_mem.1 (hs ▸ List.mem_of_getElem? hx))
    have hxn : x ∉ ns.take j := fun h => by
      obtain ⟨i, hi⟩ := List.getElem?_of_mem h
      have hij : i < j := by have := (List.getElem?_eq_some_iff.1 hi).1; rw [List.length_take] at this; omega
      rw [List.getElem?_take, if_pos hij] at hi
      obtain ⟨h1, h2⟩ := List.getElem?_eq_some_iff.1 hi
      obtain ⟨h3, h4⟩ := List.getElem?_eq_some_iff.1 hx
      exact (List.pairwise_iff_getElem.1 hnd i j h1 h3 hij) (h2.trans h4.symm)
    have hxl := hC.left x hxn
    have hsf := Dk.file_safe hd x
    have hfl := Dk.file_le (d := d) x
    have hus := hd.used
    have hsz := hd.size
    refine .tell (φ := ∃ b o, ra = some ⟨b, o, none⟩) ((Knows.know (.tail (.tail .head))).mono fun _ h => RowAt.addr h (by rw [flat_length nmc_len]; omega)) (fun hh => ?_)
    obtain ⟨b9, o9, h9⟩ := hh
    refine .region ?_
    refine .rd (.indexAddr (b := b9) (o := o9) Tryz.underlying79 ts9 (by show some (Value.slice ra _ _) = _; rw [h9]) rfl (by omega) (by omega)) ?_
    refine .rd (.load na9 rfl (Knows.one (i := 0) (Knows.elem (f := nmc) nmc_len (by decide) ((Knows.know (.tail (.tail .head))).mono fun _ h => h9 ▸ h) hx) rfl)) ?_
    refine .rd (.assign rfl) ?_
    refine .nil ?_
    refine .seq ?_
    refine .region ?_
    refine .rd (.move rfl) ?_
    refine .rd (.nilCheck rfl) ?_
    refine .rd (.fieldAddr fd60_2 rfl) ?_
    refine .rd (.ld na58 rfl .head rfl) ?_
    refine .rd (.move rfl) ?_
    refine .rd (.lookup (q := x) kl58 Tryz.underlying58 (fun w => ti82.zero w) rfl rfl (.tail .head)) ?_
    refine .alter (t := 21) (v' := (d.file x).val) rfl ((lkNo e x).trans (by rw [hxl])) ?_
    refine .ef (.alloc ti82 rfl (ones.of rfl)) ?_
    rintro _ _ ⟨b6, rfl, rfl⟩
    refine .ef0 (.storeAll ts82 rfl rfl (by rfl) .head rfl (ones.of rfl)) ?_
    rintro _ _ rfl
    refine .nil ?_
    refine .cast (X' := blk b6 [.string (str (d.file x).b), .int .i64 ((d.file x).safe : Int)] 82) (rfl) ?_
    refine .seq ?_
    refine .region ?_
    refine .rd (.fieldAddr fd82_0 rfl) ?_
    refine .rd (.ld na9 rfl .head rfl) ?_
    refine .rd (.lenT rfl rfl Tryz.underlying9 rfl) ?_
    refine .rd (.fieldAddr fd82_1 rfl) ?_
    refine .rd (.ld na3 rfl .head rfl) ?_
    refine .rd (.sub rfl rfl (by omega) (by omega)) ?_
    refine .alter (t := 27) (v' := .int .i64 (((d.file x).b.length - (d.file x).safe : Nat) : Int)) rfl (congrArg (Value.int .i64) (by omega)) ?_
    refine .rd (.assign rfl) ?_
    refine .nil ?_
    refine .seq ?_
    refine .seq ?_
    refine .region ?_
    refine .rd (.move rfl) ?_
    refine .rd (.eqI rfl rfl) ?_
    refine .nil ?_
    refine .condP rfl (fun c5 => ?_) (fun c5 => ?_)
    · have hm0 : (d.file x).safe = (d.file x).b.length := by omega
      refine .exit rfl ?_
      refine .region ?_
      refine .rd (.add rfl rfl (by omega) (by omega)) ?_
      refine .rd (.move rfl) ?_
      refine .nil ?_
      exact (ih (j + 1, e, qa, ql, qc) ⟨by show j + 1 ≤ _; omega, by rw [List.take_add_one, hx]; exact hC.keep hxn hm0, hqc, hqi, hql⟩ (by show ns.length - (j + 1) < ns.length - j; omega)).to (.cons rfl (.cons rfl (.cons rfl (.cons rfl (.cons rfl .nil))))) (.cons (.tail .head) (.cons (.tail .head) (.cons (.tail .head) (.cons (.tail .head) (.cons (.tail .head) .nil)))))
    · refine .skip ?_
      refine .seq ?_
      refine .region ?_
      refine .rd (.assign rfl) ?_
      refine .nil ?_
      refine .seq ?_
      refine .seq ?_
      refine .region ?_
      refine .rd (.move rfl) ?_
      refine .rd (.lenL rfl rfl Tryz.underlying22 rfl) ?_
      refine .rd (.gt rfl rfl) ?_
      refine .nil ?_
      refine .joinEx (σ := Int × Option Addr × List Int × Nat) (φ := fun ⟨n, qa, ql, qc⟩ => i64 n ∧ ql.length ≤ qc ∧ (∀ x ∈ ql, i64 x) ∧ ql.length ≤ 140737488351232) (E' := fun ⟨n, qa, ql, qc⟩ => [(0, .pointer (some ⟨db, 0, none⟩)), (5, nmv x), (6, .pointer (some ⟨b6, 0, none⟩)), (7, .int .i64 (((d.file x).b.length - (d.file x).safe : Nat) : Int)), (10, .slice ra ns.length rc), (11, .int .i64 (ns.length : Nat)), (12, .int .i64 (j : Nat)), (1, .slice qa ql.length qc), (8, .int .i64 n)]) (Γ' := fun ⟨n, qa, ql, qc⟩ => [blk b6 [.string (str (d.file x).b), .int .i64 ((d.file x).safe : Int)] 82, blk db (e.cells mb) 60, mp nmv Fl.val mb e.fs, know (RowAt ra (ns.flatMap nmc)), know (RowAt qa (ql.flatMap icI)), R]) (fun sj hj => ?_) (fun fin => ?_)
      · clear hqc hqi hql
        obtain ⟨n, qa', ql', qc'⟩ := sj
        dsimp only at hj ⊢
        obtain ⟨hn', hqc, hqi, hql⟩ := hj
        obtain ⟨hn1, hn2⟩ : -9223372036854775808 ≤ n ∧ n ≤ 9223372036854775807 := hn'
        obtain ⟨qa, rfl⟩ : ∃ q, q = qa' := ⟨_, rfl⟩
        obtain ⟨ql, rfl⟩ : ∃ q, q = ql' := ⟨_, rfl⟩
        obtain ⟨qc, rfl⟩ : ∃ q, q = qc' := ⟨_, rfl⟩
        refine .seq ?_
        refine .seq ?_
        refine .region ?_
        refine .rd (.move rfl) ?_
        refine .rd (.lt rfl rfl) ?_
        refine .nil ?_
        refine .joinEx (σ := Int) (φ := fun n => 0 ≤ n ∧ n ≤ 9223372036854775807) (E' := fun n => [(0, .pointer (some ⟨db, 0, none⟩)), (5, nmv x), (6, .pointer (some ⟨b6, 0, none⟩)), (7, .int .i64 (((d.file x).b.length - (d.file x).safe : Nat) : Int)), (10, .slice ra ns.length rc), (11, .int .i64 (ns.length : Nat)), (12, .int .i64 (j : Nat)), (1, .slice qa ql.length qc), (8, .int .i64 n)]) (Γ' := fun n => [blk b6 [.string (str (d.file x).b), .int .i64 ((d.file x).safe : Int)] 82, blk db (e.cells mb) 60, mp nmv Fl.val mb e.fs, know (RowAt ra (ns.flatMap nmc)), know (RowAt qa (ql.flatMap icI)), R]) (fun sj hj => ?_) (fun fin => ?_)
        · obtain ⟨n2, rfl⟩ : ∃ n : Int, n = sj := ⟨sj, rfl⟩
          obtain ⟨hm1, hm2⟩ := hj
          refine .seq ?_
          refine .draws [1] [blk b6 [.string (str (d.file x).b), .int .i64 ((d.file x).safe : Int)] 82] (by kernel_rfl) ?_
          refine .rp 0 rfl (by kernel_rfl) (by kernel_rfl) (by kernel_rfl) (Reads.pure (.fieldAddr fd82_1 rfl)) ?_
          refine .rd 1 rfl rfl (by kernel_rfl) (by kernel_rfl) (by kernel_rfl) (.ld na3 rfl .head rfl) (.cons .head .nil) ?_
          refine .rp 2 rfl (by kernel_rfl) (by kernel_rfl) (by kernel_rfl) (Reads.pure (.move rfl)) ?_
          refine .rp 3 rfl (by kernel_rfl) (by kernel_rfl) (by kernel_rfl) (Reads.pure (.move rfl)) ?_
          refine .rp 4 rfl (by kernel_rfl) (by kernel_rfl) (by kernel_rfl) (Reads.pure (.add rfl rfl (by omega) (by omega))) ?_
          refine .alter (t := 47) (v' := .int .i64 ((((d.file x).b.length - (d.file x).safe + 1 : Nat)) : Int)) rfl (congrArg (Value.int .i64) (by omega)) ?_
          refine .rp 5 rfl (by kernel_rfl) (by kernel_rfl) (by kernel_rfl) (Reads.pure (.rem rfl rfl (by omega) (by omega))) ?_
          have hr1 := Int.emod_nonneg n2 (show (((d.file x).b.length - (d.file x).safe + 1 : Nat) : Int) ≠ 0 by omega)
          have hr2 := Int.emod_lt_of_pos n2 (show (0 : Int) < (((d.file x).b.length - (d.file x).safe + 1 : Nat) : Int) by omega)
          obtain ⟨z, hz⟩ : ∃ z : Nat, (z : Int) = (d.file x).safe + n2 % (((d.file x).b.length - (d.file x).safe + 1 : Nat) : Int) := ⟨((d.file x).safe + n2 % (((d.file x).b.length - (d.file x).safe + 1 : Nat) : Int)).toNat, by omega⟩
          have hz1 : (d.file x).safe ≤ z := by omega
          have hz2 : z ≤ (d.file x).b.length := by omega
          refine .rp 6 rfl (by kernel_rfl) (by kernel_rfl) (by kernel_rfl) (Reads.pure (.add rfl rfl (by omega) (by omega))) ?_
          refine .alter (t := 49) (v' := .int .i64 (z : Nat)) rfl (by rw [hz]) ?_
          refine .rp 7 rfl (by kernel_rfl) (by kernel_rfl) (by kernel_rfl) (Reads.pure (.assign rfl)) ?_
          refine .done (by kernel_rfl) ?_
          refine .region ?_
          refine .rd (.move rfl) ?_
          refine .rd (.move rfl) ?_
          refine .rd (.fieldAddr fd82_0 rfl) ?_
          refine .rd (.ld na9 rfl .head rfl) ?_
          refine .rd (.move rfl) ?_
          refine .rd (.sliceT (l := (d.file x).b) (a := 0) (h := z) Tryz.underlying9 rfl rfl ⟨_, rfl⟩ (by omega) (by omega)) ?_
          refine .rd (.move rfl) ?_
          refine .rd (.build rfl (bld82_0_1 _ _)) ?_
          refine .alter (t := 57) (v' := (Fl.val ⟨(d.file x).b.take z, z⟩)) rfl (by simp [Fl.val]) ?_
          refine .fn rfl rfl (.cons (.tail .head) (.cons (.tail .head) .nil)) (fun _ _ _ => trivial) (put_ok db mb e x ⟨(d.file x).b.take z, z⟩ hC.dok (by rw [List.length_take]; omega)) (fun v G1 hq => ?_)
          obtain rfl := hq
          simp only [List.cons_append, List.nil_append]
          refine .nil ?_
          refine .inBlock ?_
          refine .region ?_
          refine .rd (.add rfl rfl (by omega) (by omega)) ?_
          refine .rd (.move rfl) ?_
          refine .nil ?_
          exact (ih (j + 1, e.put x ⟨(d.file x).b.take z, z⟩, qa, ql, qc) ⟨by show j + 1 ≤ _; omega, by rw [List.take_add_one, hx]; exact hC.step hxn hxg hz1 hz2, hqc, hqi, hql⟩ (by show ns.length - (j + 1) < ns.length - j; omega)).to (.cons rfl (.cons rfl (.cons rfl (.cons rfl (.cons rfl .nil))))) (.cons .head (.cons .head (.cons (.tail .head) (.cons (.tail .head) (.cons (.tail .head) .nil)))))
        · refine .condP rfl (fun c9 => ?_) (fun c9 => ?_)
          · refine .region ?_
            refine .rd (.move rfl) ?_
            refine .rd (.add rfl rfl (by omega) (by omega)) ?_
            refine .rd (.neg rfl (by omega) (by omega)) ?_
            refine .rd (.assign rfl) ?_
            refine .nil ?_
            exact fin (-(n + 1)) ⟨by omega, by omega⟩ (.cons rfl (.cons rfl (.cons rfl (.cons rfl (.cons rfl (.cons rfl (.cons rfl (.cons rfl (.cons rfl .nil))))))))) (.cons .head (.cons .head (.cons .head (.cons .head (.cons .head (.cons .head .nil))))))
          · refine .skip ?_
            exact fin n ⟨by omega, hn2⟩ (.cons rfl (.cons rfl (.cons rfl (.cons rfl (.cons rfl (.cons rfl (.cons rfl (.cons rfl (.cons rfl .nil))))))))) (.cons .head (.cons .head (.cons .head (.cons .head (.cons .head (.cons .head .nil))))))
      · refine .condP rfl (fun c7 => ?_) (fun c7 => ?_)
        · obtain ⟨v, r, hvr⟩ : ∃ v r, ql = v :: r := by
            cases h : ql with
            | nil => rw [h] at c7; exact absurd c7 (by decide)
            | cons v r => exact ⟨v, r, rfl⟩
          have hv : i64 v := hqi v (by rw [hvr]; exact .head _)
          have hri : ∀ x ∈ r, i64 x := fun x hx => hqi x (by rw [hvr]; exact .tail _ hx)
          have hql1 : ql.length = r.length + 1 := by rw [hvr]; rfl
          have hv0 : ql[0]? = some v := by rw [hvr]; rfl
          refine .tell (φ := ∃ b o, qa = some ⟨b, o, none⟩) ((Knows.know (.tail (.tail (.tail (.tail .head))))).mono fun _ h => RowAt.addr h (by rw [flat_length icI_len]; omega)) (fun hh => ?_)
          obtain ⟨b8, o8, h8⟩ := hh
          refine .draws [2] [know (RowAt qa (ql.flatMap icI))] (by kernel_rfl) ?_
          refine .rp 0 rfl (by kernel_rfl) (by kernel_rfl) (by kernel_rfl) (Reads.pure (.move rfl)) ?_
          refine .rp 1 rfl (by kernel_rfl) (by kernel_rfl) (by kernel_rfl) (Reads.pure (.indexAddr (b := b8) (o := o8) Tryz.underlying22 ts3 (by show some (Value.slice qa _ _) = _; rw [h8]) rfl (by omega) (by omega))) ?_
          refine .rd 2 rfl rfl (by kernel_rfl) (by kernel_rfl) (by kernel_rfl) (.load na3 rfl (Knows.one (i := 0) (Knows.elem (f := icI) icI_len (by decide) ((Knows.know .head).mono fun _ h => h8 ▸ h) hv0) rfl)) (.cons (.tail (.tail (.tail (.tail .head)))) .nil) ?_
          refine .rp 3 rfl (by kernel_rfl) (by kernel_rfl) (by kernel_rfl) (Reads.pure (.move rfl)) ?_
          refine .rp 4 rfl (by kernel_rfl) (by kernel_rfl) (by kernel_rfl) (Reads.pure (.slice (l := 1) (h := ql.length) (m := qc) Tryz.underlying22 ts3 rfl rfl ⟨rfl, rfl⟩ ⟨_, rfl⟩ (by omega) (by omega) (by omega))) ?_
          refine .rp 5 rfl (by kernel_rfl) (by kernel_rfl) (by kernel_rfl) (Reads.pure (.assign rfl)) ?_
          refine .rp 6 rfl (by kernel_rfl) (by kernel_rfl) (by kernel_rfl) (Reads.pure (.assign rfl)) ?_
          refine .done (by kernel_rfl) ?_
          refine .alter (t := 1) (v' := .slice (if qc = 1 then qa else qa.map (·.add (1 * 1))) r.length (qc - 1)) rfl (by rw [hql1]; rfl) ?_
          refine .knowMono (RowAt (if qc = 1 then qa else qa.map (·.add (1 * 1))) (r.flatMap icI)) (.tail (.tail (.tail (.tail .head)))) (fun w h => row_tail h8 (hvr ▸ h) (by omega)) ?_
          exact fin (v, (if qc = 1 then qa else qa.map (·.add (1 * 1))), r, qc - 1) ⟨hv, by show r.length ≤ qc - 1; omega, hri, by show r.length ≤ _; omega⟩ (.cons rfl (.cons rfl (.cons rfl (.cons rfl (.cons rfl (.cons rfl (.cons rfl (.cons rfl (.cons rfl .nil))))))))) (.cons (.tail .head) (.cons (.tail .head) (.cons (.tail .head) (.cons (.tail .head) (.cons .head (.cons .head .nil))))))
        · refine .skip ?_
          exact fin (0, qa, ql, qc) ⟨⟨by decide, by decide⟩, hqc, hqi, hql⟩ (.cons rfl (.cons rfl (.cons rfl (.cons rfl (.cons rfl (.cons rfl (.cons rfl (.cons rfl (.cons rfl .nil))))))))) (.cons .head (.cons .head (.cons .head (.cons .head (.cons .head (.cons .head .nil))))))
  · refine .exit rfl ?_
    refine .endP Tryz.func25 .nil (.cons .head (.cons .head (.cons (.tail (.tail .head)) .nil))) ?_
    exact ⟨[_, _], ⟨e, hC.all hd fun n h => by rw [List.take_of_length_le (by omega)]; exact hns n h, rfl⟩, rfl⟩

end Go.Proofs.YtglhoenjflpibaaGreatDoor


namespace Go.Proofs.YtglhoenjflpibaaGreatDoor
open Go Go.Sp

set_option linter.unusedVariables false

namespace log20
theorem bld42_1_2_3 (x0 : Option Addr) (x1 : ByteArray) (x2 : Int) (w : World) : (Instr.build 42 (([1, 2, 3] : List Nat).zip [.pointer x0, .string x1, .int .i64 x2]).toArray).run Tryz.prog w = .ok (.agg #[.pointer none, .pointer x0, .string x1, .int .i64 x2, .int .i64 0, .int .i64 0, .slice none 0 0]) w := by kernel_rfl
theorem ts3 : TS Tryz.prog 3 1 := .of (by kernel_rfl)
theorem na3 : NotAgg Tryz.prog 3 := ⟨_, Tryz.underlying3, trivial⟩
theorem fd42_6 : FD Tryz.prog 42 6 6 := .of Tryz.underlying42 (by kernel_rfl)
theorem na40 : NotAgg Tryz.prog 40 := ⟨_, Tryz.underlying40, trivial⟩
theorem fd42_4 : FD Tryz.prog 42 4 4 := .of Tryz.underlying42 (by kernel_rfl)
theorem fd42_0 : FD Tryz.prog 42 0 0 := .of Tryz.underlying42 (by kernel_rfl)
theorem na39 : NotAgg Tryz.prog 39 := ⟨_, Tryz.underlying39, trivial⟩
theorem fd42_5 : FD Tryz.prog 42 5 5 := .of Tryz.underlying42 (by kernel_rfl)
end log20
open log20

theorem kept_any (lb db mb : Nat) (d : Dk) (pre : Nm) (most : Int) (z w : Nat) {L : List Piece} (hp : Pre pre) (hF : Found pre d L z w) : Cn Tryz.prog 30 [.pointer (some ⟨lb, 0, none⟩)] LV [blk lb (lcells none db pre most 0 0 none 0 0) 42, blk db (d.cells mb) 60, mp nmv Fl.val mb d.fs] fun v G => v = .bool true ∧ G = [blk lb (lcells none db pre most (z : Int) (w : Int) none 0 0) 42, blk db (d.cells mb) 60, mp nmv Fl.val mb d.fs] := by
  have hzw := hF.zw
  rcases hF.nums with ⟨rfl, rfl, hm⟩ | ⟨hm, hf⟩
  · exact kept00_ok lb db mb d none pre most 0 0 none 0 0 hp hm
  · exact kept1_ok lb db mb d none pre most 0 0 none 0 0 z w hp hm hf (by omega) (by omega) (by omega)

set_option maxHeartbeats 4000000 in
set_option maxRecDepth 20000 in
theorem Open_any (db mb : Nat) (d : Dk) (pre : Nm) (most : Int) (L : List Piece) (z w : Nat) (hd : d.ok) (hp : Pre pre) (hk : ∀ p ∈ d.fs, p.1.length ≤ 64) (hn : d.fs.length ≤ 1000000) (h1 : 256 ≤ most) (h2 : most ≤ 1000000) (hF : Found pre d L z w) : Cn Tryz.prog 10 [.pointer (some ⟨db, 0, none⟩), nmv pre, .int .i64 most] LV [blk db (d.cells mb) 60, mp nmv Fl.val mb d.fs] fun v G => ∃ l ss e, v = .tuple #[.pointer (some ⟨l.lb, 0, none⟩), .int .i64 0] ∧ Opened pre d L z w l ss e ∧ G = [LG db l, blk db (e.cells mb) 60, mp nmv Fl.val mb e.fs] := by
  refine .enter Tryz.func10 rfl (by kernel_rfl) rfl fun R k => ?_
  have h3 := hp.len
  refine .seq ?_
  refine .region ?_
  refine .rd (.assign rfl) ?_
  refine .rd (.assign rfl) ?_
  refine .nil ?_
  refine .seq ?_
  refine .seq ?_
  refine .region ?_
  refine .rd (.move rfl) ?_
  refine .rd (.eqT (m := []) rfl rfl) ?_
  refine .alter (t := 14) (v' := .bool false) rfl (congrArg Value.bool (decide_eq_false hp.ne)) ?_
  refine .rd (.move rfl) ?_
  refine .on (t := 15) rfl rfl ?_
  refine .rd (.move rfl) ?_
  refine .on (t := 15) rfl rfl ?_
  refine .rd (.lenT rfl rfl Tryz.underlying9 rfl) ?_
  refine .on (t := 15) rfl rfl ?_
  refine .rd (.gt rfl rfl) ?_
  refine .alter (t := 18) (v' := .bool false) rfl (congrArg Value.bool (decide_eq_false (by omega))) ?_
  refine .rd (.pickF rfl rfl) ?_
  refine .rd (.move rfl) ?_
  refine .on (t := 20) rfl rfl ?_
  refine .rd (.move rfl) ?_
  refine .on (t := 20) rfl rfl ?_
  refine .fn rfl rfl .nil (fun _ _ _ => trivial) (trim_ok pre abc (by omega) (by decide) (by decide)) (fun v G1 hq => ?_)
  obtain ⟨rfl, rfl⟩ := hq
  simp only [List.nil_append]
  refine .on (t := 20) rfl rfl ?_
  refine .rd (.neT (m := []) rfl rfl) ?_
  refine .alter (t := 23) (v' := .bool false) rfl (congrArg Value.bool (by rw [decide_eq_true (trim_nil.2 hp.abc)]; rfl)) ?_
  refine .rd (.pickF rfl rfl) ?_
  refine .rd (.move rfl) ?_
  refine .on (t := 25) rfl rfl ?_
  refine .rd (.move rfl) ?_
  refine .on (t := 25) rfl rfl ?_
  refine .rd (.lt rfl rfl) ?_
  refine .alter (t := 27) (v' := .bool false) rfl (congrArg Value.bool (decide_eq_false (by omega))) ?_
  refine .rd (.pickF rfl rfl) ?_
  refine .rd (.move rfl) ?_
  refine .on (t := 29) rfl rfl ?_
  refine .rd (.move rfl) ?_
  refine .on (t := 29) rfl rfl ?_
  refine .rd (.gt rfl rfl) ?_
  refine .alter (t := 31) (v' := .bool false) rfl (congrArg Value.bool (decide_eq_false (by omega))) ?_
  refine .rd (.pickF rfl rfl) ?_
  refine .nil ?_
  refine .condF rfl ?_
  refine .skip ?_
  refine .seq ?_
  refine .region ?_
  refine .rd (.move rfl) ?_
  refine .rd (.move rfl) ?_
  refine .rd (.move rfl) ?_
  refine .rd (.build rfl (bld42_1_2_3 _ _ _)) ?_
  refine .ef (.box (l := lcells none db pre most 0 0 none 0 0) rfl rfl (ones.of rfl)) ?_
  rintro _ _ ⟨lx, rfl, rfl⟩
  refine .rd (.assign rfl) ?_
  refine .nil ?_
  refine .seq ?_
  refine .seq ?_
  refine .region ?_
  refine .rd (.move rfl) ?_
  refine .fn rfl rfl (.cons .head (.cons .head (.cons .head .nil))) (Knows.pick .head k) (kept_any lx db mb d pre most z w hp hF) (fun v G1 hq => ?_)
  obtain ⟨rfl, rfl⟩ := hq
  simp only [List.cons_append, List.nil_append]
  refine .rd (.not rfl) ?_
  refine .nil ?_
  refine .condF rfl ?_
  refine .skip ?_
  refine .seq ?_
  refine .region ?_
  refine .rd (.assign rfl) ?_
  refine .nil ?_
  refine .seq ?_
  refine .seq ?_
  refine .region ?_
  refine .rd (.move rfl) ?_
  refine .fn rfl rfl (.cons (.tail .head) (.cons (.tail .head) .nil)) ((Knows.blk .head)) (bases_ok lx db mb d none pre most (z : Int) (w : Int) none 0 0 hk hn hp.len) (fun v G1 hq => ?_)
  obtain ⟨ra, rc, rfl, rfl⟩ := hq
  simp only [List.cons_append, List.nil_append]
  refine .rd (.lenL rfl rfl Tryz.underlying22 rfl) ?_
  refine .rd (.move rfl) ?_
  refine .nil ?_
  refine .perm (.cons (.tail (.tail .head)) (.cons .head (.cons .head (.cons .head (.cons .head .nil))))) ?_
  refine .cast (X' := arr 3 1 ra rc ((L.map (·.1)).flatMap icN)) (by rw [hF.bases]) ?_
  refine .alter (t := 42) (v' := .slice ra L.length rc) rfl (by rw [hF.bases, List.length_map]) ?_
  refine .alter (t := 43) (v' := .int .i64 (L.length : Nat)) rfl (by rw [hF.bases, List.length_map]) ?_
  refine .perm (.cons (.tail (.tail (.tail .head))) (.cons .head (.cons .head (.cons .head (.cons .head .nil))))) ?_
  refine .cast (X' := blk lx (lcells (lastP []) db pre most (z : Int) (w : Int) none (([] : List Sx).map (·.b)).length 0) 42) (rfl) ?_
  refine .nilArr 39 1 none ?_
  refine .cast (X' := arr 39 1 none 0 ((([] : List Sx).map (·.b)).flatMap spb)) rfl ?_
  refine .close (X := bag (SG db) []) .nil (fun _ _ => bag.nil) ?_
  refine .block ?_
  refine .loop (σ := Nat × List Sx × Dk × Option Addr × Nat) (fun ⟨i, ss, e, la, lc⟩ => i ≤ L.length ∧ OpenI pre d L i ss e) (fun ⟨i, ss, e, la, lc⟩ => L.length - i) (fun ⟨i, ss, e, la, lc⟩ => [(0, .pointer (some ⟨db, 0, none⟩)), (8, .pointer (some ⟨lx, 0, none⟩)), (9, .bool true), (42, .slice ra L.length rc), (43, .int .i64 (L.length : Nat)), (44, .int .i64 (i : Nat))]) (fun ⟨i, ss, e, la, lc⟩ => [blk lx (lcells (lastP ss) db pre most (z : Int) (w : Int) la (ss.map (·.b)).length lc) 42, arr 39 1 la lc ((ss.map (·.b)).flatMap spb), bag (SG db) ss, blk db (e.cells mb) 60, mp nmv Fl.val mb e.fs, arr 3 1 ra rc ((L.map (·.1)).flatMap icN), R]) (0, [], d, none, 0) ⟨Nat.zero_le _, .begin pre hd L⟩ (.cons rfl (.cons rfl (.cons rfl (.cons rfl (.cons rfl (.cons rfl .nil)))))) (.cons (.tail (.tail .head)) (.cons (.tail .head) (.cons .head (.cons (.tail .head) (.cons (.tail .head) (.cons .head (.cons .head .nil))))))) (fun s' hI ih => ?_)
  obtain ⟨i, ss, e, la, lc⟩ := s'
  dsimp only at hI ih ⊢
  obtain ⟨hil, hO⟩ := hI
  have hsl := hO.len hil
  have hlL := hF.len
  have hml : (ss.map (·.b)).length = i := by rw [List.length_map]; exact hsl
  refine .seq ?_
  refine .region ?_
  refine .rd (.lt rfl rfl) ?_
  refine .nil ?_
  refine .seq ?_
  refine .condP rfl (fun c8 => ?_) (fun c8 => ?_)
  · refine .skip ?_
    refine .seq ?_
    refine .block ?_
    refine .seq ?_
    obtain ⟨p, hp0⟩ : ∃ p, L[i]? = some p := ⟨_, List.getElem?_eq_getElem (by omega)⟩
    have hh := hF.holds p (List.mem_of_getElem? hp0)
    have hhl := hh.le
    have hp1 : (L.map (·.1))[i]? = some p.1 := by rw [List.getElem?_map, hp0]; rfl
    refine .tell (φ := ∃ b o, ra = some ⟨b, o, none⟩) ((Knows.arr (.tail (.tail (.tail (.tail (.tail .head)))))).mono fun _ h => RowAt.addr h (by rw [flat_length icN_len, List.length_map]; omega)) (fun hh => ?_)
    obtain ⟨b9, o9, h9⟩ := hh
    refine .region ?_
    refine .rd (.indexAddr (b := b9) (o := o9) Tryz.underlying22 ts3 (by show some (Value.slice ra _ _) = _; rw [h9]) rfl (by omega) (by omega)) ?_
    refine .rd (.load na3 rfl (Knows.one (i := 0) (Knows.elem (f := icN) icN_len (by decide) ((Knows.arr (.tail (.tail (.tail (.tail (.tail .head)))))).mono fun _ h => h9 ▸ h) hp1) rfl)) ?_
    refine .rd (.assign rfl) ?_
    refine .nil ?_
    refine .seq ?_
    refine .seq ?_
    refine .region ?_
    refine .rd (.move rfl) ?_
    refine .rd (.nilCheck rfl) ?_
    refine .rd (.fieldAddr fd42_6 rfl) ?_
    refine .rd (.ld na40 rfl .head rfl) ?_
    refine .rd (.lenL rfl rfl Tryz.underlying40 rfl) ?_
    refine .rd (.eqI rfl rfl) ?_
    refine .nil ?_
    refine .joinEx (σ := Unit) (φ := fun _ => True) (E' := fun _ => [(0, .pointer (some ⟨db, 0, none⟩)), (8, .pointer (some ⟨lx, 0, none⟩)), (9, .bool true), (42, .slice ra L.length rc), (43, .int .i64 (L.length : Nat)), (44, .int .i64 (i : Nat)), (11, .int .i64 (p.1 : Nat))]) (Γ' := fun _ => [blk lx (lcells (lastP ss) db pre most (z : Int) (w : Int) la (ss.map (·.b)).length lc) 42, arr 39 1 la lc ((ss.map (·.b)).flatMap spb), bag (SG db) ss, blk db (e.cells mb) 60, mp nmv Fl.val mb e.fs, arr 3 1 ra rc ((L.map (·.1)).flatMap icN), R]) (fun sj hj => ?_) (fun fin => ?_)
    · skip
      refine .seq ?_
      refine .region ?_
      refine .rd (.move rfl) ?_
      refine .rd (.move rfl) ?_
      refine .on (t := 74) rfl rfl ?_
      refine .rd (.move rfl) ?_
      refine .on (t := 74) rfl rfl ?_
      refine .rd (.move rfl) ?_
      refine .on (t := 74) rfl rfl ?_
      refine .fn rfl rfl (.cons .head (.cons .head (.cons (.tail .head) (.cons (.tail .head) .nil)))) (Knows.pick (.tail (.tail .head)) k) (ladd_ok lx db mb e (lastP ss) pre most (z : Int) (w : Int) la lc (ss.map (·.b)) p.1 p.2.1 p.2.2 hO.dok hp hhl (.inl (by rw [hO.get]; exact hh.get)) (by rw [hO.here hF.nodup hp0]; exact hh.file) hh.stop hh.chain hh.good hh.len (by have := hF.len; omega)) (fun v G1 hq => ?_)
      obtain ⟨sb, sm, aa, ac, ia, ic, qa, qc, rfl, hix, hca, rfl⟩ := hq
      simp only [List.cons_append, List.nil_append]
      refine .on (t := 74) rfl rfl ?_
      refine .rd (.eqI rfl rfl) ?_
      refine .alter (t := 78) (v' := .bool true) rfl (congrArg Value.bool (by rfl)) ?_
      refine .rd (.pickT rfl rfl) ?_
      refine .rd (.assign rfl) ?_
      refine .nil ?_
      refine .pack (L := [blk sb ((Sx.mk sb (nameOf pre p.1) (p.1 : Int) p.2.1 sm aa ac ia ic).cells db) 69, arr 71 4 aa ac (Sx.mk sb (nameOf pre p.1) (p.1 : Int) p.2.1 sm aa ac ia ic).rows, arr 3 1 ia ic (sm.flatMap icN)]) (.cons (.tail (.tail (.tail (.tail .head)))) (.cons (.tail (.tail (.tail (.tail .head)))) (.cons (.tail (.tail (.tail (.tail .head)))) .nil))) ?_
      refine .close (X := bag (SG db) (ss ++ [(Sx.mk sb (nameOf pre p.1) (p.1 : Int) p.2.1 sm aa ac ia ic)])) (.cons .head (.cons (.tail (.tail (.tail (.tail .head)))) .nil)) (fun h H => put_segs (ini := ss) (s := (Sx.mk sb (nameOf pre p.1) (p.1 : Int) p.2.1 sm aa ac ia ic)) H) ?_
      refine .perm (.cons (.tail .head) (.cons .head (.cons .head (.cons .head (.cons .head (.cons .head (.cons .head .nil))))))) ?_
      refine .cast (X' := blk lx (lcells (lastP (ss ++ [(Sx.mk sb (nameOf pre p.1) (p.1 : Int) p.2.1 sm aa ac ia ic)])) db pre most (z : Int) (w : Int) qa ((ss ++ [(Sx.mk sb (nameOf pre p.1) (p.1 : Int) p.2.1 sm aa ac ia ic)]).map (·.b)).length qc) 42) (by rw [lastP_snoc, List.map_append]; rfl) ?_
      refine .perm (.cons (.tail (.tail .head)) (.cons .head (.cons .head (.cons .head (.cons .head (.cons .head (.cons .head .nil))))))) ?_
      refine .cast (X' := arr 39 1 qa qc (((ss ++ [(Sx.mk sb (nameOf pre p.1) (p.1 : Int) p.2.1 sm aa ac ia ic)]).map (·.b)).flatMap spb)) (by rw [List.map_append]; rfl) ?_
      refine .seq ?_
      refine .region ?_
      refine .rd (.move rfl) ?_
      refine .rd (.not rfl) ?_
      refine .nil ?_
      refine .condF rfl ?_
      refine .skip ?_
      refine .inBlock ?_
      refine .region ?_
      refine .rd (.add rfl rfl (by omega) (by omega)) ?_
      refine .rd (.move rfl) ?_
      refine .nil ?_
      exact (ih (i + 1, ss ++ [(Sx.mk sb (nameOf pre p.1) (p.1 : Int) p.2.1 sm aa ac ia ic)], (e.put (nameOf pre p.1) ⟨flat p.2.1, (flat p.2.1).length⟩), qa, qc) ⟨by show i + 1 ≤ _; omega, hO.step hF.nodup hp0 hh hix hca⟩ (by show L.length - (i + 1) < L.length - i; omega)).to (.cons rfl (.cons rfl (.cons rfl (.cons rfl (.cons rfl (.cons rfl .nil)))))) (.cons (.tail .head) (.cons .head (.cons .head (.cons .head (.cons .head (.cons .head (.cons .head .nil)))))))
    · refine .condP rfl (fun c10 => ?_) (fun c10 => ?_)
      · have hi0 : i = 0 := by omega
        have hle : (p.1 : Int) ≤ (z : Int) := hF.first (hi0 ▸ hp0)
        refine .region ?_
        refine .rd (.move rfl) ?_
        refine .rd (.move rfl) ?_
        refine .on (t := 55) rfl rfl ?_
        refine .rd (.move rfl) ?_
        refine .on (t := 55) rfl rfl ?_
        refine .rd (.move rfl) ?_
        refine .on (t := 55) rfl rfl ?_
        refine .rd (.nilCheck rfl) ?_
        refine .on (t := 55) rfl rfl ?_
        refine .rd (.fieldAddr fd42_4 rfl) ?_
        refine .on (t := 55) rfl rfl ?_
        refine .rd (.ld na3 rfl .head rfl) ?_
        refine .on (t := 55) rfl rfl ?_
        refine .rd (.le rfl rfl) ?_
        refine .alter (t := 61) (v' := .bool true) rfl (congrArg Value.bool (decide_eq_true hle)) ?_
        refine .rd (.pickT rfl rfl) ?_
        refine .rd (.assign rfl) ?_
        refine .nil ?_
        exact fin () trivial (.cons rfl (.cons rfl (.cons rfl (.cons rfl (.cons rfl (.cons rfl (.cons rfl .nil))))))) (.cons .head (.cons .head (.cons .head (.cons .head (.cons .head (.cons .head (.cons .head .nil)))))))
      · obtain ⟨r, y, hry, hyi, hlp, hyok, hnx⟩ := hO.ahead hF hil (by omega) hp0
        refine .region ?_
        refine .rd (.move rfl) ?_
        refine .rd (.move rfl) ?_
        refine .on (t := 64) rfl rfl ?_
        refine .rd (.move rfl) ?_
        refine .on (t := 64) rfl rfl ?_
        refine .rd (.move rfl) ?_
        refine .on (t := 64) rfl rfl ?_
        refine .rd (.nilCheck rfl) ?_
        refine .on (t := 64) rfl rfl ?_
        refine .rd (.fieldAddr fd42_0 rfl) ?_
        refine .on (t := 64) rfl rfl ?_
        refine .rd (.ld na39 rfl .head rfl) ?_
        refine .alter (t := 69) (v' := .pointer (some ⟨y.b, 0, none⟩)) rfl (by rw [hlp]) ?_
        refine .on (t := 64) rfl rfl ?_
        refine .fn rfl rfl .nil ((Knows.allSG (.tail (.tail .head))).mono fun _ h => h y hyi) (Next_ok db y hyok) (fun v G1 hq => ?_)
        obtain ⟨rfl, rfl⟩ := hq
        simp only [List.nil_append]
        refine .on (t := 64) rfl rfl ?_
        refine .rd (.eqI rfl rfl) ?_
        refine .alter (t := 71) (v' := .bool true) rfl (congrArg Value.bool (decide_eq_true hnx)) ?_
        refine .rd (.pickT rfl rfl) ?_
        refine .rd (.assign rfl) ?_
        refine .nil ?_
        exact fin () trivial (.cons rfl (.cons rfl (.cons rfl (.cons rfl (.cons rfl (.cons rfl (.cons rfl .nil))))))) (.cons .head (.cons .head (.cons .head (.cons .head (.cons .head (.cons .head (.cons .head .nil)))))))
  · refine .exit rfl ?_
    refine .seq ?_
    refine .seq ?_
    obtain rfl : i = L.length := by omega
    obtain ⟨r, y, hry, hyi, hlp, hyok, hyz⟩ := hO.end_ hF
    have hzw := hF.zw
    have hLl : 0 < L.length := List.length_pos_iff.2 hF.nonil
    have hyn := hyok.next_le
    have hok := hO.log hF hp hry h1 h2 lx la lc
    refine .draws [3, 10, 15] [blk lx (lcells (lastP ss) db pre most (z : Int) (w : Int) la (ss.map (·.b)).length lc) 42] (by kernel_rfl) ?_
    refine .rp 0 rfl (by kernel_rfl) (by kernel_rfl) (by kernel_rfl) (Reads.pure (.move rfl)) ?_
    refine .rp 1 rfl (by kernel_rfl) (by kernel_rfl) (by kernel_rfl) (Reads.pure (.nilCheck rfl)) ?_
    refine .rp 2 rfl (by kernel_rfl) (by kernel_rfl) (by kernel_rfl) (Reads.pure (.fieldAddr fd42_6 rfl)) ?_
    refine .rd 3 rfl rfl (by kernel_rfl) (by kernel_rfl) (by kernel_rfl) (.ld na40 rfl .head rfl) (.cons .head .nil) ?_
    refine .rp 4 rfl (by kernel_rfl) (by kernel_rfl) (by kernel_rfl) (Reads.pure (.lenL rfl rfl Tryz.underlying40 rfl)) ?_
    refine .rp 5 rfl (by kernel_rfl) (by kernel_rfl) (by kernel_rfl) (Reads.pure (.eqI rfl rfl)) ?_
    refine .alter (t := 93) (v' := .bool false) rfl (congrArg Value.bool (decide_eq_false (by omega))) ?_
    refine .rp 6 rfl (by kernel_rfl) (by kernel_rfl) (by kernel_rfl) (Reads.pure (.move rfl)) ?_
    refine .rpG 7 (t := 94) rfl rfl rfl (by kernel_rfl) (by kernel_rfl) (by kernel_rfl) (Reads.pure (.move rfl)) ?_
    refine .rpG 8 (t := 94) rfl rfl rfl (by kernel_rfl) (by kernel_rfl) (by kernel_rfl) (Reads.pure (.nilCheck rfl)) ?_
    refine .rpG 9 (t := 94) rfl rfl rfl (by kernel_rfl) (by kernel_rfl) (by kernel_rfl) (Reads.pure (.fieldAddr fd42_0 rfl)) ?_
    refine .rdG 10 (t := 94) rfl rfl rfl rfl (by kernel_rfl) (by kernel_rfl) (by kernel_rfl) (.ld na39 rfl .head rfl) (.cons .head .nil) ?_
    refine .alter (t := 98) (v' := .pointer (some ⟨y.b, 0, none⟩)) rfl (by rw [hlp]) ?_
    refine .rpG 12 (t := 94) rfl rfl rfl (by kernel_rfl) (by kernel_rfl) (by kernel_rfl) (Reads.pure (.move rfl)) ?_
    refine .rpG 13 (t := 94) rfl rfl rfl (by kernel_rfl) (by kernel_rfl) (by kernel_rfl) (Reads.pure (.nilCheck rfl)) ?_
    refine .rpG 14 (t := 94) rfl rfl rfl (by kernel_rfl) (by kernel_rfl) (by kernel_rfl) (Reads.pure (.fieldAddr fd42_4 rfl)) ?_
    refine .rdG 15 (t := 94) rfl rfl rfl rfl (by kernel_rfl) (by kernel_rfl) (by kernel_rfl) (.ld na3 rfl .head rfl) (.cons .head .nil) ?_
    refine .efG 11 (t := 94) (by kernel_rfl) rfl rfl rfl (.fn rfl rfl .nil ((Knows.allSG (.tail (.tail .head))).mono fun _ h => h y hyi) (Next_ok db y hyok)) ?_
    rintro v _ ⟨G1, hq, rfl⟩
    obtain ⟨rfl, rfl⟩ := hq
    simp only [List.nil_append]
    refine ⟨.inr ⟨_, (.cons .head .nil)⟩, ?_⟩
    refine .rpG 16 (t := 94) rfl rfl rfl (by kernel_rfl) (by kernel_rfl) (by kernel_rfl) (Reads.pure (.lt rfl rfl)) ?_
    refine .alter (t := 104) (v' := .bool false) rfl (congrArg Value.bool (decide_eq_false (by omega))) ?_
    refine .rp 17 rfl (by kernel_rfl) (by kernel_rfl) (by kernel_rfl) (Reads.pure (.pickF rfl rfl)) ?_
    refine .done (by kernel_rfl) ?_
    refine .condF rfl ?_
    refine .skip ?_
    refine .seq ?_
    refine .draws [4, 8] [blk lx (lcells (lastP ss) db pre most (z : Int) (w : Int) la (ss.map (·.b)).length lc) 42] (by kernel_rfl) ?_
    refine .rp 0 rfl (by kernel_rfl) (by kernel_rfl) (by kernel_rfl) (Reads.pure (.move rfl)) ?_
    refine .rp 1 rfl (by kernel_rfl) (by kernel_rfl) (by kernel_rfl) (Reads.pure (.move rfl)) ?_
    refine .rp 2 rfl (by kernel_rfl) (by kernel_rfl) (by kernel_rfl) (Reads.pure (.nilCheck rfl)) ?_
    refine .rp 3 rfl (by kernel_rfl) (by kernel_rfl) (by kernel_rfl) (Reads.pure (.fieldAddr fd42_5 rfl)) ?_
    refine .rd 4 rfl rfl (by kernel_rfl) (by kernel_rfl) (by kernel_rfl) (.ld na3 rfl .head rfl) (.cons .head .nil) ?_
    refine .rp 5 rfl (by kernel_rfl) (by kernel_rfl) (by kernel_rfl) (Reads.pure (.move rfl)) ?_
    refine .rp 6 rfl (by kernel_rfl) (by kernel_rfl) (by kernel_rfl) (Reads.pure (.nilCheck rfl)) ?_
    refine .rp 7 rfl (by kernel_rfl) (by kernel_rfl) (by kernel_rfl) (Reads.pure (.fieldAddr fd42_0 rfl)) ?_
    refine .rd 8 rfl rfl (by kernel_rfl) (by kernel_rfl) (by kernel_rfl) (.ld na39 rfl .head rfl) (.cons .head .nil) ?_
    refine .alter (t := 123) (v' := .pointer (some ⟨y.b, 0, none⟩)) rfl (by rw [hlp]) ?_
    refine .ef 9 (by kernel_rfl) rfl (.fn rfl rfl .nil ((Knows.allSG (.tail (.tail .head))).mono fun _ h => h y hyi) (Next_ok db y hyok)) ?_
    rintro v _ ⟨G1, hq, rfl⟩
    obtain ⟨rfl, rfl⟩ := hq
    simp only [List.nil_append]
    refine ⟨.inr ⟨_, (.cons .head .nil)⟩, ?_⟩
    refine .rp 10 rfl (by kernel_rfl) (by kernel_rfl) (by kernel_rfl) (Reads.pure (.min2 rfl rfl rfl)) ?_
    refine .alter (t := 125) (v' := .int .i64 (min (w : Int) y.next)) rfl (congrArg (Value.int .i64) (by omega)) ?_
    refine .rp 11 rfl (by kernel_rfl) (by kernel_rfl) (by kernel_rfl) (Reads.pure (.nilCheck rfl)) ?_
    refine .rp 12 rfl (by kernel_rfl) (by kernel_rfl) (by kernel_rfl) (Reads.pure (.fieldAddr fd42_5 rfl)) ?_
    refine .ef0 13 (by kernel_rfl) rfl (.store ts3 rfl rfl .head rfl (Nat.le_of_ble_eq_true rfl)) ?_
    rintro _ _ rfl
    refine ⟨.inl (by kernel_rfl), ?_⟩
    refine .done (by kernel_rfl) ?_
    refine .seq ?_
    refine .region ?_
    refine .rd (.move rfl) ?_
    refine .rd (.assign rfl) ?_
    refine .rd (.assign rfl) ?_
    refine .nil ?_
    refine .cast (X' := blk (Lx.mk lx pre most z (min (w : Int) y.next) r y la lc).lb ((Lx.mk lx pre most z (min (w : Int) y.next) r y la lc).cells db) 42) (by rw [hlp, hml, show L.length = r.length + 1 by rw [← hsl, hry, List.length_append]; rfl]; rfl) ?_
    refine .perm (.cons (.tail .head) (.cons .head (.cons .head (.cons .head (.cons .head (.cons .head (.cons .head .nil))))))) ?_
    refine .cast (X' := arr 39 1 (Lx.mk lx pre most z (min (w : Int) y.next) r y la lc).la (Lx.mk lx pre most z (min (w : Int) y.next) r y la lc).lc ((Lx.mk lx pre most z (min (w : Int) y.next) r y la lc).segs.flatMap sp)) (by rw [hry, List.flatMap_map]; rfl) ?_
    refine .perm (.cons (.tail (.tail .head)) (.cons .head (.cons .head (.cons .head (.cons .head (.cons .head (.cons .head .nil))))))) ?_
    refine .cast (X' := bag (SG db) (Lx.mk lx pre most z (min (w : Int) y.next) r y la lc).segs) (by rw [hry]; rfl) ?_
    refine .pack (L := [blk (Lx.mk lx pre most z (min (w : Int) y.next) r y la lc).lb ((Lx.mk lx pre most z (min (w : Int) y.next) r y la lc).cells db) 42, arr 39 1 (Lx.mk lx pre most z (min (w : Int) y.next) r y la lc).la (Lx.mk lx pre most z (min (w : Int) y.next) r y la lc).lc ((Lx.mk lx pre most z (min (w : Int) y.next) r y la lc).segs.flatMap sp), bag (SG db) (Lx.mk lx pre most z (min (w : Int) y.next) r y la lc).segs]) (.cons (.tail (.tail .head)) (.cons (.tail .head) (.cons .head .nil))) ?_
    refine .retP Tryz.func10 (.cons (.tmp rfl) (.cons (.tmp rfl) .nil)) (.cons .head (.cons .head (.cons .head (.cons (.tail .head) .nil)))) ?_
    exact ⟨[_, _, _], ⟨(Lx.mk lx pre most z (min (w : Int) y.next) r y la lc), ss, e, rfl, ⟨hok, hO, hry.symm, rfl, rfl⟩, rfl⟩, rfl⟩

end Go.Proofs.YtglhoenjflpibaaGreatDoor


namespace Go.Proofs.YtglhoenjflpibaaGreatDoor
open Go Go.Sp

set_option linter.unusedVariables false

namespace log14
theorem fd42_4 : FD Tryz.prog 42 4 4 := .of Tryz.underlying42 (by kernel_rfl)
theorem na3 : NotAgg Tryz.prog 3 := ⟨_, Tryz.underlying3, trivial⟩
theorem fd42_0 : FD Tryz.prog 42 0 0 := .of Tryz.underlying42 (by kernel_rfl)
theorem na39 : NotAgg Tryz.prog 39 := ⟨_, Tryz.underlying39, trivial⟩
theorem ts34 : TS Tryz.prog 34 6 := .of (by kernel_rfl)
theorem fd34_0 : FD Tryz.prog 34 0 0 := .of Tryz.underlying34 (by kernel_rfl)
end log14
open log14

theorem map_at {l : List BatM} {m : List Bat} {i : Nat} {y : BatM} {b : Bat} (h : l.map (·.1) = m) (hy : l[i]? = some y) (hb : m[i]? = some b) : y.1 = b := by
  have := congrArg (fun l => l[i]?) h
  simp only [List.getElem?_map, hy, hb, Option.map_some] at this
  exact Option.some.inj this
theorem three_safe {l : Lx} {d : Dk} {st hi : Int} {u n z : Nat} (h : Stage l d [sb 1 0, sb 1 1, sb 1 2] (flat [sb 1 0, sb 1 1]).length st hi u n) (hz : z ≤ l.cur.bs.length) (h1 : ∀ q < z, pS l.cur ((d.file l.cur.nm).safe : Int) q = false) (h2 : ∀ q, z ≤ q → q < l.cur.bs.length → pS l.cur ((d.file l.cur.nm).safe : Int) q = true) : nextOf l.cur.base (l.cur.bs.take z) = 2 := by
  have := safe_is (m := 2) h.ok.cur.1 (by rw [h.bs]; decide) (by rw [h.safe, h.bs]; rfl) hz h1 h2
  rw [this, h.bs]; exact nextS2 _

set_option maxHeartbeats 4000000 in
set_option maxRecDepth 20000 in
theorem CutNo_ok (db : Nat) (l : Lx) (off : Int) (h1 : off < l.start) : Cn Tryz.prog 22 [.pointer (some ⟨l.lb, 0, none⟩), .int .i64 off] (LogAt db l) [] fun v G => v = .int .i64 10 ∧ G = [] := by
  refine .enter Tryz.func22 rfl (by kernel_rfl) rfl fun R k => ?_
  refine .seq ?_
  refine .region ?_
  refine .rd (.assign rfl) ?_
  refine .nil ?_
  refine .seq ?_
  refine .seq ?_
  refine .region ?_
  refine .rd (.move rfl) ?_
  refine .rd (.move rfl) ?_
  refine .rd (.nilCheck rfl) ?_
  refine .rd (.fieldAddr fd42_4 rfl) ?_
  refine .rd (.load na3 rfl (Knows.one (i := 4) (Knows.pick .head (k.mono fun _ h => h.1)) rfl)) ?_
  refine .rd (.lt rfl rfl) ?_
  refine .alter (t := 11) (v' := .bool true) rfl (congrArg Value.bool (decide_eq_true h1)) ?_
  refine .rd (.move rfl) ?_
  refine .off (t := 12) rfl rfl rfl ?_
  refine .off (t := 12) rfl rfl rfl ?_
  refine .off (t := 12) rfl rfl rfl ?_
  refine .off (t := 12) rfl rfl rfl ?_
  refine .off (t := 12) rfl rfl rfl ?_
  refine .off (t := 12) rfl rfl rfl ?_
  refine .off (t := 12) rfl rfl rfl ?_
  refine .rd (.pickT rfl rfl) ?_
  refine .nil ?_
  refine .condT rfl ?_
  refine .seq ?_
  refine .region ?_
  refine .rd (.assign rfl) ?_
  refine .nil ?_
  refine .retP Tryz.func22 (.cons (.tmp rfl) .nil) (.cons .head .nil) ?_
  exact ⟨[], ⟨rfl, rfl⟩, rfl⟩

set_option maxHeartbeats 4000000 in
set_option maxRecDepth 20000 in
theorem shown_ok : Cn Tryz.prog 8 [] LV [] fun v G => v = .bool true ∧ G = [] := by
  refine .enter Tryz.func8 rfl (by kernel_rfl) rfl fun R k => ?_
  refine .seq ?_
  refine .region ?_
  refine .rd (.assign rfl) ?_
  refine .nil ?_
  refine .seq ?_
  refine .region ?_
  refine .fn rfl rfl .nil (fun _ _ _ => trivial) (New_ok 10000 (by decide) (by decide)) (fun v G1 hq => ?_)
  obtain ⟨db, mb, rfl, rfl⟩ := hq
  simp only [List.cons_append, List.nil_append]
  refine .rd (.move rfl) ?_
  refine .rd (.extract rfl rfl) ?_
  refine .rd (.extract rfl rfl) ?_
  refine .rd (.assign rfl) ?_
  refine .rd (.assign rfl) ?_
  refine .nil ?_
  refine .seq ?_
  refine .seq ?_
  refine .region ?_
  refine .rd (.move rfl) ?_
  refine .rd (.eqNilP Tryz.underlying24 rfl rfl) ?_
  refine .rd (.move rfl) ?_
  refine .on (t := 21) rfl rfl ?_
  refine .rd (.move rfl) ?_
  refine .on (t := 21) rfl rfl ?_
  refine .rd (.neI rfl rfl) ?_
  refine .alter (t := 23) (v' := .bool false) rfl (congrArg Value.bool (by rfl)) ?_
  refine .rd (.pickF rfl rfl) ?_
  refine .nil ?_
  refine .condF rfl ?_
  refine .skip ?_
  refine .seq ?_
  refine .region ?_
  refine .rd (.move rfl) ?_
  refine .fn rfl rfl (.cons .head (.cons .head .nil)) (Knows.pick .head k) (Open_ok7 db mb (Dk.mk 10000 []) [112] 256 (dk0_ok (by decide)) prep (dk0_short _) (by decide) (dk0_free _ _) (by decide) (by decide)) (fun v G1 hq => ?_)
  obtain ⟨l0, d1, rfl, hO, rfl⟩ := hq
  simp only [List.cons_append, List.nil_append]
  have hS0 := Stage.begin hO
  refine .rd (.move rfl) ?_
  refine .rd (.extract rfl rfl) ?_
  refine .rd (.extract rfl rfl) ?_
  refine .rd (.assign rfl) ?_
  refine .rd (.assign rfl) ?_
  refine .nil ?_
  refine .alter (t := 3) (v' := .pointer (some ⟨l0.lb, 0, none⟩)) rfl (rfl) ?_
  refine .seq ?_
  refine .seq ?_
  refine .region ?_
  refine .rd (.move rfl) ?_
  refine .rd (.eqNilP Tryz.underlying28 rfl rfl) ?_
  refine .rd (.move rfl) ?_
  refine .on (t := 32) rfl rfl ?_
  refine .rd (.move rfl) ?_
  refine .on (t := 32) rfl rfl ?_
  refine .rd (.neI rfl rfl) ?_
  refine .alter (t := 34) (v' := .bool false) rfl (congrArg Value.bool (by rfl)) ?_
  refine .rd (.pickF rfl rfl) ?_
  refine .nil ?_
  refine .condF rfl ?_
  refine .skip ?_
  refine .seq ?_
  refine .region ?_
  refine .rd (.move rfl) ?_
  refine .fn rfl rfl .nil (fun _ _ _ => trivial) (small_ok 1 (by decide)) (fun v G1 hq => ?_)
  obtain ⟨ra, rc, rfl, rfl⟩ := hq
  simp only [List.cons_append, List.nil_append]
  have hn0 : l0.next = 0 := hS0.next
  have hg0 : (sb 1 l0.next).good := by rw [hn0]; exact sb_good1 (by decide) (by decide)
  have hq0 : (enc (sb 1 l0.next)).length ≤ 76 := by rw [hn0]; exact sb_enc1 (by decide) (by decide)
  have hz0 : Dk.size d1 = 10000 := hS0.size
  have hu0 := hS0.used
  have hl0 := hS0.len
  refine .fn rfl rfl (.cons (.tail .head) (.cons (.tail .head) (.cons (.tail .head) .nil))) ((Knows.pick (.tail .head) k).and (Knows.arr .head)) (Append_ok7 db mb d1 l0 (smallB 1) ra rc hS0.dok hS0.ok hS0.own hg0 (by omega) (Nat.le_trans (Nat.add_le_add hu0 hq0) (by rw [hz0]; decide)) (by omega) (by rw [hS0.segs]; decide)) (fun v G1 hq => ?_)
  obtain ⟨l1, e1, rfl, hA0, rfl⟩ := hq
  simp only [List.cons_append, List.nil_append]
  refine .alter (t := 39) (v' := .tuple #[.int .i64 0, .int .i64 0]) rfl (by rw [hn0]) ?_
  replace hA0 : AppTo l0 d1 (sb 1 l0.next) l1 e1 := hA0
  rw [hn0] at hA0
  have hS1 := hS0.app hA0 (by decide) (sb_enc1 (by decide) (by decide))
  simp only [List.nil_append] at hS1
  refine .alter (t := 3) (v' := .pointer (some ⟨l1.lb, 0, none⟩)) rfl (by rw [hA0.lb]) ?_
  refine .rd (.move rfl) ?_
  refine .rd (.extract rfl rfl) ?_
  refine .rd (.extract rfl rfl) ?_
  refine .rd (.assign rfl) ?_
  refine .rd (.assign rfl) ?_
  refine .nil ?_
  refine .seq ?_
  refine .region ?_
  refine .rd (.move rfl) ?_
  refine .fn rfl rfl .nil (fun _ _ _ => trivial) (small_ok 1 (by decide)) (fun v G1 hq => ?_)
  obtain ⟨ra, rc, rfl, rfl⟩ := hq
  simp only [List.cons_append, List.nil_append]
  have hn1 : l1.next = 1 := hS1.next.trans (en1 0)
  have hg1 : (sb 1 l1.next).good := by rw [hn1]; exact sb_good1 (by decide) (by decide)
  have hq1 : (enc (sb 1 l1.next)).length ≤ 76 := by rw [hn1]; exact sb_enc1 (by decide) (by decide)
  have hz1 : Dk.size e1 = 10000 := hS1.size
  have hu1 := hS1.used
  have hl1 := hS1.len
  refine .fn rfl rfl (.cons (.tail .head) (.cons (.tail .head) (.cons (.tail .head) .nil))) ((Knows.pick (.tail (.tail .head)) k).and (Knows.arr .head)) (Append_ok7 db mb e1 l1 (smallB 1) ra rc hS1.dok hS1.ok hS1.own hg1 (by omega) (Nat.le_trans (Nat.add_le_add hu1 hq1) (by rw [hz1]; decide)) (by omega) (by rw [hS1.segs]; decide)) (fun v G1 hq => ?_)
  obtain ⟨l2, e2, rfl, hA1, rfl⟩ := hq
  simp only [List.cons_append, List.nil_append]
  refine .alter (t := 45) (v' := .tuple #[.int .i64 1, .int .i64 0]) rfl (by rw [hn1]) ?_
  replace hA1 : AppTo l1 e1 (sb 1 l1.next) l2 e2 := hA1
  rw [hn1] at hA1
  have hS2 := hS1.app hA1 (Nat.lt_of_le_of_lt flatS1 (by decide)) (sb_enc1 (by decide) (by decide))
  simp only [List.nil_append, List.cons_append] at hS2
  refine .alter (t := 3) (v' := .pointer (some ⟨l2.lb, 0, none⟩)) rfl (by rw [hA1.lb]) ?_
  refine .rd (.move rfl) ?_
  refine .rd (.extract rfl rfl) ?_
  refine .rd (.extract rfl rfl) ?_
  refine .rd (.assign rfl) ?_
  refine .rd (.assign rfl) ?_
  refine .nil ?_
  refine .seq ?_
  refine .region ?_
  refine .rd (.move rfl) ?_
  refine .rd (.nilCheck rfl) ?_
  refine .rd (.fieldAddr fd42_0 rfl) ?_
  refine .rd (.load na39 rfl (Knows.one (i := 0) ((LG.at .head).mono fun _ h => h.1) rfl)) ?_
  refine .fn rfl rfl (.cons (.tail .head) (.cons (.tail .head) .nil)) ((LG.at .head).mono fun _ h => h.2.2 _ l2.cur_in) (SegSync_ok db mb e2 l2.cur hS2.dok hS2.ok.cur.2.2.1) (fun v G1 hq => ?_)
  obtain ⟨rfl, rfl⟩ := hq
  simp only [List.cons_append, List.nil_append]
  refine .cast (X' := blk db ((sync l2 e2).cells mb) 60) (rfl) ?_
  refine .perm (.cons (.tail .head) (.cons .head (.cons .head (.cons .head (.cons .head (.cons .head .nil)))))) ?_
  refine .cast (X' := mp nmv Fl.val mb (sync l2 e2).fs) (rfl) ?_
  have hY := hS2.sync
  refine .rd (.assign rfl) ?_
  refine .nil ?_
  refine .seq ?_
  refine .region ?_
  refine .rd (.move rfl) ?_
  refine .fn rfl rfl .nil (fun _ _ _ => trivial) (small_ok 1 (by decide)) (fun v G1 hq => ?_)
  obtain ⟨ra, rc, rfl, rfl⟩ := hq
  simp only [List.cons_append, List.nil_append]
  have hn2 : l2.next = 2 := hY.next.trans (nextS2 0)
  have hg2 : (sb 1 l2.next).good := by rw [hn2]; exact sb_good1 (by decide) (by decide)
  have hq2 : (enc (sb 1 l2.next)).length ≤ 76 := by rw [hn2]; exact sb_enc1 (by decide) (by decide)
  have hz2 : Dk.size (sync l2 e2) = 10000 := hY.size
  have hu2 := hY.used
  have hl2 := hY.len
  refine .fn rfl rfl (.cons (.tail (.tail (.tail .head))) (.cons (.tail (.tail .head)) (.cons (.tail .head) .nil))) ((Knows.pick (.tail (.tail (.tail .head))) k).and (Knows.arr .head)) (Append_ok7 db mb (sync l2 e2) l2 (smallB 1) ra rc hY.dok hY.ok hY.own hg2 (by omega) (Nat.le_trans (Nat.add_le_add hu2 hq2) (by rw [hz2]; decide)) (by omega) (by rw [hY.segs]; decide)) (fun v G1 hq => ?_)
  obtain ⟨l3, e3, rfl, hA2, rfl⟩ := hq
  simp only [List.cons_append, List.nil_append]
  refine .alter (t := 56) (v' := .tuple #[.int .i64 2, .int .i64 0]) rfl (by rw [hn2]) ?_
  replace hA2 : AppTo l2 (sync l2 e2) (sb 1 l2.next) l3 e3 := hA2
  rw [hn2] at hA2
  have hS3 := hY.app hA2 (Nat.lt_of_le_of_lt flatS2 (by decide)) (sb_enc1 (by decide) (by decide))
  simp only [List.nil_append, List.cons_append] at hS3
  refine .alter (t := 3) (v' := .pointer (some ⟨l3.lb, 0, none⟩)) rfl (by rw [hA2.lb]) ?_
  refine .rd (.move rfl) ?_
  refine .rd (.extract rfl rfl) ?_
  refine .rd (.extract rfl rfl) ?_
  refine .rd (.assign rfl) ?_
  refine .rd (.assign rfl) ?_
  refine .nil ?_
  have hn3 : l3.next = 3 := hS3.next.trans (nextS3 0)
  refine .seq ?_
  refine .seq ?_
  refine .region ?_
  refine .rd (.move rfl) ?_
  refine .rd (.neI rfl rfl) ?_
  refine .alter (t := 60) (v' := .bool false) rfl (congrArg Value.bool (by rfl)) ?_
  refine .rd (.move rfl) ?_
  refine .on (t := 61) rfl rfl ?_
  refine .rd (.move rfl) ?_
  refine .on (t := 61) rfl rfl ?_
  refine .rd (.neI rfl rfl) ?_
  refine .alter (t := 63) (v' := .bool false) rfl (congrArg Value.bool (by rfl)) ?_
  refine .rd (.pickF rfl rfl) ?_
  refine .rd (.move rfl) ?_
  refine .on (t := 65) rfl rfl ?_
  refine .rd (.move rfl) ?_
  refine .on (t := 65) rfl rfl ?_
  refine .rd (.neI rfl rfl) ?_
  refine .alter (t := 67) (v' := .bool false) rfl (congrArg Value.bool (by rfl)) ?_
  refine .rd (.pickF rfl rfl) ?_
  refine .rd (.move rfl) ?_
  refine .on (t := 69) rfl rfl ?_
  refine .rd (.move rfl) ?_
  refine .on (t := 69) rfl rfl ?_
  refine .rd (.neI rfl rfl) ?_
  refine .alter (t := 71) (v' := .bool false) rfl (congrArg Value.bool (by rfl)) ?_
  refine .rd (.pickF rfl rfl) ?_
  refine .rd (.move rfl) ?_
  refine .on (t := 73) rfl rfl ?_
  refine .rd (.move rfl) ?_
  refine .on (t := 73) rfl rfl ?_
  refine .rd (.neI rfl rfl) ?_
  refine .alter (t := 75) (v' := .bool false) rfl (congrArg Value.bool (by rfl)) ?_
  refine .rd (.pickF rfl rfl) ?_
  refine .rd (.move rfl) ?_
  refine .on (t := 77) rfl rfl ?_
  refine .rd (.move rfl) ?_
  refine .on (t := 77) rfl rfl ?_
  refine .rd (.neI rfl rfl) ?_
  refine .alter (t := 79) (v' := .bool false) rfl (congrArg Value.bool (by rfl)) ?_
  refine .rd (.pickF rfl rfl) ?_
  refine .rd (.move rfl) ?_
  refine .on (t := 81) rfl rfl ?_
  refine .rd (.move rfl) ?_
  refine .on (t := 81) rfl rfl ?_
  refine .rd (.neI rfl rfl) ?_
  refine .alter (t := 83) (v' := .bool false) rfl (congrArg Value.bool (by rfl)) ?_
  refine .rd (.pickF rfl rfl) ?_
  refine .rd (.move rfl) ?_
  refine .on (t := 85) rfl rfl ?_
  refine .rd (.move rfl) ?_
  refine .on (t := 85) rfl rfl ?_
  refine .rd (.nilCheck rfl) ?_
  refine .on (t := 85) rfl rfl ?_
  refine .rd (.fieldAddr fd42_0 rfl) ?_
  refine .on (t := 85) rfl rfl ?_
  refine .rd (.load na39 rfl (Knows.one (i := 0) ((LG.at .head).mono fun _ h => h.1) rfl)) ?_
  refine .on (t := 85) rfl rfl ?_
  refine .fn rfl rfl .nil ((LG.at .head).mono fun _ h => h.2.2 _ l3.cur_in) (Next_ok db l3.cur hS3.ok.cur.1) (fun v G1 hq => ?_)
  obtain ⟨rfl, rfl⟩ := hq
  simp only [List.nil_append]
  refine .alter (t := 90) (v' := .int .i64 3) rfl (congrArg (Value.int .i64) (hn3)) ?_
  refine .on (t := 85) rfl rfl ?_
  refine .rd (.neI rfl rfl) ?_
  refine .alter (t := 91) (v' := .bool false) rfl (congrArg Value.bool (by rfl)) ?_
  refine .rd (.pickF rfl rfl) ?_
  refine .rd (.move rfl) ?_
  refine .on (t := 93) rfl rfl ?_
  refine .rd (.move rfl) ?_
  refine .on (t := 93) rfl rfl ?_
  refine .rd (.nilCheck rfl) ?_
  refine .on (t := 93) rfl rfl ?_
  refine .rd (.fieldAddr fd42_0 rfl) ?_
  refine .on (t := 93) rfl rfl ?_
  refine .rd (.load na39 rfl (Knows.one (i := 0) ((LG.at .head).mono fun _ h => h.1) rfl)) ?_
  refine .on (t := 93) rfl rfl ?_
  refine .fn rfl rfl (.cons (.tail .head) (.cons (.tail .head) .nil)) ((LG.at .head).mono fun _ h => h.2.2 _ l3.cur_in) (Safe_ok db mb e3 l3.cur hS3.ok.cur.1) (fun v G1 hq => ?_)
  obtain ⟨z, hz, hz1, hz2, rfl, rfl⟩ := hq
  simp only [List.cons_append, List.nil_append]
  refine .alter (t := 98) (v' := .int .i64 2) rfl (congrArg (Value.int .i64) (three_safe hS3 hz hz1 hz2)) ?_
  refine .on (t := 93) rfl rfl ?_
  refine .rd (.neI rfl rfl) ?_
  refine .alter (t := 99) (v' := .bool false) rfl (congrArg Value.bool (by rfl)) ?_
  refine .rd (.pickF rfl rfl) ?_
  refine .rd (.move rfl) ?_
  refine .on (t := 101) rfl rfl ?_
  refine .rd (.move rfl) ?_
  refine .on (t := 101) rfl rfl ?_
  have hz3 : e3.size = 10000 := hS3.size
  have hu3 := hS3.used
  have hl3 := hS3.len
  have hst3 := hS3.start
  have hhi3 := hS3.high
  refine .fn rfl rfl (.cons (.tail (.tail .head)) (.cons .head (.cons .head .nil))) (Knows.pick (.tail (.tail (.tail .head))) k) (Delete_ok db mb e3 l3 1 hS3.dok hS3.ok (by omega) (.inr ⟨sb 1 1, by rw [hS3.all]; exact .tail _ (.head _), rfl⟩) (by omega) (.inr (by omega)) (by omega)) (fun v G1 hq => ?_)
  obtain ⟨q, e, rfl, hD, rfl⟩ := hq
  simp only [List.cons_append, List.nil_append]
  have hw3 : (max l3.high ((1 : Nat) : Int)).toNat = 1 := by omega
  rw [hw3] at hD
  have hS4 := hS3.del hD
  refine .alter (t := 3) (v' := .pointer (some ⟨q.lb, 0, none⟩)) rfl (by rw [hD.lb]) ?_
  refine .on (t := 101) rfl rfl ?_
  refine .rd (.neI rfl rfl) ?_
  refine .alter (t := 104) (v' := .bool false) rfl (congrArg Value.bool (by rfl)) ?_
  refine .rd (.pickF rfl rfl) ?_
  refine .rd (.move rfl) ?_
  refine .on (t := 106) rfl rfl ?_
  refine .rd (.move rfl) ?_
  refine .on (t := 106) rfl rfl ?_
  refine .fn rfl rfl .nil ((LG.at .head).mono fun _ h => h.1) (Start_ok q.lb db (some ⟨q.cur.b, 0, none⟩) q.pre q.most q.start q.high q.la (q.ini.length + 1) q.lc) (fun v G1 hq => ?_)
  obtain ⟨rfl, rfl⟩ := hq
  simp only [List.nil_append]
  refine .alter (t := 108) (v' := .int .i64 1) rfl (congrArg (Value.int .i64) (hS4.start)) ?_
  refine .on (t := 106) rfl rfl ?_
  refine .rd (.neI rfl rfl) ?_
  refine .alter (t := 109) (v' := .bool false) rfl (congrArg Value.bool (by rfl)) ?_
  refine .rd (.pickF rfl rfl) ?_
  refine .nil ?_
  refine .condF rfl ?_
  refine .skip ?_
  refine .seq ?_
  refine .region ?_
  refine .rd (.move rfl) ?_
  have hc0 : q.all.length ≤ 1000000 := by rw [hS4.all]; decide
  have hqn0 : q.next = 3 := hS4.next.trans (nextS3 0)
  refine .fn rfl rfl (.cons (.tail .head) (.cons (.tail .head) .nil)) (LG.at .head) (LRead_ok db mb e q 0 10 hS4.ok hc0 (by omega) (by omega)) (fun v G1 hq => ?_)
  obtain ⟨bl0, xa0, xc0, hbl0, rfl, rfl⟩ := hq
  simp only [List.cons_append, List.nil_append]
  refine .alter (t := 113) (v' := .tuple #[.slice xa0 bl0.length xc0, .int .i64 10]) rfl (by rw [if_pos (by rw [hS4.start]; decide)]) ?_
  refine .rd (.move rfl) ?_
  refine .rd (.extract rfl rfl) ?_
  refine .rd (.extract rfl rfl) ?_
  refine .rd (.assign rfl) ?_
  refine .rd (.assign rfl) ?_
  refine .nil ?_
  refine .seq ?_
  refine .region ?_
  refine .rd (.move rfl) ?_
  have hc1 : q.all.length ≤ 1000000 := by rw [hS4.all]; decide
  have hqn1 : q.next = 3 := hS4.next.trans (nextS3 0)
  refine .fn rfl rfl (.cons .head (.cons .head .nil)) (LG.at (.tail (.tail .head))) (LRead_ok db mb e q 1 1 hS4.ok hc1 (by omega) (by omega)) (fun v G1 hq => ?_)
  obtain ⟨bl1, xa1, xc1, hbl1, rfl, rfl⟩ := hq
  simp only [List.cons_append, List.nil_append]
  rw [if_neg (by rw [hS4.start]; decide), readS hS4.all] at hbl1
  have hln : bl1.length = 1 := by have := congrArg List.length hbl1; rwa [List.length_map] at this
  obtain ⟨y, hy⟩ : ∃ y, bl1[0]? = some y := ⟨_, List.getElem?_eq_getElem (by omega)⟩
  have hyb : y.1 = sb 1 1 := map_at hbl1 hy rfl
  refine .alter (t := 118) (v' := .tuple #[.slice xa1 1 xc1, .int .i64 0]) rfl (by rw [hln, if_neg (by rw [hS4.start]; decide)]) ?_
  refine .tell (φ := ∃ b o, xa1 = some ⟨b, o, none⟩) ((Knows.arr (.tail (.tail .head))).mono fun _ h => RowAt.addr h (by rw [flat_length bmc_len]; omega)) (fun hh => ?_)
  obtain ⟨b9, o9, h9⟩ := hh
  refine .rd (.move rfl) ?_
  refine .rd (.extract rfl rfl) ?_
  refine .rd (.extract rfl rfl) ?_
  refine .rd (.assign rfl) ?_
  refine .rd (.assign rfl) ?_
  refine .nil ?_
  refine .seq ?_
  refine .region ?_
  refine .rd (.move rfl) ?_
  refine .rd (.eqI rfl rfl) ?_
  refine .alter (t := 122) (v' := .bool true) rfl (congrArg Value.bool (by rfl)) ?_
  refine .rd (.move rfl) ?_
  refine .on (t := 123) rfl rfl ?_
  refine .rd (.move rfl) ?_
  refine .on (t := 123) rfl rfl ?_
  refine .rd (.eqI rfl rfl) ?_
  refine .alter (t := 125) (v' := .bool true) rfl (congrArg Value.bool (by rfl)) ?_
  refine .rd (.pickT rfl rfl) ?_
  refine .rd (.move rfl) ?_
  refine .on (t := 127) rfl rfl ?_
  refine .rd (.move rfl) ?_
  refine .on (t := 127) rfl rfl ?_
  refine .rd (.lenL rfl rfl Tryz.underlying43 rfl) ?_
  refine .on (t := 127) rfl rfl ?_
  refine .rd (.eqI rfl rfl) ?_
  refine .alter (t := 130) (v' := .bool true) rfl (congrArg Value.bool (by rfl)) ?_
  refine .rd (.pickT rfl rfl) ?_
  refine .rd (.move rfl) ?_
  refine .on (t := 132) rfl rfl ?_
  refine .rd (.move rfl) ?_
  refine .on (t := 132) rfl rfl ?_
  refine .rd (.indexAddr (b := b9) (o := o9) Tryz.underlying43 ts34 (by show some (Value.slice (xa1) _ _) = _; rw [h9]) rfl (by omega) (by omega)) ?_
  refine .on (t := 132) rfl rfl ?_
  refine .rd (.fieldAddr fd34_0 rfl) ?_
  refine .on (t := 132) rfl rfl ?_
  refine .rd (.load na3 rfl (Knows.one (i := 0) (Knows.elem (f := bmc) bmc_len (by decide) ((Knows.arr (.tail (.tail .head))).mono fun _ h => h9 ▸ h) hy) rfl)) ?_
  refine .alter (t := 136) (v' := .int .i64 1) rfl (congrArg (Value.int .i64) (by rw [hyb]; rfl)) ?_
  refine .on (t := 132) rfl rfl ?_
  refine .rd (.eqI rfl rfl) ?_
  refine .alter (t := 137) (v' := .bool true) rfl (congrArg Value.bool (by rfl)) ?_
  refine .rd (.pickT rfl rfl) ?_
  refine .rd (.move rfl) ?_
  refine .on (t := 139) rfl rfl ?_
  refine .rd (.move rfl) ?_
  refine .on (t := 139) rfl rfl ?_
  have hst4 := hS4.start
  have hqn : q.next = 3 := hS4.next.trans (nextS3 0)
  have hcq : cutN 2 q.all = [sb 1 0, sb 1 1] := by rw [hS4.all]; exact cutS
  refine .fn rfl rfl (.cons (.tail (.tail (.tail (.tail (.tail (.tail .head)))))) (.cons .head (.cons .head .nil))) (Knows.pick (.tail (.tail (.tail (.tail (.tail (.tail (.tail .head))))))) k) (LCut_ok db mb e q 2 hS4.dok hS4.ok (by omega) (by omega) (by rw [hcq, nextS2]; omega)) (fun v G1 hq => ?_)
  obtain ⟨q5, e5, rfl, hC, rfl⟩ := hq
  simp only [List.cons_append, List.nil_append]
  have hn5 : q5.next = 2 := by rw [← hC.ok.nextOf, hC.all, hcq]; exact nextS2 _
  refine .alter (t := 3) (v' := .pointer (some ⟨q5.lb, 0, none⟩)) rfl (by rw [hC.lb]) ?_
  refine .on (t := 139) rfl rfl ?_
  refine .rd (.eqI rfl rfl) ?_
  refine .alter (t := 142) (v' := .bool true) rfl (congrArg Value.bool (by rfl)) ?_
  refine .rd (.pickT rfl rfl) ?_
  refine .rd (.move rfl) ?_
  refine .on (t := 144) rfl rfl ?_
  refine .rd (.move rfl) ?_
  refine .on (t := 144) rfl rfl ?_
  refine .rd (.nilCheck rfl) ?_
  refine .on (t := 144) rfl rfl ?_
  refine .rd (.fieldAddr fd42_0 rfl) ?_
  refine .on (t := 144) rfl rfl ?_
  refine .rd (.load na39 rfl (Knows.one (i := 0) ((LG.at .head).mono fun _ h => h.1) rfl)) ?_
  refine .on (t := 144) rfl rfl ?_
  refine .fn rfl rfl .nil ((LG.at .head).mono fun _ h => h.2.2 _ q5.cur_in) (Next_ok db q5.cur hC.ok.cur.1) (fun v G1 hq => ?_)
  obtain ⟨rfl, rfl⟩ := hq
  simp only [List.nil_append]
  refine .alter (t := 149) (v' := .int .i64 2) rfl (congrArg (Value.int .i64) (hn5)) ?_
  refine .on (t := 144) rfl rfl ?_
  refine .rd (.eqI rfl rfl) ?_
  refine .alter (t := 150) (v' := .bool true) rfl (congrArg Value.bool (by rfl)) ?_
  refine .rd (.pickT rfl rfl) ?_
  refine .rd (.move rfl) ?_
  refine .on (t := 152) rfl rfl ?_
  refine .rd (.move rfl) ?_
  refine .on (t := 152) rfl rfl ?_
  have hst5 : q5.start = 1 := hC.start.trans hS4.start
  refine .fn rfl rfl .nil (LG.at .head) (CutNo_ok db q5 0 (by omega)) (fun v G1 hq => ?_)
  obtain ⟨rfl, rfl⟩ := hq
  simp only [List.nil_append]
  refine .on (t := 152) rfl rfl ?_
  refine .rd (.eqI rfl rfl) ?_
  refine .alter (t := 155) (v' := .bool true) rfl (congrArg Value.bool (by rfl)) ?_
  refine .rd (.pickT rfl rfl) ?_
  refine .rd (.move rfl) ?_
  refine .on (t := 157) rfl rfl ?_
  refine .rd (.move rfl) ?_
  refine .on (t := 157) rfl rfl ?_
  have hs5 : Short e5 := fun n hn => hS4.short n (hC.names n hn)
  have ho5 : Own q5 e5 := hC.own hS4.own
  have hz5 : e5.size = 10000 := hC.size.trans hS4.size
  have hu5 := Nat.le_trans hC.used hS4.used
  have hl5 := Nat.le_trans hC.len hS4.len
  obtain ⟨a1, a2, a3, a4, a5, a6, a7, a8, a9⟩ := begin_asks hC.ok hC.dok ho5 hs5 (by omega) (by omega) (base := 9) (by decide)
  refine .unpack (L := [blk q5.lb (q5.cells db) 42, arr 39 1 q5.la q5.lc (q5.segs.flatMap sp), bag (SG db) q5.segs]) .head ?_
  simp only [List.cons_append, List.nil_append]
  refine .fn rfl rfl (.cons .head (.cons (.tail (.tail .head)) (.cons (.tail (.tail .head)) .nil))) (Knows.pick (.tail (.tail (.tail (.tail (.tail (.tail (.tail (.tail (.tail .head))))))))) k) (Begin_ok q5.lb db mb e5 (some ⟨q5.cur.b, 0, none⟩) q5.pre q5.most q5.start q5.high q5.la (q5.ini.length + 1) q5.lc 9 (q5.segs.map fun s => s.base.toNat) (by decide) hC.dok hC.ok.pre (.inr (by omega)) (by omega) a1 a2 a3 a4 a5 a6 a7 a8 a9) (fun v G1 hq => ?_)
  obtain ⟨sb', sm, aa, ac, ia, ic, qa, qc, rfl, hix, rfl⟩ := hq
  simp only [List.cons_append, List.nil_append]
  have hp5 : q5.pre = [112] := hC.pre.trans hS4.pre
  have hm5 : q5.most = 256 := hC.most.trans hS4.most
  refine .perm (.cons (.tail (.tail (.tail (.tail .head)))) (.cons .head (.cons .head (.cons .head (.cons .head (.cons .head (.cons .head (.cons .head (.cons .head (.cons .head (.cons .head (.cons .head (.cons .head (.cons .head (.cons .head (.cons .head (.cons .head .nil))))))))))))))))) ?_
  refine .cast (X' := blk sb' (((nine q5.lb sb' sm aa ac ia ic qa qc).cur).cells db) 69) (by rw [hp5]; rfl) ?_
  refine .perm (.cons (.tail (.tail (.tail (.tail (.tail .head))))) (.cons .head (.cons .head (.cons .head (.cons .head (.cons .head (.cons .head (.cons .head (.cons .head (.cons .head (.cons .head (.cons .head (.cons .head (.cons .head (.cons .head (.cons .head (.cons .head .nil))))))))))))))))) ?_
  refine .cast (X' := arr 71 4 aa ac ((nine q5.lb sb' sm aa ac ia ic qa qc).cur).rows) (rfl) ?_
  refine .pack (L := [blk sb' (((nine q5.lb sb' sm aa ac ia ic qa qc).cur).cells db) 69, arr 71 4 aa ac ((nine q5.lb sb' sm aa ac ia ic qa qc).cur).rows, arr 3 1 ia ic (sm.flatMap icN)]) (.cons (.tail .head) (.cons .head (.cons (.tail (.tail (.tail (.tail .head)))) .nil))) ?_
  refine .close (X := bag (SG db) (nine q5.lb sb' sm aa ac ia ic qa qc).segs) (.cons .head .nil) (fun h H => H) ?_
  refine .perm (.cons (.tail .head) (.cons .head (.cons .head (.cons .head (.cons .head (.cons .head (.cons .head (.cons .head (.cons .head (.cons .head (.cons .head (.cons .head (.cons .head (.cons .head (.cons .head .nil))))))))))))))) ?_
  refine .cast (X' := blk (nine q5.lb sb' sm aa ac ia ic qa qc).lb ((nine q5.lb sb' sm aa ac ia ic qa qc).cells db) 42) (by rw [hp5, hm5]; rfl) ?_
  refine .perm (.cons (.tail (.tail .head)) (.cons .head (.cons .head (.cons .head (.cons .head (.cons .head (.cons .head (.cons .head (.cons .head (.cons .head (.cons .head (.cons .head (.cons .head (.cons .head (.cons .head .nil))))))))))))))) ?_
  refine .cast (X' := arr 39 1 (nine q5.lb sb' sm aa ac ia ic qa qc).la (nine q5.lb sb' sm aa ac ia ic qa qc).lc ((nine q5.lb sb' sm aa ac ia ic qa qc).segs.flatMap sp)) (rfl) ?_
  refine .pack (L := [blk (nine q5.lb sb' sm aa ac ia ic qa qc).lb ((nine q5.lb sb' sm aa ac ia ic qa qc).cells db) 42, arr 39 1 (nine q5.lb sb' sm aa ac ia ic qa qc).la (nine q5.lb sb' sm aa ac ia ic qa qc).lc ((nine q5.lb sb' sm aa ac ia ic qa qc).segs.flatMap sp), bag (SG db) (nine q5.lb sb' sm aa ac ia ic qa qc).segs]) (.cons (.tail .head) (.cons .head (.cons .head .nil))) ?_
  have hok9 : (nine q5.lb sb' sm aa ac ia ic qa qc).cur.ok := ⟨by show (0 : Int) ≤ 9; decide, by show (9 : Int) ≤ 1000000000; decide, trivial, fun _ h => (by cases h), Nat.zero_le _, hix, Nat.zero_le _⟩
  refine .on (t := 157) rfl rfl ?_
  refine .rd (.eqI rfl rfl) ?_
  refine .alter (t := 160) (v' := .bool true) rfl (congrArg Value.bool (by rfl)) ?_
  refine .rd (.pickT rfl rfl) ?_
  refine .rd (.move rfl) ?_
  refine .on (t := 162) rfl rfl ?_
  refine .rd (.move rfl) ?_
  refine .on (t := 162) rfl rfl ?_
  refine .fn rfl rfl .nil ((LG.at .head).mono fun _ h => h.1) (Start_ok (nine q5.lb sb' sm aa ac ia ic qa qc).lb db (some ⟨(nine q5.lb sb' sm aa ac ia ic qa qc).cur.b, 0, none⟩) (nine q5.lb sb' sm aa ac ia ic qa qc).pre (nine q5.lb sb' sm aa ac ia ic qa qc).most (nine q5.lb sb' sm aa ac ia ic qa qc).start (nine q5.lb sb' sm aa ac ia ic qa qc).high (nine q5.lb sb' sm aa ac ia ic qa qc).la ((nine q5.lb sb' sm aa ac ia ic qa qc).ini.length + 1) (nine q5.lb sb' sm aa ac ia ic qa qc).lc) (fun v G1 hq => ?_)
  obtain ⟨rfl, rfl⟩ := hq
  simp only [List.nil_append]
  refine .alter (t := 164) (v' := .int .i64 9) rfl (congrArg (Value.int .i64) (rfl)) ?_
  refine .on (t := 162) rfl rfl ?_
  refine .rd (.eqI rfl rfl) ?_
  refine .alter (t := 165) (v' := .bool true) rfl (congrArg Value.bool (by rfl)) ?_
  refine .rd (.pickT rfl rfl) ?_
  refine .rd (.move rfl) ?_
  refine .on (t := 167) rfl rfl ?_
  refine .rd (.move rfl) ?_
  refine .on (t := 167) rfl rfl ?_
  refine .rd (.nilCheck rfl) ?_
  refine .on (t := 167) rfl rfl ?_
  refine .rd (.fieldAddr fd42_0 rfl) ?_
  refine .on (t := 167) rfl rfl ?_
  refine .rd (.load na39 rfl (Knows.one (i := 0) ((LG.at .head).mono fun _ h => h.1) rfl)) ?_
  refine .on (t := 167) rfl rfl ?_
  refine .fn rfl rfl .nil ((LG.at .head).mono fun _ h => h.2.2 _ (Lx.cur_in _)) (Next_ok db (nine q5.lb sb' sm aa ac ia ic qa qc).cur hok9) (fun v G1 hq => ?_)
  obtain ⟨rfl, rfl⟩ := hq
  simp only [List.nil_append]
  refine .alter (t := 172) (v' := .int .i64 9) rfl (rfl) ?_
  refine .on (t := 167) rfl rfl ?_
  refine .rd (.eqI rfl rfl) ?_
  refine .alter (t := 173) (v' := .bool true) rfl (congrArg Value.bool (by rfl)) ?_
  refine .rd (.pickT rfl rfl) ?_
  refine .rd (.move rfl) ?_
  refine .on (t := 175) rfl rfl ?_
  refine .rd (.move rfl) ?_
  refine .on (t := 175) rfl rfl ?_
  refine .fn rfl rfl .nil ((LG.at .head).mono fun _ h => h.1) (Saved_ok (nine q5.lb sb' sm aa ac ia ic qa qc).lb db (some ⟨(nine q5.lb sb' sm aa ac ia ic qa qc).cur.b, 0, none⟩) (nine q5.lb sb' sm aa ac ia ic qa qc).pre (nine q5.lb sb' sm aa ac ia ic qa qc).most (nine q5.lb sb' sm aa ac ia ic qa qc).start (nine q5.lb sb' sm aa ac ia ic qa qc).high (nine q5.lb sb' sm aa ac ia ic qa qc).la ((nine q5.lb sb' sm aa ac ia ic qa qc).ini.length + 1) (nine q5.lb sb' sm aa ac ia ic qa qc).lc) (fun v G1 hq => ?_)
  obtain ⟨rfl, rfl⟩ := hq
  simp only [List.nil_append]
  refine .on (t := 175) rfl rfl ?_
  refine .rd (.eqI rfl rfl) ?_
  refine .alter (t := 178) (v' := .bool true) rfl (congrArg Value.bool (by rfl)) ?_
  refine .rd (.pickT rfl rfl) ?_
  refine .rd (.assign rfl) ?_
  refine .nil ?_
  refine .retP Tryz.func8 (.cons (.tmp rfl) .nil) (.cons (.tail (.tail (.tail (.tail (.tail (.tail (.tail (.tail (.tail (.tail (.tail (.tail .head)))))))))))) .nil) ?_
  exact ⟨[], ⟨rfl, rfl⟩, rfl⟩

end Go.Proofs.YtglhoenjflpibaaGreatDoor


namespace Go.Proofs.YtglhoenjflpibaaGreatDoor
open Go Go.Sp

set_option linter.unusedVariables false

namespace log16
theorem ts3 : TS Tryz.prog 3 1 := .of (by kernel_rfl)
theorem na3 : NotAgg Tryz.prog 3 := ⟨_, Tryz.underlying3, trivial⟩
end log16
open log16



set_option maxHeartbeats 4000000 in
set_option maxRecDepth 20000 in
theorem filled_ok (most : Int) (sa : Option Addr) (sizes : List Int) (sc : Nat) (h0 : i64 most) (hsz : ∀ x ∈ sizes, i64 x) (hsl : sizes.length ≤ 140737488351232) : Cn Tryz.prog 18 [.int .i64 most, .slice sa sizes.length sc] (fun w => LV w ∧ RowAt sa (sizes.flatMap icI) w) [] fun v G => ∃ i l db mb d, v = .tuple #[.pointer (some ⟨l.lb, 0, none⟩), .pointer (some ⟨db, 0, none⟩)] ∧ i ≤ 60 ∧ Filled i l d ∧ G = [LG db l, blk db (d.cells mb) 60, mp nmv Fl.val mb d.fs] := by
  refine .enter Tryz.func18 rfl (by kernel_rfl) rfl fun R k => ?_
  refine .seq ?_
  refine .region ?_
  refine .rd (.assign rfl) ?_
  refine .rd (.assign rfl) ?_
  refine .nil ?_
  refine .seq ?_
  refine .region ?_
  refine .fn rfl rfl .nil (fun _ _ _ => trivial) (New_ok 2000000 (by decide) (by decide)) (fun v G1 hq => ?_)
  obtain ⟨db, mb, rfl, rfl⟩ := hq
  simp only [List.cons_append, List.nil_append]
  refine .rd (.move rfl) ?_
  refine .rd (.extract rfl rfl) ?_
  refine .rd (.extract rfl rfl) ?_
  refine .rd (.assign rfl) ?_
  refine .rd (.assign rfl) ?_
  refine .nil ?_
  refine .seq ?_
  refine .seq ?_
  refine .region ?_
  refine .rd (.move rfl) ?_
  refine .rd (.eqNilP Tryz.underlying24 rfl rfl) ?_
  refine .rd (.move rfl) ?_
  refine .on (t := 18) rfl rfl ?_
  refine .rd (.move rfl) ?_
  refine .on (t := 18) rfl rfl ?_
  refine .rd (.neI rfl rfl) ?_
  refine .alter (t := 20) (v' := .bool false) rfl (congrArg Value.bool (by rfl)) ?_
  refine .rd (.pickF rfl rfl) ?_
  refine .nil ?_
  refine .condF rfl ?_
  refine .skip ?_
  refine .seq ?_
  refine .region ?_
  refine .rd (.move rfl) ?_
  refine .rd (.move rfl) ?_
  have hp1 := pickN_nn (c := most) (n := 2000) (by decide)
  have hp2 := pickN_lt (c := most) (n := 2000) (by decide)
  refine .fn rfl rfl .nil (fun _ _ _ => trivial) (pick_ok most 2000 h0 (by decide)) (fun v G1 hq => ?_)
  obtain ⟨rfl, rfl⟩ := hq
  simp only [List.nil_append]
  refine .rd (.add rfl rfl (by omega) (by omega)) ?_
  refine .fn rfl rfl (.cons .head (.cons .head .nil)) (Knows.pick .head (k.mono fun _ h => h.1)) (Open_ok7 db mb (Dk.mk 2000000 []) [112] (256 + pickN most 2000) (dk0_ok (by decide)) prep (dk0_short _) (by decide) (dk0_free _ _) (by omega) (by omega)) (fun v G1 hq => ?_)
  obtain ⟨l0, d1, rfl, hA, rfl⟩ := hq
  simp only [List.cons_append, List.nil_append]
  have hF := Filled.begin hA
  refine .rd (.move rfl) ?_
  refine .rd (.extract rfl rfl) ?_
  refine .rd (.extract rfl rfl) ?_
  refine .rd (.assign rfl) ?_
  refine .rd (.assign rfl) ?_
  refine .nil ?_
  refine .alter (t := 8) (v' := .pointer (some ⟨l0.lb, 0, none⟩)) rfl (rfl) ?_
  refine .seq ?_
  refine .seq ?_
  refine .region ?_
  refine .rd (.move rfl) ?_
  refine .rd (.eqNilP Tryz.underlying28 rfl rfl) ?_
  refine .rd (.move rfl) ?_
  refine .on (t := 32) rfl rfl ?_
  refine .rd (.move rfl) ?_
  refine .on (t := 32) rfl rfl ?_
  refine .rd (.neI rfl rfl) ?_
  refine .alter (t := 34) (v' := .bool false) rfl (congrArg Value.bool (by rfl)) ?_
  refine .rd (.pickF rfl rfl) ?_
  refine .nil ?_
  refine .condF rfl ?_
  refine .skip ?_
  refine .seq ?_
  refine .seq ?_
  refine .region ?_
  refine .rd (.assign rfl) ?_
  refine .nil ?_
  refine .block ?_
  refine .loop (σ := Nat × Lx × Dk) (fun ⟨i, l, d⟩ => i ≤ sizes.length ∧ i ≤ 60 ∧ Filled i l d) (fun ⟨i, l, d⟩ => sizes.length - i) (fun ⟨i, l, d⟩ => [(1, .slice sa sizes.length sc), (6, .pointer (some ⟨db, 0, none⟩)), (8, .pointer (some ⟨l.lb, 0, none⟩)), (9, .int .i64 (i : Nat))]) (fun ⟨i, l, d⟩ => [LG db l, blk db (d.cells mb) 60, mp nmv Fl.val mb d.fs, R]) (0, l0, d1) ⟨Nat.zero_le _, by decide, hF⟩ (.cons rfl (.cons rfl (.cons rfl (.cons rfl .nil)))) (.cons .head (.cons .head (.cons .head (.cons .head .nil)))) (fun s' hI ih => ?_)
  obtain ⟨i, l, d⟩ := s'
  dsimp only at hI ih ⊢
  obtain ⟨hin, hi60, hD⟩ := hI
  have hnx := hD.nx
  have hus := hD.used
  have hln := hD.len
  have hsi := hD.size
  have hn0 := hD.next0
  refine .seq ?_
  refine .seq ?_
  refine .region ?_
  refine RunO.join 8 43 (decide (i < sizes.length ∧ i < 60)) ?_ ?_
  · refine .rd (.move rfl) ?_
    refine .rd (.move rfl) ?_
    refine .rd (.lenL rfl rfl Tryz.underlying22 rfl) ?_
    refine .rd (.lt rfl rfl) ?_
    refine .rd (.move rfl) ?_
    refine .split (t := 40) rfl (fun g8 => ?_) (fun g8 => ?_)
    · replace g8 := of_decide_eq_true g8
      refine .on (t := 40) rfl rfl ?_
      refine .rd (.move rfl) ?_
      refine .on (t := 40) rfl rfl ?_
      refine .rd (.lt rfl rfl) ?_
      refine .rd (.pickT rfl rfl) ?_
      refine .nil ⟨rfl, ?_, by repeat (first | exact Le.refl _ | refine Le.skip rfl ?_)⟩
      exact congrArg (fun x => some (Value.bool x)) (decide_eq_decide.2 (by omega))
    · replace g8 := of_decide_eq_false g8
      refine .off (t := 40) rfl rfl rfl ?_
      refine .off (t := 40) rfl rfl rfl ?_
      refine .rd (.pickF rfl rfl) ?_
      refine .nil ⟨rfl, ?_, by repeat (first | exact Le.refl _ | refine Le.skip rfl ?_)⟩
      exact congrArg (fun x => some (Value.bool x)) ((decide_eq_false (by omega)).symm)
  refine .nil ?_
  refine .condP rfl (fun c8 => ?_) (fun c8 => ?_)
  · refine .skip ?_
    refine .seq ?_
    refine .block ?_
    refine .seq ?_
    obtain ⟨x, hx⟩ : ∃ x, sizes[i]? = some x := ⟨_, List.getElem?_eq_getElem (by omega)⟩
    refine .tell (φ := ∃ b o, sa = some ⟨b, o, none⟩) (Knows.pick (.tail (.tail (.tail .head))) (k.mono fun _ h => RowAt.addr h.2 (by rw [flat_length icI_len]; omega))) (fun hh => ?_)
    obtain ⟨b9, o9, h9⟩ := hh
    refine .region ?_
    refine .rd (.move rfl) ?_
    refine .rd (.move rfl) ?_
    refine .rd (.move rfl) ?_
    refine .rd (.indexAddr (b := b9) (o := o9) Tryz.underlying22 ts3 (by show some (Value.slice sa _ _) = _; rw [h9]) rfl (by omega) (by omega)) ?_
    refine .rd (.load na3 rfl (Knows.one (i := 0) (Knows.elem (f := icI) icI_len (by decide) (Knows.pick (.tail (.tail (.tail .head))) (k.mono fun _ h => h9 ▸ h.2)) hx) rfl)) ?_
    have hp1 := pickN_nn (c := x) (n := 20) (by decide)
    have hp2 := pickN_lt (c := x) (n := 20) (by decide)
    refine .fn rfl rfl .nil (fun _ _ _ => trivial) (pick_ok x 20 (hsz x (List.mem_of_getElem? hx)) (by decide)) (fun v G1 hq => ?_)
    obtain ⟨rfl, rfl⟩ := hq
    simp only [List.nil_append]
    refine .rd (.add rfl rfl (by omega) (by omega)) ?_
    obtain ⟨n, hn⟩ : ∃ n : Nat, (n : Int) = 1 + pickN x 20 := ⟨(1 + pickN x 20).toNat, by omega⟩
    have hk1 : 1 ≤ n := by omega
    have hk2 : n ≤ 20 := by omega
    refine .alter (t := 53) (v' := .int .i64 (n : Nat)) rfl (by rw [hn]) ?_
    refine .fn rfl rfl .nil (fun _ _ _ => trivial) (small_ok n (by omega)) (fun v G1 hq => ?_)
    obtain ⟨ra, rc, rfl, rfl⟩ := hq
    simp only [List.cons_append, List.nil_append]
    have hg : (sb n l.next).good := sb_good hk1 (by omega) (by omega) (by omega)
    have he : (enc (sb n l.next)).length ≤ 228 := Nat.le_trans (sb_enc hk1 (by omega) (by omega) (by omega)) (by omega)
    refine .fn rfl rfl (.cons (.tail .head) (.cons (.tail .head) (.cons (.tail .head) .nil))) ((Knows.pick (.tail .head) (k.mono fun _ h => h.1)).and (Knows.arr .head)) (Append_ok7 db mb d l (smallB n) ra rc hD.dok hD.ok hD.own hg (by omega) (Nat.le_trans (Nat.add_le_add hus he) (by rw [hsi]; omega)) (by omega) (by have := hD.segs; omega)) (fun v G1 hq => ?_)
    obtain ⟨l', d', rfl, hA, rfl⟩ := hq
    simp only [List.cons_append, List.nil_append]
    replace hA : AppTo l d (sb n l.next) l' d' := hA
    refine .alter (t := 8) (v' := .pointer (some ⟨l'.lb, 0, none⟩)) rfl (by rw [hA.lb]) ?_
    refine .rd (.move rfl) ?_
    refine .rd (.extract rfl rfl) ?_
    refine .rd (.extract rfl rfl) ?_
    refine .rd (.assign rfl) ?_
    refine .rd (.assign rfl) ?_
    refine .nil ?_
    refine .seq ?_
    refine .region ?_
    refine .rd (.move rfl) ?_
    refine .rd (.neI rfl rfl) ?_
    refine .alter (t := 59) (v' := .bool false) rfl (congrArg Value.bool (by rfl)) ?_
    refine .nil ?_
    refine .condF rfl ?_
    refine .skip ?_
    refine .inBlock ?_
    refine .region ?_
    refine .rd (.move rfl) ?_
    refine .rd (.add rfl rfl (by omega) (by omega)) ?_
    refine .rd (.assign rfl) ?_
    refine .nil ?_
    exact (ih (i + 1, l', d') ⟨by show i + 1 ≤ _; omega, by show i + 1 ≤ _; omega, hD.step hA hk1 hk2 hi60⟩ (by show sizes.length - (i + 1) < sizes.length - i; omega)).to (.cons rfl (.cons rfl (.cons rfl (.cons rfl .nil)))) (.cons .head (.cons .head (.cons .head (.cons (.tail .head) .nil))))
  · refine .exit rfl ?_
    refine .seq ?_
    refine .region ?_
    refine .rd (.move rfl) ?_
    refine .rd (.move rfl) ?_
    refine .rd (.assign rfl) ?_
    refine .rd (.assign rfl) ?_
    refine .nil ?_
    refine .retP Tryz.func18 (.cons (.tmp rfl) (.cons (.tmp rfl) .nil)) (.cons .head (.cons .head (.cons .head (.cons .head .nil)))) ?_
    exact ⟨[_, _, _], ⟨i, l, db, mb, d, rfl, hi60, hD, rfl⟩, rfl⟩

end Go.Proofs.YtglhoenjflpibaaGreatDoor


namespace Go.Proofs.YtglhoenjflpibaaGreatDoor
open Go Go.Sp

set_option linter.unusedVariables false

namespace log21
theorem fd42_4 : FD Tryz.prog 42 4 4 := .of Tryz.underlying42 (by kernel_rfl)
theorem na3 : NotAgg Tryz.prog 3 := ⟨_, Tryz.underlying3, trivial⟩
theorem fd42_0 : FD Tryz.prog 42 0 0 := .of Tryz.underlying42 (by kernel_rfl)
theorem na39 : NotAgg Tryz.prog 39 := ⟨_, Tryz.underlying39, trivial⟩
end log21
open log21

theorem Cn.holding {P : Program} {f : FuncId} {args : List Value} {φ ψ : World → Prop} {Γf : List SProp} {q : Value → Prop} {Q' : Value → List SProp → Prop} (h : Cn P f args φ [] fun v G => q v ∧ G = []) (k : ∀ R, Knows (Γf ++ [R]) φ) (hq : ∀ v, q v → Q' v Γf) : Cn P f args ψ Γf Q' := fun R _ => (h.ret .nil (k R)).mono fun v Γ' ⟨Γ1, ⟨hv, hG⟩, e⟩ => ⟨Γf, hq v hv, by rw [e, hG]; rfl⟩

set_option maxHeartbeats 4000000 in
set_option maxRecDepth 20000 in
theorem SaveNo_ok (db : Nat) (l : Lx) (w : Int) (hl : l.cur.ok) (h1 : l.start ≤ w) (h2 : l.next < w) : Cn Tryz.prog 24 [.pointer (some ⟨l.lb, 0, none⟩), .int .i64 w] (LogAt db l) [] fun v G => v = .int .i64 10 ∧ G = [] := by
  refine .enter Tryz.func24 rfl (by kernel_rfl) rfl fun R k => ?_
  refine .seq ?_
  refine .region ?_
  refine .rd (.assign rfl) ?_
  refine .nil ?_
  refine .seq ?_
  refine .seq ?_
  refine .region ?_
  refine .rd (.move rfl) ?_
  refine .rd (.move rfl) ?_
  refine .rd (.nilCheck rfl) ?_
  refine .rd (.fieldAddr fd42_4 rfl) ?_
  refine .rd (.load na3 rfl (Knows.one (i := 4) (Knows.pick .head (k.mono fun _ h => h.1)) rfl)) ?_
  refine .rd (.lt rfl rfl) ?_
  refine .alter (t := 10) (v' := .bool false) rfl (congrArg Value.bool (decide_eq_false (by omega))) ?_
  refine .rd (.move rfl) ?_
  refine .on (t := 11) rfl rfl ?_
  refine .rd (.move rfl) ?_
  refine .on (t := 11) rfl rfl ?_
  refine .rd (.move rfl) ?_
  refine .on (t := 11) rfl rfl ?_
  refine .rd (.nilCheck rfl) ?_
  refine .on (t := 11) rfl rfl ?_
  refine .rd (.fieldAddr fd42_0 rfl) ?_
  refine .on (t := 11) rfl rfl ?_
  refine .rd (.load na39 rfl (Knows.one (i := 0) (Knows.pick .head (k.mono fun _ h => h.1)) rfl)) ?_
  refine .on (t := 11) rfl rfl ?_
  refine .fn rfl rfl .nil (Knows.pick .head (k.mono fun _ h => h.2.2 _ l.cur_in)) (Next_ok db l.cur hl) (fun v G1 hq => ?_)
  obtain ⟨rfl, rfl⟩ := hq
  simp only [List.nil_append]
  refine .on (t := 11) rfl rfl ?_
  refine .rd (.gt rfl rfl) ?_
  refine .alter (t := 18) (v' := .bool true) rfl (congrArg Value.bool (decide_eq_true (by show l.cur.next < w; exact h2))) ?_
  refine .rd (.pickF rfl rfl) ?_
  refine .nil ?_
  refine .condT rfl ?_
  refine .seq ?_
  refine .region ?_
  refine .rd (.assign rfl) ?_
  refine .nil ?_
  refine .retP Tryz.func24 (.cons (.tmp rfl) .nil) (.cons .head .nil) ?_
  exact ⟨[], ⟨rfl, rfl⟩, rfl⟩

theorem Save_any (db mb : Nat) (d : Dk) (l : Lx) (i u : Nat) (hF : Filled i l d) (hi : i ≤ 60) : Cn Tryz.prog 24 [.pointer (some ⟨l.lb, 0, none⟩), .int .i64 (u : Int)] LV [LG db l, blk db (d.cells mb) 60, mp nmv Fl.val mb d.fs] fun v G => ∃ w e, v = .int .i64 (if (u : Int) ≤ l.next then 0 else 10) ∧ SavedTo l i w e ∧ G = [LG db ({ l with high := (w : Int) } : Lx), blk db (e.cells mb) 60, mp nmv Fl.val mb e.fs] := by
  by_cases h : (u : Int) ≤ l.next
  · have hst := hF.start
    have hnx := hF.nx
    have hus := hF.used
    have hsi := hF.size
    have hln := hF.len
    refine (Save_ok db mb d l u hF.dok hF.ok (by omega) h (.inr (by omega)) (by omega)).mono fun v G hv => ?_
    obtain ⟨rfl, rfl⟩ := hv
    exact ⟨u, _, by rw [if_pos h], hF.saved hi h, rfl⟩
  · have hst := hF.start
    refine Cn.holding (SaveNo_ok db l (u : Int) hF.ok.cur.1 (by omega) (by omega)) (fun R => LG.at .head) fun v hv => ?_
    subst hv
    have e : ({ l with high := ((0 : Nat) : Int) } : Lx) = l := by have := hF.high; cases l; simp at this ⊢; exact this.symm
    exact ⟨0, d, by rw [if_neg h], hF.unsaved, by rw [e]⟩

set_option maxHeartbeats 4000000 in
set_option maxRecDepth 20000 in
theorem PlogSaves_ok (most : Int) (sa : Option Addr) (sizes : List Int) (sc : Nat) (high : Int) (ka : Option Addr) (kl : List Int) (kc : Nat) (h0 : i64 most) (hsz : ∀ x ∈ sizes, i64 x) (hsl : sizes.length ≤ 140737488351232) (h2 : i64 high) (hkc : kl.length ≤ kc) (hki : ∀ x ∈ kl, i64 x) (hkl : kl.length ≤ 140737488351232) : Cn Tryz.prog 6 [.int .i64 most, .slice sa sizes.length sc, .int .i64 high, .slice ka kl.length kc] (fun _ => True) [know fun w => LV w ∧ RowAt sa (sizes.flatMap icI) w ∧ RowAt ka (kl.flatMap icI) w] fun v G => v = .bool true ∧ G = [] := by
  refine .enter Tryz.func6 rfl (by kernel_rfl) rfl fun R k => ?_
  refine .seq ?_
  refine .region ?_
  refine .rd (.assign rfl) ?_
  refine .nil ?_
  refine .seq ?_
  refine .region ?_
  refine .fn rfl rfl .nil ((Knows.know .head).mono fun _ h => h.1) (shown_ok) (fun v G1 hq => ?_)
  obtain ⟨rfl, rfl⟩ := hq
  simp only [List.nil_append]
  refine .rd (.assign rfl) ?_
  refine .nil ?_
  refine .seq ?_
  refine .region ?_
  refine .rd (.move rfl) ?_
  refine .rd (.move rfl) ?_
  refine .fn rfl rfl .nil ((Knows.know .head).mono fun _ h => ⟨h.1, h.2.1⟩) (filled_ok most sa sizes sc h0 hsz hsl) (fun v G1 hq => ?_)
  obtain ⟨i, l, db, mb, d, rfl, hi60, hF, rfl⟩ := hq
  simp only [List.cons_append, List.nil_append]
  refine .rd (.move rfl) ?_
  refine .rd (.extract rfl rfl) ?_
  refine .rd (.extract rfl rfl) ?_
  refine .rd (.assign rfl) ?_
  refine .rd (.assign rfl) ?_
  refine .nil ?_
  refine .alter (t := 10) (v' := .pointer (some ⟨l.lb, 0, none⟩)) rfl (rfl) ?_
  have hnx := hF.nx
  have hn0 := hF.next0
  have hok := hF.ok
  have hus := hF.used
  have hln := hF.len
  have hsi := hF.size
  have hst := hF.start
  have hhi := hF.high
  have hse := hF.segs
  refine .seq ?_
  refine .seq ?_
  refine .region ?_
  refine .rd (.move rfl) ?_
  refine .rd (.not rfl) ?_
  refine .rd (.move rfl) ?_
  refine .on (t := 25) rfl rfl ?_
  refine .rd (.move rfl) ?_
  refine .on (t := 25) rfl rfl ?_
  refine .rd (.eqNilP Tryz.underlying28 rfl rfl) ?_
  refine .rd (.pickF rfl rfl) ?_
  refine .nil ?_
  refine .condF rfl ?_
  refine .skip ?_
  refine .seq ?_
  refine .region ?_
  refine .rd (.move rfl) ?_
  refine .rd (.move rfl) ?_
  refine .rd (.nilCheck rfl) ?_
  refine .rd (.fieldAddr fd42_0 rfl) ?_
  refine .rd (.load na39 rfl (Knows.one (i := 0) ((LG.at .head).mono fun _ h => h.1) rfl)) ?_
  refine .fn rfl rfl .nil ((LG.at .head).mono fun _ h => h.2.2 _ (Lx.cur_in l)) (Next_ok db l.cur hok.cur.1) (fun v G1 hq => ?_)
  obtain ⟨rfl, rfl⟩ := hq
  simp only [List.nil_append]
  refine .alter (t := 34) (v' := .int .i64 l.next) rfl (rfl) ?_
  refine .rd (.add rfl rfl (by omega) (by omega)) ?_
  have hp3 := pickN_nn (c := high) (n := l.next + 2) (by omega)
  have hp4 := pickN_lt (c := high) (n := l.next + 2) (by omega)
  refine .fn rfl rfl .nil (fun _ _ _ => trivial) (pick_ok high (l.next + 2) h2 (by omega)) (fun v G1 hq => ?_)
  obtain ⟨rfl, rfl⟩ := hq
  simp only [List.nil_append]
  obtain ⟨u, hu⟩ : ∃ u : Nat, (u : Int) = pickN high (l.next + 2) := ⟨(pickN high (l.next + 2)).toNat, by omega⟩
  refine .alter (t := 36) (v' := .int .i64 (u : Nat)) rfl (by rw [hu]) ?_
  rw [← hu] at hp3 hp4
  refine .rd (.assign rfl) ?_
  refine .nil ?_
  refine .seq ?_
  refine .region ?_
  refine .rd (.move rfl) ?_
  refine .rd (.move rfl) ?_
  refine .fn rfl rfl (.cons .head (.cons .head (.cons .head .nil))) ((Knows.know .head).mono fun _ h => h.1) (Save_any db mb d l i u hF hi60) (fun v G1 hq => ?_)
  obtain ⟨w, d2, rfl, hS, rfl⟩ := hq
  simp only [List.cons_append, List.nil_append]
  refine .alter (t := 10) (v' := .pointer (some ⟨({ l with high := (w : Int) } : Lx).lb, 0, none⟩)) rfl (rfl) ?_
  refine .rd (.assign rfl) ?_
  refine .nil ?_
  refine .seq ?_
  refine .seq ?_
  refine .region ?_
  refine .rd (.move rfl) ?_
  refine .rd (.eqI rfl rfl) ?_
  refine .rd (.move rfl) ?_
  refine .rd (.move rfl) ?_
  refine .rd (.nilCheck rfl) ?_
  refine .rd (.fieldAddr fd42_0 rfl) ?_
  refine .rd (.load na39 rfl (Knows.one (i := 0) ((LG.at .head).mono fun _ h => h.1) rfl)) ?_
  refine .fn rfl rfl .nil ((LG.at .head).mono fun _ h => h.2.2 _ (Lx.cur_in ({ l with high := (w : Int) } : Lx))) (Next_ok db l.cur hok.cur.1) (fun v G1 hq => ?_)
  obtain ⟨rfl, rfl⟩ := hq
  simp only [List.nil_append]
  refine .alter (t := 47) (v' := .int .i64 l.next) rfl (rfl) ?_
  refine .rd (.le rfl rfl) ?_
  refine .rd (.neB Tryz.underlying4 rfl rfl) ?_
  refine .alter (t := 49) (v' := .bool false) rfl (congrArg (fun b => Value.bool (!b)) saves_eq) ?_
  refine .nil ?_
  refine .condF rfl ?_
  refine .skip ?_
  refine .seq ?_
  refine .region ?_
  refine .rd (.move rfl) ?_
  refine .fn rfl rfl .nil ((LG.at .head).mono fun _ h => h.1) (Saved_ok l.lb db (some ⟨l.cur.b, 0, none⟩) l.pre l.most l.start (w : Int) l.la (l.ini.length + 1) l.lc) (fun v G1 hq => ?_)
  obtain ⟨rfl, rfl⟩ := hq
  simp only [List.nil_append]
  refine .rd (.assign rfl) ?_
  refine .nil ?_
  refine .seq ?_
  refine .dup (.tail (.tail (.tail .head))) ?_
  refine .knowMono (RowAt ka (kl.flatMap icI)) .head (fun w h => h.2.2) ?_
  have hl2 := hS.len
  refine .region ?_
  refine .rd (.move rfl) ?_
  refine .rd (.move rfl) ?_
  refine .fn rfl rfl (.cons (.tail (.tail (.tail .head))) (.cons (.tail (.tail (.tail .head))) (.cons .head .nil))) (fun _ _ _ => trivial) (Crash_ok db mb d2 _ ka kl kc hS.dok hS.short.all (by omega) rfl hkc hki hkl) (fun v G1 hq => ?_)
  obtain ⟨e, hC, rfl⟩ := hq
  simp only [List.cons_append, List.nil_append]
  have hke : e.fs.length = d2.fs.length := by have := congrArg List.length hC.keys; rwa [List.length_map, List.length_map] at this
  have hse2 : Short e := fun n hn => hS.short n (by rw [← hC.get]; exact hn)
  obtain ⟨kk, rest, hkk, hFo⟩ := hS.found hF.pre hst (by omega) (by omega) hC
  refine .nil ?_
  refine .seq ?_
  refine .region ?_
  refine .rd (.move rfl) ?_
  refine .fn rfl rfl (.cons .head (.cons .head .nil)) ((Knows.know .head).mono fun _ h => h.1) (Open_any db mb e [112] 300 _ 0 w hC.dok prep hse2.all (by omega) (by decide) (by decide) hFo) (fun v G1 hq => ?_)
  obtain ⟨l2, ss, e2, rfl, hO, rfl⟩ := hq
  simp only [List.cons_append, List.nil_append]
  refine .rd (.move rfl) ?_
  refine .rd (.extract rfl rfl) ?_
  refine .rd (.extract rfl rfl) ?_
  refine .rd (.assign rfl) ?_
  refine .rd (.assign rfl) ?_
  refine .nil ?_
  refine .alter (t := 14) (v' := .pointer (some ⟨l2.lb, 0, none⟩)) rfl (rfl) ?_
  refine .seq ?_
  refine .draws [13, 24] [LG db l2] (by kernel_rfl) ?_
  refine .rp 0 rfl (by kernel_rfl) (by kernel_rfl) (by kernel_rfl) (Reads.pure (.move rfl)) ?_
  refine .rp 1 rfl (by kernel_rfl) (by kernel_rfl) (by kernel_rfl) (Reads.pure (.neNilP Tryz.underlying28 rfl rfl)) ?_
  refine .rp 2 rfl (by kernel_rfl) (by kernel_rfl) (by kernel_rfl) (Reads.pure (.move rfl)) ?_
  refine .rpG 3 (t := 62) rfl rfl rfl (by kernel_rfl) (by kernel_rfl) (by kernel_rfl) (Reads.pure (.move rfl)) ?_
  refine .rpG 4 (t := 62) rfl rfl rfl (by kernel_rfl) (by kernel_rfl) (by kernel_rfl) (Reads.pure (.eqI rfl rfl)) ?_
  refine .alter (t := 64) (v' := .bool true) rfl (congrArg Value.bool (by rfl)) ?_
  refine .rp 5 rfl (by kernel_rfl) (by kernel_rfl) (by kernel_rfl) (Reads.pure (.pickT rfl rfl)) ?_
  refine .rp 6 rfl (by kernel_rfl) (by kernel_rfl) (by kernel_rfl) (Reads.pure (.move rfl)) ?_
  refine .rpG 7 (t := 66) rfl rfl rfl (by kernel_rfl) (by kernel_rfl) (by kernel_rfl) (Reads.pure (.move rfl)) ?_
  refine .rpG 9 (t := 66) rfl rfl rfl (by kernel_rfl) (by kernel_rfl) (by kernel_rfl) (Reads.pure (.move rfl)) ?_
  refine .rpG 10 (t := 66) rfl rfl rfl (by kernel_rfl) (by kernel_rfl) (by kernel_rfl) (Reads.pure (.move rfl)) ?_
  refine .rpG 11 (t := 66) rfl rfl rfl (by kernel_rfl) (by kernel_rfl) (by kernel_rfl) (Reads.pure (.nilCheck rfl)) ?_
  refine .rpG 12 (t := 66) rfl rfl rfl (by kernel_rfl) (by kernel_rfl) (by kernel_rfl) (Reads.pure (.fieldAddr fd42_0 rfl)) ?_
  refine .rdG 13 (t := 66) rfl rfl rfl rfl (by kernel_rfl) (by kernel_rfl) (by kernel_rfl) (.load na39 rfl (Knows.one (i := 0) ((LG.at .head).mono fun _ h => h.1) rfl)) (.cons .head .nil) ?_
  refine .efG 8 (t := 66) (by kernel_rfl) rfl rfl rfl (.fn rfl rfl .nil ((LG.at .head).mono fun _ h => h.1) (Saved_ok l2.lb db (some ⟨l2.cur.b, 0, none⟩) l2.pre l2.most l2.start l2.high l2.la (l2.ini.length + 1) l2.lc)) ?_
  rintro v _ ⟨G1, hq, rfl⟩
  obtain ⟨rfl, rfl⟩ := hq
  simp only [List.nil_append]
  refine ⟨.inr ⟨_, (.cons .head .nil)⟩, ?_⟩
  refine .alter (t := 68) (v' := .int .i64 (min (w : Int) l2.next)) rfl (congrArg (Value.int .i64) hO.high) ?_
  refine .efG 14 (t := 66) (by kernel_rfl) rfl rfl rfl (.fn rfl rfl .nil ((LG.at .head).mono fun _ h => h.2.2 _ l2.cur_in) (Next_ok db l2.cur hO.ok.cur.1)) ?_
  rintro v _ ⟨G1, hq, rfl⟩
  obtain ⟨rfl, rfl⟩ := hq
  simp only [List.nil_append]
  refine ⟨.inr ⟨_, (.cons .head .nil)⟩, ?_⟩
  refine .alter (t := 74) (v' := .int .i64 l2.next) rfl (rfl) ?_
  refine .rpG 15 (t := 66) rfl rfl rfl (by kernel_rfl) (by kernel_rfl) (by kernel_rfl) (Reads.pure (.min2 rfl rfl rfl)) ?_
  refine .alter (t := 75) (v' := .int .i64 (min (w : Int) l2.next)) rfl (congrArg (Value.int .i64) (by omega)) ?_
  refine .rpG 16 (t := 66) rfl rfl rfl (by kernel_rfl) (by kernel_rfl) (by kernel_rfl) (Reads.pure (.eqI rfl rfl)) ?_
  refine .alter (t := 76) (v' := .bool true) rfl (congrArg Value.bool (decide_eq_true rfl)) ?_
  refine .rp 17 rfl (by kernel_rfl) (by kernel_rfl) (by kernel_rfl) (Reads.pure (.pickT rfl rfl)) ?_
  refine .rp 18 rfl (by kernel_rfl) (by kernel_rfl) (by kernel_rfl) (Reads.pure (.move rfl)) ?_
  refine .rpG 19 (t := 78) rfl rfl rfl (by kernel_rfl) (by kernel_rfl) (by kernel_rfl) (Reads.pure (.move rfl)) ?_
  refine .rpG 21 (t := 78) rfl rfl rfl (by kernel_rfl) (by kernel_rfl) (by kernel_rfl) (Reads.pure (.move rfl)) ?_
  refine .rpG 22 (t := 78) rfl rfl rfl (by kernel_rfl) (by kernel_rfl) (by kernel_rfl) (Reads.pure (.nilCheck rfl)) ?_
  refine .rpG 23 (t := 78) rfl rfl rfl (by kernel_rfl) (by kernel_rfl) (by kernel_rfl) (Reads.pure (.fieldAddr fd42_0 rfl)) ?_
  refine .rdG 24 (t := 78) rfl rfl rfl rfl (by kernel_rfl) (by kernel_rfl) (by kernel_rfl) (.load na39 rfl (Knows.one (i := 0) ((LG.at .head).mono fun _ h => h.1) rfl)) (.cons .head .nil) ?_
  refine .efG 20 (t := 78) (by kernel_rfl) rfl rfl rfl (.fn rfl rfl .nil ((LG.at .head).mono fun _ h => h.1) (Saved_ok l2.lb db (some ⟨l2.cur.b, 0, none⟩) l2.pre l2.most l2.start l2.high l2.la (l2.ini.length + 1) l2.lc)) ?_
  rintro v _ ⟨G1, hq, rfl⟩
  obtain ⟨rfl, rfl⟩ := hq
  simp only [List.nil_append]
  refine ⟨.inr ⟨_, (.cons .head .nil)⟩, ?_⟩
  refine .alter (t := 80) (v' := .int .i64 (min (w : Int) l2.next)) rfl (congrArg (Value.int .i64) hO.high) ?_
  refine .efG 25 (t := 78) (by kernel_rfl) rfl rfl rfl (.fn rfl rfl .nil ((LG.at .head).mono fun _ h => h.2.2 _ l2.cur_in) (Next_ok db l2.cur hO.ok.cur.1)) ?_
  rintro v _ ⟨G1, hq, rfl⟩
  obtain ⟨rfl, rfl⟩ := hq
  simp only [List.nil_append]
  refine ⟨.inl (by kernel_rfl), ?_⟩
  refine .alter (t := 85) (v' := .int .i64 l2.next) rfl (rfl) ?_
  refine .rpG 26 (t := 78) rfl rfl rfl (by kernel_rfl) (by kernel_rfl) (by kernel_rfl) (Reads.pure (.le rfl rfl)) ?_
  refine .alter (t := 86) (v' := .bool true) rfl (congrArg Value.bool (decide_eq_true (by omega))) ?_
  refine .rp 27 rfl (by kernel_rfl) (by kernel_rfl) (by kernel_rfl) (Reads.pure (.pickT rfl rfl)) ?_
  refine .rp 28 rfl (by kernel_rfl) (by kernel_rfl) (by kernel_rfl) (Reads.pure (.assign rfl)) ?_
  refine .done (by kernel_rfl) ?_
  refine .retP Tryz.func6 (.cons (.tmp rfl) .nil) (.cons (.tail (.tail (.tail (.tail (.tail .head))))) .nil) ?_
  exact ⟨[], ⟨rfl, rfl⟩, rfl⟩

end Go.Proofs.YtglhoenjflpibaaGreatDoor


/- A separation logic over the given machine. Part 10: what a statement's arguments are, and a law's row out of its contract. -/
namespace Go.Sp
open Go Go.ChangeShapes Go.WideShapes Go.ChangeAt Go.RowKit

section
variable {H : Type} {enc : TypeId × Value → H} {P : Program} {W : World} {spare : Nat → Bool} {held : Bool}

/-- Every string, slice and map of a reading fits into memory. -/
def Fits (P : Program) (t : TypeId) (d : DataW H) : Prop := ∀ n ∈ d.weights P t, n ≤ 140737488351232

/-- What a reading of type t tells: its cells are those of one of α. -/
def Rd {α : Type} (enc : TypeId × Value → H) (P : Program) (W : World) (spare : Nat → Bool) (held : Bool) (t : TypeId) (cells : α → List Value) (good : α → Prop) : Prop :=
  ∀ (n : Nat) (cs : List Value) (x : DataW H × List MemPlace), DataW.trod enc P W 0 spare held n t cs = some x → Fits P t x.1 → ∃ a, cs = cells a ∧ good a

theorem Rd.int {t} {k : IntKind} (ht : P.underlying t = some (.int k)) : Rd enc P W spare held t (fun n : Int => [.int k n]) (fun n => (Lit.int k n).wf = true) := fun n cs x h _ => by
  obtain ⟨m, rfl, _, hw⟩ := DataW.trod_int ht h
  exact ⟨m, rfl, hw⟩
theorem Rd.bool {t} (ht : P.underlying t = some .bool) : Rd enc P W spare held t (fun b : Bool => [.bool b]) (fun _ => True) := fun n cs x h _ => by
  obtain ⟨m, rfl, _⟩ := DataW.trod_bool ht h
  exact ⟨m, rfl, trivial⟩
theorem Rd.string {t} (ht : P.underlying t = some .string) : Rd enc P W spare held t (fun s : ByteArray => [.string s]) (fun s => s.size ≤ 140737488351232) := fun n cs x h hf => by
  obtain ⟨s, rfl, rfl, _⟩ := DataW.trod_string ht h
  refine ⟨s, rfl, ?_⟩
  have := hf s.data.toList.length (by simp [DataW.weights])
  simpa using this

theorem weightsAll_mem {e : TypeId} {l : List (DataW H)} {d : DataW H} (hd : d ∈ l) {n : Nat} (hn : n ∈ d.weights P e) : n ∈ DataW.weightsAll P e l := by
  induction l with
  | nil => cases hd
  | cons y l ih =>
    rw [DataW.weightsAll, List.mem_append]
    rcases List.mem_cons.1 hd with rfl | h
    · exact .inl hn
    · exact .inr (ih h)
theorem weightsEach_mem {n : Nat} {t : TypeId} {d : DataW H} (hn : n ∈ d.weights P t) : ∀ {ts : List TypeId} {l : List (DataW H)} {i : Nat}, ts[i]? = some t → l[i]? = some d → n ∈ DataW.weightsEach P ts l
  | [], _, _, h, _ => by simp at h
  | _ :: _, [], _, _, h => by simp at h
  | u :: ts, y :: l, 0, h, k => by
    simp at h k; subst h k
    rw [DataW.weightsEach.eq_def]; simp only [List.mem_append]; exact .inl hn
  | u :: ts, y :: l, i + 1, h, k => by
    rw [DataW.weightsEach.eq_def]; simp only [List.mem_append]
    exact .inr (weightsEach_mem hn (ts := ts) (l := l) (i := i) (by simpa using h) (by simpa using k))

/-- One field of a struct. -/
theorem Rd.field {α : Type} {t ft : TypeId} {cells : α → List Value} {good : α → Prop} {fs : Array Field} {n : Nat} {cs : List Value} {x : DataW H × List MemPlace} (ht : P.underlying t = some (.struct fs))
    (h : DataW.trod enc P W 0 spare held n t cs = some x) (hf : Fits P t x.1) (i off sz : Nat) (hi : (fs[i]?).map (fun d => (d.type, d.offset)) = some (ft, off)) (hc : P.cellsOf ft = sz) (r : Rd enc P W spare held ft cells good) :
    ∃ a, (cs.drop off).take sz = cells a ∧ good a := by
  obtain ⟨xs, m, rfl, rfl, hl, hx, hall⟩ := DataW.trod_struct ht h
  cases hfi : fs[i]? with
  | none => simp [hfi] at hi
  | some f =>
    simp [hfi] at hi
    obtain ⟨rfl, rfl⟩ := hi
    have h1 := hall i f hfi
    rw [hc] at h1
    have hlt : i < xs.length := by rw [hx]; exact (Array.getElem?_eq_some_iff.1 hfi).1
    have h2 : xs[i]? = some xs[i] := List.getElem?_eq_getElem hlt
    rw [h2] at h1
    refine r m _ _ h1 fun w hw => hf w ?_
    rw [DataW.weights.eq_def]
    simp only [ht]
    exact weightsEach_mem hw (i := i) (by simp [hfi]) (by simp [h2])

theorem Rd.structLen {t : TypeId} {fs : Array Field} {n : Nat} {cs : List Value} {x : DataW H × List MemPlace} (ht : P.underlying t = some (.struct fs)) (h : DataW.trod enc P W 0 spare held n t cs = some x) : cs.length = P.cellsOf t := by
  obtain ⟨xs, m, rfl, rfl, hl, hx, hall⟩ := DataW.trod_struct ht h
  exact hl

theorem cons_of_len {l : List Value} {n : Nat} (h : l.length = n + 1) : ∃ a t, l = a :: t ∧ t.length = n := by
  cases l with
  | nil => simp at h
  | cons a t => exact ⟨a, t, rfl, by simpa using h⟩

/-- A slice. -/
theorem Rd.slice {α : Type} {t e : TypeId} {s by_ : Nat} {cells : α → List Value} {good : α → Prop} (ht : P.underlying t = some (.slice e)) (hs : P.cellsOf e = s) (hs0 : 0 < s) (hby : P.bytesOf e = by_) (hlen : ∀ a, (cells a).length = s) (hone : ∀ a, ones (cells a))
    (r : Rd enc P W spare held e cells good) :
    Rd enc P W spare held t (fun y : Option Addr × Nat × List α => [.slice y.1 y.2.2.length y.2.1]) (fun y => RowAt y.1 (y.2.2.flatMap cells) W ∧ (∀ a ∈ y.2.2, good a) ∧ y.2.2.length * by_ ≤ 140737488351232 ∧ (y.1 = none → y.2.2 = []) ∧ y.2.2.length ≤ y.2.1) := by
  intro n cs x h hf
  rcases DataW.trod_slice ht h with ⟨rfl, _⟩ | ⟨a, len, cap, elems, rest, m, rfl, rfl, rfl, _, hlc, hcm, hel, heach, _, _⟩
  · exact ⟨(none, 0, []), rfl, .inl rfl, fun _ h => (by cases h), by show 0 * by_ ≤ _; omega, fun _ => rfl, Nat.le_refl _⟩
  · have hw : DataW.weights P t (.slice (elems.map (·.1)) (rest.map (·.1))) = (elems.length + rest.length) * by_ :: (DataW.weightsAll P e (elems.map (·.1)) ++ DataW.weightsAll P e (rest.map (·.1))) := by
      rw [DataW.weights.eq_def]; simp only [ht, hby, List.length_map]
    have hb : len * by_ ≤ 140737488351232 := by
      have h1 := hf _ (by rw [hw]; exact List.mem_cons_self)
      have h2 : len * by_ ≤ (elems.length + rest.length) * by_ := Nat.mul_le_mul_right _ (by omega)
      omega
    have each : ∀ i : Fin len, ∃ y : α, W.cells? 0 (a.add (i * s)) s = some (cells y) ∧ good y := fun i => by
      have h1 := heach i i.2
      rw [hs] at h1
      have hi : (i : Nat) < elems.length := by omega
      rw [List.getElem?_eq_getElem hi, Option.bind_eq_some_iff] at h1
      obtain ⟨cs', hc, hd⟩ := h1
      obtain ⟨y, rfl, hy⟩ := r _ _ _ hd fun w hw' => hf w (by
        rw [hw]
        exact List.mem_cons_of_mem _ (List.mem_append_left _ (weightsAll_mem (List.mem_map_of_mem (List.getElem_mem hi)) hw')))
      exact ⟨y, hc, hy⟩
    let f : Fin len → α := fun i => (each i).choose
    have hf1 : ∀ i : Fin len, W.cells? 0 (a.add (i * s)) s = some (cells (f i)) := fun i => (each i).choose_spec.1
    have hf2 : ∀ i : Fin len, good (f i) := fun i => (each i).choose_spec.2
    have hll : (List.ofFn f).length = len := List.length_ofFn
    refine ⟨(some a, cap, List.ofFn f), by show _ = [Value.slice (some a) (List.ofFn f).length cap]; rw [hll], ?_, ?_, by show (List.ofFn f).length * by_ ≤ _; rw [hll]; exact hb, fun h => (by cases h), by show (List.ofFn f).length ≤ cap; rw [hll]; exact hlc⟩
    · by_cases h0 : len = 0
      · left
        have : List.ofFn f = [] := List.eq_nil_of_length_eq_zero (by rw [hll, h0])
        rw [this]; rfl
      · right
        obtain ⟨_, _, hc0⟩ := World.cells?_some (hf1 ⟨0, by omega⟩)
        have hsp : a.spot = none := by
          have := hc0 0 hs0
          simp only [Nat.zero_mul] at this
          have hz : (cells (f ⟨0, by omega⟩))[0]? = some ((cells (f ⟨0, by omega⟩))[0]'(by rw [hlen]; exact hs0)) := List.getElem?_eq_getElem _
          rw [hz] at this
          simp only [Addr.add, if_true, World.cell?] at this
          split at this
          · split at this
            · cases this
            · simpa using ‹¬ a.spot.isSome = true›
          · cases this
        obtain ⟨b, o, sp⟩ := a
        cases hsp
        refine ⟨b, o, rfl, fun i v hv => ?_, ones.flatMap _ fun y _ => hone y⟩
        have hil : i < (List.ofFn f).length * s := by
          have := (List.getElem?_eq_some_iff.1 hv).1
          rwa [flat_length hlen] at this
        have hq : i / s < len := by rw [← hll]; exact Nat.div_lt_of_lt_mul (by rw [Nat.mul_comm]; exact hil)
        have hr : i % s < s := Nat.mod_lt _ hs0
        have hx : (List.ofFn f)[i / s]? = some (f ⟨i / s, hq⟩) := by rw [List.getElem?_ofFn]; simp [hq]
        obtain ⟨_, _, hc⟩ := World.cells?_some (hf1 ⟨i / s, hq⟩)
        have h1 := hc (i % s) hr
        have hv' : (cells (f ⟨i / s, hq⟩))[i % s]? = some v := by
          have hz : (cells (f ⟨i / s, hq⟩))[i % s]? = some ((cells (f ⟨i / s, hq⟩))[i % s]'(by rw [hlen]; exact hr)) := List.getElem?_eq_getElem _
          have h2 := flat_at hlen _ _ _ hx _ _ hz
          rw [show i / s * s + i % s = i by rw [Nat.mul_comm]; exact Nat.div_add_mod i s] at h2
          rw [h2] at hv
          rw [hz]; exact hv
        rw [hv'] at h1
        rw [Addr_add, Addr_add] at h1
        rw [← h1]
        congr 2
        have := Nat.div_add_mod i s
        rw [Nat.mul_comm] at this
        show o + i = o + i / s * s + i % s
        omega
    · intro y hy
      obtain ⟨i, rfl⟩ := List.mem_ofFn.1 hy
      exact hf2 i

end

theorem okWide_agg {P : Program} {w : World} {r : Reach} {b0 : Nat} {t : TypeId} {fs : Array Field} {v : Value} (ht : P.underlying t = some (.struct fs)) (h : Value.okWide P w r b0 t v) : ∃ cs, v = .agg cs := by
  unfold Value.okWide at h
  rw [ht] at h
  obtain ⟨cs, e, _⟩ := h
  exact ⟨cs, e⟩

/-! ### The row -/

theorem Sat.below {W w' : World} {Γ : List SProp} (h : Sat (amb W) w' (Sp.base W :: Γ)) : Below W.heap.size W w' := by
  have hb : ∀ (k : Nat) (o : Obj), W.heap[k]? = some o → w'.heap[k]? = some o := fun k o hk => h.base k o hk
  obtain ⟨ha, _⟩ := h
  refine ⟨congrArg Amb.os ha, congrArg Amb.tape ha, congrArg Amb.output ha, ?_, fun k hk => ?_⟩
  · by_cases h0 : W.heap.size = 0
    · omega
    · have hlt : W.heap.size - 1 < W.heap.size := by omega
      have h1 := hb (W.heap.size - 1) _ (Array.getElem?_eq_getElem hlt)
      have := (Array.getElem?_eq_some_iff.1 h1).1
      omega
  · have h1 : W.heap[k]? = some W.heap[k] := Array.getElem?_eq_getElem hk
    rw [hb k _ h1, h1]

/-- A law that is proved by a contract: from the memory at the start. -/
theorem Cn.law {P f} {args : List Value} {φ : World → Prop} {W : World} (h : Cn P f args φ [] fun v G => v = .bool true ∧ G = []) (hφ : ∀ w : World, (∀ (b : Nat) (o : Obj), W.heap[b]? = some o → w.heap[b]? = some o) → φ w) :
    Calls P f args.toArray W fun e w' => e = .returned (.bool true) ∧ Below W.heap.size W w' := by
  have h1 := (h (base W) fun A w s => hφ w fun b o hb => s.base b o hb).runs (amb W) [] W (by simpa using Sat.start W)
  refine h1.mono ?_
  rintro e w' ⟨v, Γ', rfl, ⟨Γ1, ⟨rfl, rfl⟩, rfl⟩, s⟩
  exact ⟨rfl, s.below⟩

/-- The same, with what the arguments tell known for good. -/
theorem Cn.lawK {P f} {args : List Value} {φ : World → Prop} {W : World} (h : Cn P f args (fun _ => True) [know φ] fun v G => v = .bool true ∧ G = []) (hφ : ∀ w : World, (∀ (b : Nat) (o : Obj), W.heap[b]? = some o → w.heap[b]? = some o) → φ w) :
    Calls P f args.toArray W fun e w' => e = .returned (.bool true) ∧ Below W.heap.size W w' := by
  have hs : Sat (amb W) W (([know φ] ++ [base W]) ++ []) := by
    have h1 : Sat (amb W) W ([base W] ++ [base W]) := (Sat.start W).map fun _ s => sat.base_dup s
    refine Sat.close (fun h s => ?_) h1
    obtain ⟨k, _, _, l, _, s, _⟩ := s
    obtain ⟨j, jl, jr, e⟩ := sat.base_know hφ s
    exact ⟨j, jl.trans l, jr, e⟩
  refine ((h (base W) fun _ _ _ => trivial).runs (amb W) [] W hs).mono ?_
  rintro e w' ⟨v, Γ', rfl, ⟨Γ1, ⟨rfl, rfl⟩, rfl⟩, s⟩
  exact ⟨rfl, s.below⟩

theorem RowAt.later {W w : World} (H : ∀ (b : Nat) (o : Obj), W.heap[b]? = some o → w.heap[b]? = some o) {a cs} (h : RowAt a cs W) : RowAt a cs w := by
  rcases h with h | ⟨b, o, e, h⟩
  · exact .inl h
  · refine .inr ⟨b, o, e, fun i v hv => ?_, h.2⟩
    have h1 := h.1 i v hv
    unfold World.cell? at h1 ⊢
    cases hb : W.heap[b]? with
    | none => simp [hb] at h1
    | some ob => rw [hb] at h1; rw [H b ob hb]; exact h1

end Go.Sp

/- Chapter 6: what the row's condition gives of the package variables (LV). -/
namespace Go.Proofs.YtglhoenjflpibaaGreatDoor
open Go Go.Sp Go.RowKit

theorem LV_of {W : World} (h : laidMetH Tryz.prog Go.Proofs.YtglhoenjflpibaaGreatDoor.Rows.plogWholeRow.laid W) (hs : W.ShapedOpen Tryz.prog) : LV W := by
  have hl : laidMet Tryz.prog Go.Proofs.YtglhoenjflpibaaGreatDoor.Rows.plogWholeRow.laid W := by
    rw [← MakeChecks.laidMetH_plain _ _ _ (by kernel_rfl)]; exact h
  have h2 := hl.tail.tail
  refine ⟨?_, ?_⟩
  · exact Go.Proofs.cell_of_shapedOpen_int (g := 2) (zero := #[.int .i64 0]) (t := 3) hs (of_decide_eq_true (by kernel_rfl)) (by kernel_rfl) rfl (by kernel_rfl) (by kernel_rfl) Tryz.underlying3
  · exact Lib.tabIs_of_head (g := 5) (t := 202) (e := 158) (n := 20) (by kernel_rfl) (by kernel_rfl) (by kernel_rfl) (by kernel_rfl) (by kernel_rfl) (by kernel_rfl) (rest := _) (by
      have e : (Go.Proofs.YtglhoenjflpibaaGreatDoor.Rows.laid_internal_strconv_uint64pow10 : DataW Unit) = Lib.tabData .u64 Lib.pow10Tab := by kernel_rfl
      exact e ▸ h2)
theorem LV.later {W w : World} (H : ∀ (b : Nat) (o : Obj), W.heap[b]? = some o → w.heap[b]? = some o) (h : LV W) : LV w := by
  have hc : ∀ b off v, W.cell? ⟨b, off, none⟩ = some v → w.cell? ⟨b, off, none⟩ = some v := fun b off v h1 => by
    unfold World.cell? at h1 ⊢
    cases hb : W.heap[b]? with
    | none => simp [hb] at h1
    | some ob => rw [hb] at h1; rw [H b ob hb]; exact h1
  obtain ⟨⟨m, h0⟩, h3⟩ := h
  refine ⟨⟨m, hc _ _ _ h0⟩, ?_⟩
  unfold Lib.TabIs World.var? at h3 ⊢
  cases hg : Tryz.prog.globalNamed powName with
  | none => simp [hg] at h3
  | some g =>
    rw [hg] at h3
    simp only [Option.bind_some] at h3 ⊢
    cases hb : W.heap[g]? with
    | none => simp [hb] at h3
    | some ob => rw [hb] at h3; rw [H g ob hb]; exact h3
/-- A row of numbers among the arguments. -/
theorem i64_wf {n : Int} (h : (Lit.int .i64 n).wf = true) : i64 n := by simpa [i64, Lit.wf, IntKind.min, IntKind.max, IntKind.signed, IntKind.bits] using h
theorem Rd.num {H : Type} {enc : TypeId × Value → H} {P : Program} {W : World} {spare : Nat → Bool} {held : Bool} {t} (ht : P.underlying t = some (.int .i64)) : Rd enc P W spare held t (fun n : Int => [.int .i64 n]) i64 := fun n cs x h hf => by
  obtain ⟨m, e, hm⟩ := Rd.int ht n cs x h hf
  exact ⟨m, e, i64_wf hm⟩
end Go.Proofs.YtglhoenjflpibaaGreatDoor

/- Chapter 6: a log that is crashed, in plain Lean. -/
namespace Go.Proofs.YtglhoenjflpibaaGreatDoor
open Go Go.Sp

structure Surv (i : Nat) (l : Lx) (d : Dk) : Prop where
  ok : l.ok d
  dok : d.ok
  own : Own l d
  full : Full l d
  short : Short d
  pre : l.pre = [112]
  base : baseOf l = 0
  start : l.start = 0
  high : l.high = 0
  num : l.all.length = i
  nx : l.next ≤ 12 * i
  size : d.size = 1000000
  used : d.used ≤ 164 * i
  len : d.fs.length ≤ 1 + i
  segs : l.segs.length ≤ i + 1
  nums : (d.get (metaOf [112])).isSome = false
theorem Surv.next0 {i l d} (h : Surv i l d) : 0 ≤ l.next := by have := h.ok.start; rw [h.start] at this; exact this.2.2
theorem Surv.begin {most : Int} {l : Lx} {d : Dk} (h : OpenTo [112] most (Dk.mk 1000000 []) l d) : Surv 0 l d ∧ SafeAt l d 0 :=
  ⟨⟨h.ok, h.dok, h.own, h.full, h.short prep (dk0_short _), h.pre, h.base', h.start, h.high, by rw [h.all]; rfl, by rw [h.next]; decide, h.size, by rw [h.used]; exact Nat.le_refl _, h.len, Nat.le_of_eq h.segs, by rw [(h.far _ fun u hu e => nameOf_meta (by omega) e.symm).2]; rfl⟩, Nat.zero_le _, by rw [h.safe, List.take_zero]; rfl⟩
theorem AppTo.safe {l l' : Lx} {d d' : Dk} {b : Bat} {m : Nat} (hA : AppTo l d b l' d') (hm : SafeAt l d m) : ∃ m', SafeAt l' d' m' := by
  rcases hA.how with ⟨_, h1, h2, h3, h5, h6⟩ | ⟨_, h1, h2, h3, h5⟩
  · refine ⟨m, by rw [h2, List.length_append]; have := hm.1; omega, ?_⟩
    rw [h6, hm.2, h2, List.take_append_of_le_length hm.1]
  · exact ⟨0, Nat.zero_le _, by rw [h5]; rfl⟩
theorem Surv.step {i k : Nat} {l l' : Lx} {d d' : Dk} (h : Surv i l d) (hA : AppTo l d (sb k l.next) l' d') (hk1 : 1 ≤ k) (hk : k ≤ 12) (hi : i ≤ 40) : Surv (i + 1) l' d' := by
  have hn0 := h.next0
  have hnx := h.nx
  have he : (enc (sb k l.next)).length ≤ 164 := Nat.le_trans (sb_enc hk1 (by omega) hn0 (by omega)) (by omega)
  refine ⟨hA.ok, hA.dok, hA.own, hA.full h.full, hA.short h.ok.pre h.short, hA.pre.trans h.pre, hA.base.trans h.base, hA.start.trans h.start, hA.high.trans h.high, by rw [hA.all, List.length_append, h.num]; rfl, by rw [hA.next, sb_en]; omega, hA.size.trans h.size, ?_, ?_, Nat.le_trans (app_segs hA) (Nat.succ_le_succ h.segs), by rw [(hA.far _ fun u hu e => nameOf_meta (by omega) ((h.pre ▸ e).symm)).2]; exact h.nums⟩
  · rw [hA.used]; have := h.used; omega
  · have := hA.len; have := h.len; omega
theorem Surv.sync {i : Nat} {l : Lx} {d : Dk} (h : Surv i l d) : Surv i l (sync l d) ∧ SafeAt l (sync l d) l.cur.bs.length := by
  have hS := sync_to h.ok h.dok
  refine ⟨⟨hS.ok, hS.dok, hS.own h.own, hS.full h.full, fun n hn => h.short n (by rw [← hS.names]; exact hn), h.pre, h.base, h.start, h.high, h.num, h.nx, hS.size.trans h.size, by rw [hS.used]; exact h.used, by rw [hS.len]; exact h.len, h.segs, by rw [hS.names]; exact h.nums⟩, Nat.le_refl _, ?_⟩
  rw [hS.file, h.ok.cur.2.2.2, List.take_length]
/-- Behind the deletion, if there was one. -/
structure Gap (al : List Bat) (sf : Int) (i m : Nat) (q : Lx) (e : Dk) (z w : Nat) : Prop where
  ok : q.ok e
  dok : e.ok
  own : Own q e
  full : Full q e
  short : Short e
  pre : q.pre = [112]
  start : q.start = (z : Int)
  keep : keepN z q.all = keepN z al
  edge : ∀ b ∈ al, b.base < (z : Int) ↔ b.en ≤ (z : Int)
  safe : SafeAt q e m
  safeN : safeN q m = sf
  le : (z : Int) ≤ sf
  zw : z ≤ w ∧ w ≤ 1000000000
  nums : (z = 0 ∧ w = 0 ∧ (e.get (metaOf [112])).isSome = false) ∨ ((e.get (metaOf [112])).isSome = true ∧ e.file (metaOf [112]) = ⟨mt z w, (mt z w).length⟩)
  len : e.fs.length ≤ 2 + i
  segs : q.segs.length ≤ 1000
  nx : q.next ≤ 1000
theorem Surv.gap0 {i m : Nat} {l : Lx} {d : Dk} (h : Surv i l d) (hi : i ≤ 40) (hm : SafeAt l d m) : Gap l.all (Go.Proofs.YtglhoenjflpibaaGreatDoor.safeN l m) i m l d 0 0 := by
  have hsf : (0 : Int) ≤ Go.Proofs.YtglhoenjflpibaaGreatDoor.safeN l m := by
    have h1 := h.ok.cur.1.base0
    have h2 := h.ok.cur.1.chain.mono h.ok.cur.1.good (i := 0) (j := m) (Nat.zero_le _)
    have h3 : nextOf l.cur.base (l.cur.bs.take 0) = l.cur.base := rfl
    unfold Go.Proofs.YtglhoenjflpibaaGreatDoor.safeN; omega
  have hnx := h.nx
  exact ⟨h.ok, h.dok, h.own, h.full, h.short, h.pre, h.start, rfl, fun b hb => by have h1 := (h.ok.good b hb).base; have h2 := (h.ok.good b hb).lt; omega, hm, rfl, hsf, ⟨Nat.le_refl _, Nat.zero_le _⟩, .inl ⟨rfl, rfl, h.nums⟩, by have := h.len; omega, by have := h.segs; omega, by omega⟩
theorem del_segs {l q : Lx} {d e : Dk} {off w : Nat} (h : DelTo l d off w q e) (hn : l.segs.length ≤ 999) (hx : l.next ≤ 900) (hb : 0 ≤ baseOf l) : q.segs.length ≤ 1000 := by
  -- each segment but the last has a batch
  have h1 := h.ok.all_le
  have h2 : q.ini.length ≤ q.all.length := by
    have key : ∀ r : List Sx, (∀ s ∈ r, s.bs ≠ []) → r.length ≤ (r.flatMap fun s => s.bs).length := by
      intro r
      induction r with
      | nil => intro _; exact Nat.zero_le _
      | cons x r ih =>
        intro hr
        have h3 := ih fun s hs => hr s (.tail _ hs)
        have h4 := List.length_pos_iff.2 (hr x (.head _))
        rw [List.flatMap_cons, List.length_append, List.length_cons]; omega
    have h5 := key q.ini h.ok.ne
    unfold Lx.all Lx.segs
    rw [List.flatMap_append, List.length_append]; omega
  have h6 : q.next = l.next := by show q.cur.next = _; rw [h.cur]; rfl
  unfold Lx.segs; rw [List.length_append]; simp; omega
theorem Surv.gap {i m w off : Nat} {l q : Lx} {d e : Dk} {x : Bat} (h : Surv i l d) (hi : i ≤ 40) (hm : SafeAt l d m) (hx : x ∈ l.all) (hxb : x.base = (off : Int)) (hle : (off : Int) ≤ Go.Proofs.YtglhoenjflpibaaGreatDoor.safeN l m) (hw : w = (max l.high (off : Int)).toNat) (hD : DelTo l d off w q e) : Gap l.all (Go.Proofs.YtglhoenjflpibaaGreatDoor.safeN l m) i m q e off w := by
  have hnx := h.nx
  have hhi := h.high
  have hww : w = off := by omega
  have hcn := h.ok.cur.2.1
  have hcur : e.file l.cur.nm = d.file l.cur.nm ∧ e.get l.cur.nm = d.get l.cur.nm := by
    have hg := hD.far l.cur.nm (meta_far h.ok l.cur_in) fun s hs => .inr (h.ok.nm_ne hs).symm
    exact ⟨by unfold Dk.file; unfold Dk.get at hg; rw [hg], hg⟩
  have hmb := mem_base h.ok hx
  refine ⟨hD.ok, hD.dok, hD.own h.own, fun s hs => ?_, hD.short h.ok h.short, hD.pre.trans h.pre, hD.start, hD.keep, fun b hb => ?_, ?_, ?_, hle, ⟨by omega, by omega⟩, .inr ?_, by have := hD.len; have := h.len; omega, del_segs hD (by have := h.segs; omega) (by omega) h.ok.base0, ?_⟩
  · have hs' := hD.sub s hs
    have hg := hD.far s.nm (meta_far h.ok (List.mem_append_left _ hs')) fun t ht => ?_
    · have hf : e.file s.nm = d.file s.nm := by unfold Dk.file; unfold Dk.get at hg; rw [hg]
      rw [hf]; exact h.full s hs'
    · by_cases htq : t ∈ q.ini
      · exact .inl htq
      · refine .inr fun e1 => htq ?_
        obtain ⟨s1, s2, _, _⟩ := h.ok.seg s (List.mem_append_left _ hs')
        obtain ⟨t1, t2, _, _⟩ := h.ok.seg t (List.mem_append_left _ ht)
        rw [s2, t2] at e1
        have hbb := nameOf_inj e1
        have hst : s = t := by
          have hup := link_up h.ok.link h.ok.ini h.ok.base0
          obtain ⟨a, ha⟩ := List.getElem?_of_mem (show s ∈ l.ini ++ [l.cur] from List.mem_append_left _ hs')
          obtain ⟨b, hb⟩ := List.getElem?_of_mem (show t ∈ l.ini ++ [l.cur] from List.mem_append_left _ ht)
          have h1 : ((l.ini ++ [l.cur]).map fun s => s.base.toNat)[a]? = some s.base.toNat := by rw [List.getElem?_map, ha]; rfl
          have h2 : ((l.ini ++ [l.cur]).map fun s => s.base.toNat)[b]? = some t.base.toNat := by rw [List.getElem?_map, hb]; rfl
          obtain ⟨a1, a2⟩ := List.getElem?_eq_some_iff.1 h1
          obtain ⟨b1, b2⟩ := List.getElem?_eq_some_iff.1 h2
          have hab : a = b := by
            rcases Nat.lt_trichotomy a b with hl | hl | hl
            · have := List.pairwise_iff_getElem.1 hup a b a1 b1 hl; omega
            · exact hl
            · have := List.pairwise_iff_getElem.1 hup b a b1 a1 hl; omega
          subst hab
          rw [ha] at hb; exact Option.some.inj hb
        rw [← hst]; exact hs
  · have hch := h.ok.chain
    have hg := h.ok.good
    constructor
    · intro hlt
      obtain ⟨a, c, hac⟩ := List.append_of_mem hx
      rw [hac] at hch hg hb
      have ha := ahead hch fun y hy => hg y (List.mem_append_left _ hy)
      rcases List.mem_append.1 hb with hb | hb
      · have := ha b hb; omega
      · exfalso
        rcases List.mem_cons.1 hb with rfl | hb
        · omega
        · obtain ⟨p, c', hpc⟩ := List.append_of_mem hb
          have e2 : a ++ x :: c = (a ++ x :: p) ++ b :: c' := by rw [hpc]; simp
          rw [e2] at hch hg
          have := ahead hch (fun y hy => hg y (List.mem_append_left _ hy)) x (by simp)
          have := (hg x (by simp)).lt
          omega
    · intro hle'
      have := (hg b hb).lt
      omega
  · unfold SafeAt; rw [hD.cur, hcur.1]; exact hm
  · unfold Go.Proofs.YtglhoenjflpibaaGreatDoor.safeN; rw [hD.cur]
  · have hnum := hD.num
    rw [h.pre] at hnum
    refine ⟨?_, hnum⟩
    cases hg : (e.get (metaOf [112])).isSome with
    | true => rfl
    | false =>
      rw [Dk.file_none hg] at hnum
      have := congrArg (fun f : Fl => f.b.length) hnum
      simp [fl0, mt] at this
  · show q.cur.next ≤ 1000; rw [hD.cur]; have : l.cur.next = l.next := rfl; omega
theorem Gap.found {al : List Bat} {sf : Int} {i m z w : Nat} {q : Lx} {e e1 : Dk} (h : Gap al sf i m q e z w) (hC : CrashTo e e1) : ∃ k rest, m ≤ k ∧ k ≤ q.cur.bs.length ∧ Found q.pre e1 (pieces q k rest) z w :=
  found_crash h.ok h.dok h.own h.full hC h.segs h.start h.zw (by rw [h.pre]; exact h.nums) ⟨h.safe.1, Nat.le_of_eq h.safe.2.symm⟩ (by rw [h.safeN]; exact h.le)
theorem keep_at {off : Int} : ∀ {n : Int} {l : List Bat}, Chain n l → (∀ b ∈ l, b.good) → ∀ (j : Nat), (∀ b ∈ l.take j, b.en ≤ off) → (∀ b, l[j]? = some b → ¬ b.en ≤ off) → keepN off l = l.drop j
  | _, [], _, _, j, _, _ => by rw [List.drop_nil]; rfl
  | n, b :: l, hc, hg, 0, h1, h2 => by
    have hcut := cut_take hc hg 0 h1 h2
    rw [List.take_zero] at hcut
    refine List.filter_eq_self.2 fun x hx => ?_
    have := List.filter_eq_nil_iff.1 hcut x hx
    simp at this ⊢; omega
  | n, b :: l, hc, hg, j + 1, h1, h2 => by
    have hb : b.en ≤ off := h1 b (by rw [List.take_succ_cons]; exact .head _)
    have ih := keep_at hc.2 (fun x hx => hg x (.tail _ hx)) j (fun x hx => h1 x (by rw [List.take_succ_cons]; exact .tail _ hx)) fun x hx => h2 x (by rw [List.getElem?_cons_succ]; exact hx)
    rw [List.drop_succ_cons, ← ih]
    exact List.filter_cons_of_neg (by simpa using hb)
/-- What is left is a beginning of what is not deleted. -/
theorem Gap.left {al : List Bat} {sf : Int} {i m z w k : Nat} {q l2 : Lx} {e e1 e2 : Dk} {rest : List UInt8} {ss : List Sx} (h : Gap al sf i m q e z w) (hk : k ≤ q.cur.bs.length) (hO : Opened q.pre e1 (pieces q k rest) z w l2 ss e2) {n : Int} (hc : Chain n al) (hg : ∀ b ∈ al, b.good) {j : Nat} (h1 : ∀ b ∈ al.take j, b.base < (z : Int)) (h2 : ∀ b, al[j]? = some b → ¬ b.base < (z : Int)) : keepN z l2.all = (al.drop j).take (keepN z l2.all).length ∧ (keepN z l2.all).length ≤ al.length - j := by
  have ha := (opened_all h.ok hO).1
  have hq : q.all = l2.all ++ q.cur.bs.drop k := by
    rw [ha, List.append_assoc, List.take_append_drop]
    unfold Lx.all Lx.segs
    rw [List.flatMap_append]; simp
  have hkeep := h.keep
  rw [hq, keepN_app] at hkeep
  have hdrop := keep_at (off := (z : Int)) hc hg j (fun b hb => (h.edge b (List.mem_of_mem_take hb)).1 (h1 b hb)) fun b hb hle => h2 b hb ((h.edge b (List.mem_of_getElem? hb)).2 hle)
  rw [hdrop] at hkeep
  constructor
  · rw [← hkeep, List.take_left]
  · have := congrArg List.length hkeep
    rw [List.length_append, List.length_drop] at this; omega
theorem row_sub {a : Option Addr} {l : List BatM} {j n c : Nat} {w : World} {b o : Nat} (ha : a = some ⟨b, o, none⟩) (h : RowAt a (l.flatMap bmc) w) (hc : l.length ≤ c) : RowAt (if c = j then a else a.map (·.add (j * 6))) (((l.drop j).take n).flatMap bmc) w := by
  subst ha
  by_cases h0 : (l.drop j).take n = []
  · exact .inl (by rw [h0]; rfl)
  · have hj : j < l.length := by
      rcases Nat.lt_or_ge j l.length with hl | hl
      · exact hl
      · exact absurd (by rw [List.drop_eq_nil_of_le hl, List.take_nil]) h0
    rw [if_neg (by omega)]
    rcases h with h | ⟨b', o', ho, hcl⟩
    · exfalso
      have := congrArg List.length h
      rw [flat_length bmc_len] at this
      simp only [List.length_nil] at this
      omega
    · cases ho
      have h1 := hcl.sub (j * 6) (((l.drop j).take n).flatMap bmc).length
      have e : ((l.flatMap bmc).drop (j * 6)).take (((l.drop j).take n).flatMap bmc).length = ((l.drop j).take n).flatMap bmc := by
        have e1 : l.flatMap bmc = (l.take j).flatMap bmc ++ ((l.drop j).take n).flatMap bmc ++ ((l.drop j).drop n).flatMap bmc := by
          rw [List.append_assoc, ← List.flatMap_append, List.take_append_drop, ← List.flatMap_append, List.take_append_drop]
        have e2 : ((l.take j).flatMap bmc).length = j * 6 := by rw [flat_length bmc_len, List.length_take, Nat.min_eq_left (by omega)]
        rw [e1, List.append_assoc, List.drop_left' e2, List.take_left]
      rw [e] at h1
      exact .inr ⟨b, o + j * 6, by simp [Addr_add], h1⟩
end Go.Proofs.YtglhoenjflpibaaGreatDoor

namespace Go.Proofs.YtglhoenjflpibaaGreatDoor
open Go Go.Sp

set_option linter.unusedVariables false

namespace log5
theorem fd42_6 : FD Tryz.prog 42 6 6 := .of Tryz.underlying42 (by kernel_rfl)
theorem na40 : NotAgg Tryz.prog 40 := ⟨_, Tryz.underlying40, trivial⟩
theorem ts39 : TS Tryz.prog 39 1 := .of (by kernel_rfl)
theorem na39 : NotAgg Tryz.prog 39 := ⟨_, Tryz.underlying39, trivial⟩
theorem ts34 : TS Tryz.prog 34 6 := .of (by kernel_rfl)
theorem ia34 : IsAgg Tryz.prog 34 := ⟨_, Tryz.underlying34, trivial⟩
theorem ti34 : TI Tryz.prog 34 6 64 (.agg #[.int .i64 0, .int .i64 0, .int .i64 0, .int .i64 0, .int .i64 0, .slice none 0 0]) := .of (by kernel_rfl)
theorem fd42_4 : FD Tryz.prog 42 4 4 := .of Tryz.underlying42 (by kernel_rfl)
theorem na3 : NotAgg Tryz.prog 3 := ⟨_, Tryz.underlying3, trivial⟩
end log5
open log5



set_option maxHeartbeats 1000000 in
set_option maxRecDepth 20000 in
theorem All_ok (db mb : Nat) (d : Dk) (l : Lx) (hl : l.ok d) (hcap : l.all.length ≤ 100000000) : Cn Tryz.prog 17 [.pointer (some ⟨l.lb, 0, none⟩)] (LogAt db l) [blk db (d.cells mb) 60, mp nmv Fl.val mb d.fs] fun v G => ∃ (bl : List BatM) (ra : Option Addr) (rc : Nat), bl.map (·.1) = keepN l.start l.all ∧ v = .slice ra bl.length rc ∧ G = [blk db (d.cells mb) 60, mp nmv Fl.val mb d.fs, arr 34 6 ra rc (bl.flatMap bmc), know (Bal bl)] := by
  refine .enter Tryz.func17 rfl (by kernel_rfl) rfl fun R k => ?_
  have hst := hl.start
  have hll := hl.len
  refine .seq ?_
  refine .region ?_
  refine .rd (.assign rfl) ?_
  refine .nil ?_
  refine .seq ?_
  refine .region ?_
  refine .rd (.assign rfl) ?_
  refine .nil ?_
  refine .seq ?_
  refine .seq ?_
  refine .region ?_
  refine .rd (.move rfl) ?_
  refine .rd (.nilCheck rfl) ?_
  refine .rd (.fieldAddr fd42_6 rfl) ?_
  refine .rd (.load na40 rfl (Knows.one (i := 6) (Knows.pick (.tail (.tail .head)) (k.mono fun _ h => h.1)) rfl)) ?_
  refine .rd (.lenL rfl rfl Tryz.underlying40 rfl) ?_
  refine .rd (.move rfl) ?_
  refine .nil ?_
  refine .nilArr 34 6 none ?_
  refine .knowT (Bal []) (Bal.nil) ?_
  have hsl : l.segs.length = l.ini.length + 1 := by unfold Lx.segs; simp
  refine .alter (t := 12) (v' := .int .i64 (l.segs.length : Nat)) rfl (by rw [hsl]) ?_
  refine .block ?_
  refine .loop (σ := Nat × List BatM × Option Addr × Nat) (fun ⟨i, bl, ra, rc⟩ => i ≤ l.segs.length ∧ bl.map (·.1) = keepN l.start ((l.segs.take i).flatMap (·.bs))) (fun ⟨i, bl, ra, rc⟩ => l.segs.length - i) (fun ⟨i, bl, ra, rc⟩ => [(0, .pointer (some ⟨l.lb, 0, none⟩)), (11, .slice l.la (l.ini.length + 1) l.lc), (12, .int .i64 (l.segs.length : Nat)), (3, .slice ra bl.length rc), (13, .int .i64 (i : Nat))]) (fun ⟨i, bl, ra, rc⟩ => [arr 34 6 ra rc (bl.flatMap bmc), know (Bal bl), blk db (d.cells mb) 60, mp nmv Fl.val mb d.fs, R]) (0, [], none, 0) ⟨Nat.zero_le _, rfl⟩ (.cons rfl (.cons rfl (.cons rfl (.cons rfl (.cons rfl .nil))))) (.cons (.tail .head) (.cons .head (.cons .head (.cons .head (.cons .head .nil))))) (fun s' hI ih => ?_)
  obtain ⟨i, bl, ra, rc⟩ := s'
  dsimp only at hI ih ⊢
  obtain ⟨hin, hpre⟩ := hI
  refine .seq ?_
  refine .region ?_
  refine .rd (.lt rfl rfl) ?_
  refine .nil ?_
  refine .seq ?_
  refine .condP rfl (fun c3 => ?_) (fun c3 => ?_)
  · refine .skip ?_
    refine .seq ?_
    refine .block ?_
    refine .seq ?_
    obtain ⟨s, hs⟩ : ∃ s, l.segs[i]? = some s := ⟨_, List.getElem?_eq_getElem (by omega)⟩
    have hsm := List.mem_of_getElem? hs
    obtain ⟨hsok, hsn, hsx, hsf⟩ := hl.seg s hsm
    have hb0 := hsok.base0
    have hb1 := hsok.base1
    refine .tell (φ := ∃ b o, l.la = some ⟨b, o, none⟩) (Knows.pick (.tail (.tail (.tail (.tail .head)))) (k.mono fun _ h => RowAt.addr h.2.1 (by rw [flat_length sp_len]; omega))) (fun hh => ?_)
    obtain ⟨b9, o9, h9⟩ := hh
    refine .region ?_
    refine .rd (.indexAddr (b := b9) (o := o9) Tryz.underlying40 ts39 (by show some (Value.slice (l.la) _ _) = _; rw [h9]) rfl (by omega) (by omega)) ?_
    refine .rd (.load na39 rfl (Knows.one (i := 0) (Knows.elem (f := sp) sp_len (by decide) (Knows.pick (.tail (.tail (.tail (.tail .head)))) (k.mono fun _ h => h9 ▸ h.2.1)) hs) rfl)) ?_
    refine .rd (.assign rfl) ?_
    refine .nil ?_
    refine .seq ?_
    refine .region ?_
    refine .rd (.move rfl) ?_
    refine .rd (.move rfl) ?_
    refine .fn rfl rfl .nil (Knows.pick (.tail (.tail (.tail (.tail .head)))) (k.mono fun _ h => h.2.2 s hsm)) (Base_ok db s) (fun v G1 hq => ?_)
    obtain ⟨rfl, rfl⟩ := hq
    simp only [List.nil_append]
    refine .fn rfl rfl (.cons (.tail (.tail .head)) (.cons (.tail (.tail .head)) .nil)) (Knows.pick (.tail (.tail .head)) (k.mono fun _ h => h.2.2 s hsm)) (SegRead_ok db mb d s s.base 16777216 hsok hsx hsf ⟨by omega, by omega⟩) (fun v G1 hq => ?_)
    obtain ⟨xl, xa, xc, hxl, rfl, rfl⟩ := hq
    simp only [List.cons_append, List.nil_append]
    refine .rd (.lenL rfl rfl Tryz.underlying43 rfl) ?_
    refine .rd (.move rfl) ?_
    refine .nil ?_
    rw [segRead_base hsok] at hxl
    have hxn : xl.length ≤ 4096 := by have := congrArg List.length hxl; rw [List.length_map] at this; have := hsok.len; omega
    refine .settle (.tail (.tail .head)) (Settles.arr) ?_
    refine .block ?_
    refine .loop (σ := Nat × List BatM × Option Addr × Nat) (fun ⟨j, bl2, ra2, rc2⟩ => j ≤ xl.length ∧ bl2.map (·.1) = keepN l.start ((l.segs.take i).flatMap (·.bs)) ++ keepN l.start ((xl.take j).map (·.1))) (fun ⟨j, bl2, ra2, rc2⟩ => xl.length - j) (fun ⟨j, bl2, ra2, rc2⟩ => [(0, .pointer (some ⟨l.lb, 0, none⟩)), (11, .slice l.la (l.ini.length + 1) l.lc), (12, .int .i64 (l.segs.length : Nat)), (13, .int .i64 (i : Nat)), (20, .slice xa xl.length xc), (21, .int .i64 (xl.length : Nat)), (3, .slice ra2 bl2.length rc2), (22, .int .i64 (j : Nat))]) (fun ⟨j, bl2, ra2, rc2⟩ => [arr 34 6 ra2 rc2 (bl2.flatMap bmc), know (Bal bl2), know (RowAt xa (xl.flatMap bmc)), know (Bal xl), blk db (d.cells mb) 60, mp nmv Fl.val mb d.fs, R]) (0, bl, ra, rc) ⟨Nat.zero_le _, by rw [hpre]; simp [keepN]⟩ (.cons rfl (.cons rfl (.cons rfl (.cons rfl (.cons rfl (.cons rfl (.cons rfl (.cons rfl .nil)))))))) (.cons (.tail (.tail (.tail (.tail .head)))) (.cons (.tail (.tail (.tail (.tail .head)))) (.cons .head (.cons (.tail (.tail .head)) (.cons .head (.cons .head (.cons .head .nil))))))) (fun s2 hI ih => ?_)
    have ih2 := ih
    clear ih
    obtain ⟨j, bl2, ra2, rc2⟩ := s2
    dsimp only at hI ih2 ⊢
    obtain ⟨hjn, hI3⟩ := hI
    refine .seq ?_
    refine .region ?_
    refine .rd (.lt rfl rfl) ?_
    refine .nil ?_
    refine .seq ?_
    refine .condP rfl (fun c6 => ?_) (fun c6 => ?_)
    · refine .skip ?_
      refine .seq ?_
      refine .block ?_
      refine .seq ?_
      obtain ⟨y, hy⟩ : ∃ y, xl[j]? = some y := ⟨_, List.getElem?_eq_getElem (by omega)⟩
      have hyb : y.1 ∈ s.bs := by rw [← hxl]; exact List.mem_map_of_mem (List.mem_of_getElem? hy)
      have hyg := hsok.good _ hyb
      have hy0 := hyg.base
      have hy1 := hyg.en
      have hy2 := hyg.recs64
      have hy3 := hyg.lt
      have hbl : bl2.length ≤ l.all.length := by
        have h1 := congrArg List.length hI3
        rw [List.length_map, List.length_append] at h1
        have h2 := keep_len l.start ((l.segs.take i).flatMap (·.bs))
        have h3 := keep_len l.start ((xl.take j).map (·.1))
        rw [List.length_map, List.length_take] at h3
        have h4 := all_len hs
        have h5 := congrArg List.length hxl
        rw [List.length_map] at h5
        omega
      refine .tell (φ := ∃ b o, xa = some ⟨b, o, none⟩) ((Knows.know (.tail (.tail .head))).mono fun _ h => RowAt.addr h (by rw [flat_length bmc_len]; omega)) (fun hh => ?_)
      obtain ⟨b8, o8, h8⟩ := hh
      refine .region ?_
      refine .rd (.indexAddr (b := b8) (o := o8) Tryz.underlying43 ts34 (by show some (Value.slice (xa) _ _) = _; rw [h8]) rfl (by omega) (by omega)) ?_
      refine .rd (.loadN ia34 ts34 rfl rfl (Knows.elem (f := bmc) bmc_len (by decide) ((Knows.know (.tail (.tail .head))).mono fun _ h => h8 ▸ h) hy)) ?_
      refine .ef (.alloc ti34 rfl (ones.of rfl)) ?_
      rintro _ _ ⟨b7, rfl, rfl⟩
      refine .ef0 (.storeAll ts34 rfl rfl (by rfl) .head rfl (ones.of rfl)) ?_
      rintro _ _ rfl
      refine .nil ?_
      refine .cast (X' := blk b7 (bmc y) 34) (rfl) ?_
      refine .seq ?_
      refine .draws [0, 5] [blk b7 (bmc y) 34, R] (by kernel_rfl) ?_
      refine .rd 0 rfl rfl (by kernel_rfl) (by kernel_rfl) (by kernel_rfl) (.ldN ia34 ts34 rfl .head rfl) (.cons .head (.cons (.tail (.tail (.tail (.tail (.tail (.tail .head)))))) .nil)) ?_
      refine .rp 2 rfl (by kernel_rfl) (by kernel_rfl) (by kernel_rfl) (Reads.pure (.move rfl)) ?_
      refine .rp 3 rfl (by kernel_rfl) (by kernel_rfl) (by kernel_rfl) (Reads.pure (.nilCheck rfl)) ?_
      refine .rp 4 rfl (by kernel_rfl) (by kernel_rfl) (by kernel_rfl) (Reads.pure (.fieldAddr fd42_4 rfl)) ?_
      refine .rd 5 rfl rfl (by kernel_rfl) (by kernel_rfl) (by kernel_rfl) (.load na3 rfl (Knows.one (i := 4) (Knows.pick (.tail .head) (k.mono fun _ h => h.1)) rfl)) (.cons .head (.cons (.tail (.tail (.tail (.tail (.tail (.tail .head)))))) .nil)) ?_
      refine .ef 1 (by kernel_rfl) rfl (.fn rfl rfl .nil (fun _ _ _ => trivial) (pend_ok y.1 y.2.1 y.2.2 (by omega) (by omega) (by omega))) ?_
      rintro v _ ⟨G1, hq, rfl⟩
      obtain ⟨rfl, rfl⟩ := hq
      simp only [List.nil_append]
      refine ⟨.inr ⟨_, (.cons .head (.cons (.tail (.tail (.tail (.tail (.tail (.tail .head)))))) .nil))⟩, ?_⟩
      refine .rp 6 rfl (by kernel_rfl) (by kernel_rfl) (by kernel_rfl) (Reads.pure (.gt rfl rfl)) ?_
      refine .done (by kernel_rfl) ?_
      refine .condP rfl (fun c8 => ?_) (fun c8 => ?_)
      · refine .region ?_
        refine .rd (.move rfl) ?_
        refine .rd (.ldN ia34 ts34 rfl .head rfl) ?_
        refine .ef (.buildOne (cs := bmc y) Tryz.underlying43 ti34 (by decide) rfl rfl rfl (ones.of rfl)) ?_
        rintro _ _ ⟨bo, rfl, rfl⟩
        refine .ef (.append rfl rfl Tryz.underlying43 ti34 rfl (ones.of rfl) (by decide) (by decide) rfl rfl (.tail (.tail .head)) (n := bl2.length) (m := 1) (flat_length bmc_len _) (.srcBlk .head Tryz.underlying43 rfl (by decide)) (by omega)) ?_
        rintro _ _ ⟨qa, qc, rfl, qn, rfl⟩
        refine .rd (.assign rfl) ?_
        refine .nil ?_
        refine .cast (X' := arr 34 6 qa qc ((bl2 ++ [y]).flatMap bmc)) (by rw [List.flatMap_append]; simp) ?_
        refine .dup (.tail (.tail (.tail (.tail (.tail .head))))) ?_
        refine .knowAnd (Bal (bl2 ++ [y])) (.cons (.tail (.tail (.tail (.tail (.tail .head))))) (.cons .head .nil)) (fun w h1 h2 => h1.snoc (h2 y (List.mem_of_getElem? hy))) ?_
        refine .inBlock ?_
        refine .region ?_
        refine .rd (.add rfl rfl (by omega) (by omega)) ?_
        refine .rd (.move rfl) ?_
        refine .nil ?_
        have hJ : j + 1 ≤ xl.length ∧ (bl2 ++ [y]).map (·.1) = keepN l.start ((l.segs.take i).flatMap (·.bs)) ++ keepN l.start ((xl.take (j + 1)).map (·.1)) := ⟨by omega, by rw [List.map_append, maps_take hy, keepN_app, keep_hit c8, hI3, List.append_assoc]; rfl⟩
        exact (ih2 (j + 1, bl2 ++ [y], qa, qc) hJ (by show xl.length - (j + 1) < xl.length - j; omega)).to (.cons rfl (.cons rfl (.cons rfl (.cons rfl (.cons rfl (.cons rfl (.cons (by first | rfl | (show _ = some (Value.slice _ (List.length _) _); rw [List.length_append]; rfl)) (.cons rfl .nil)))))))) (.cons (.tail (.tail .head)) (.cons .head (.cons (.tail (.tail (.tail .head))) (.cons .head (.cons (.tail (.tail .head)) (.cons (.tail (.tail .head)) (.cons (.tail (.tail .head)) .nil)))))))
      · refine .skip ?_
        refine .inBlock ?_
        refine .region ?_
        refine .rd (.add rfl rfl (by omega) (by omega)) ?_
        refine .rd (.move rfl) ?_
        refine .nil ?_
        have hJ : j + 1 ≤ xl.length ∧ (bl2).map (·.1) = keepN l.start ((l.segs.take i).flatMap (·.bs)) ++ keepN l.start ((xl.take (j + 1)).map (·.1)) := ⟨by omega, by rw [maps_take hy, keepN_app, keep_miss c8, List.append_nil]; exact hI3⟩
        exact (ih2 (j + 1, bl2, ra2, rc2) hJ (by show xl.length - (j + 1) < xl.length - j; omega)).to (.cons rfl (.cons rfl (.cons rfl (.cons rfl (.cons rfl (.cons rfl (.cons (by first | rfl | (show _ = some (Value.slice _ (List.length _) _); rw [List.length_append]; rfl)) (.cons rfl .nil)))))))) (.cons (.tail .head) (.cons (.tail .head) (.cons (.tail .head) (.cons (.tail .head) (.cons (.tail .head) (.cons (.tail .head) (.cons (.tail .head) .nil)))))))
    · refine .exit rfl ?_
      refine .inBlock ?_
      refine .region ?_
      refine .rd (.add rfl rfl (by omega) (by omega)) ?_
      refine .rd (.move rfl) ?_
      refine .nil ?_
      have hI' : i + 1 ≤ l.segs.length ∧ bl2.map (·.1) = keepN l.start ((l.segs.take (i + 1)).flatMap (·.bs)) := ⟨by omega, by rw [hI3, segs_take hs, keepN_app, List.take_of_length_le (l := xl) (show xl.length ≤ j by omega), hxl]⟩
      exact (ih (i + 1, bl2, ra2, rc2) hI' (by show l.segs.length - (i + 1) < l.segs.length - i; omega)).to (.cons rfl (.cons rfl (.cons rfl (.cons rfl (.cons rfl .nil))))) (.cons .head (.cons .head (.cons (.tail (.tail .head)) (.cons (.tail (.tail .head)) (.cons (.tail (.tail .head)) .nil)))))
  · refine .exit rfl ?_
    refine .seq ?_
    refine .region ?_
    refine .rd (.move rfl) ?_
    refine .rd (.assign rfl) ?_
    refine .nil ?_
    have hfin : bl.map (·.1) = keepN l.start l.all := by rw [hpre, List.take_of_length_le (by omega)]; rfl
    refine .retP Tryz.func17 (.cons (.tmp rfl) .nil) (.cons (.tail (.tail .head)) (.cons (.tail (.tail .head)) (.cons .head (.cons .head (.cons .head .nil))))) ?_
    exact ⟨[_, _, _, _], ⟨bl, ra, rc, hfin, rfl, rfl⟩, rfl⟩

end Go.Proofs.YtglhoenjflpibaaGreatDoor


namespace Go.Proofs.YtglhoenjflpibaaGreatDoor
open Go Go.Sp

set_option linter.unusedVariables false

namespace log22
theorem ts3 : TS Tryz.prog 3 1 := .of (by kernel_rfl)
theorem na3 : NotAgg Tryz.prog 3 := ⟨_, Tryz.underlying3, trivial⟩
theorem ti34 : TI Tryz.prog 34 6 64 (.agg #[.int .i64 0, .int .i64 0, .int .i64 0, .int .i64 0, .int .i64 0, .slice none 0 0]) := .of (by kernel_rfl)
theorem ts34 : TS Tryz.prog 34 6 := .of (by kernel_rfl)
theorem fd42_0 : FD Tryz.prog 42 0 0 := .of Tryz.underlying42 (by kernel_rfl)
theorem na39 : NotAgg Tryz.prog 39 := ⟨_, Tryz.underlying39, trivial⟩
theorem fd34_0 : FD Tryz.prog 34 0 0 := .of Tryz.underlying34 (by kernel_rfl)
theorem ia34 : IsAgg Tryz.prog 34 := ⟨_, Tryz.underlying34, trivial⟩
end log22
open log22

theorem all_small {al : List Bat} {sf : Int} {i m z w k : Nat} {q l2 : Lx} {e e1 e2 : Dk} {rest : List UInt8} {ss : List Sx} (h : Gap al sf i m q e z w) (hk : k ≤ q.cur.bs.length) (hO : Opened q.pre e1 (pieces q k rest) z w l2 ss e2) : l2.all.length ≤ 100000000 := by
  have ha := (opened_all h.ok hO).1
  have h1 := h.ok.all_le
  have h2 := h.nx
  have hq : q.all = l2.all ++ q.cur.bs.drop k := by
    rw [ha, List.append_assoc, List.take_append_drop]
    unfold Lx.all Lx.segs
    rw [List.flatMap_append]; simp
  have h3 := congrArg List.length hq
  rw [List.length_append] at h3
  omega
theorem st_T {wl : List BatM} {j : Nat} {y : BatM} (hy : wl[j]? = some y) (n : Int) : decide (y.1.base < n) = decide (∃ y, wl[j]? = some y ∧ y.1.base < n) :=
  decide_eq_decide.2 ⟨fun h => ⟨y, hy, h⟩, fun ⟨z, hz, h⟩ => by rw [hy] at hz; cases hz; exact h⟩
theorem st_F {wl : List BatM} {j : Nat} (h : ¬ j < wl.length) (n : Int) : false = decide (∃ y, wl[j]? = some y ∧ y.1.base < n) :=
  (decide_eq_false fun ⟨y, hy, _⟩ => h (List.getElem?_eq_some_iff.1 hy).1).symm
theorem take_lt {l : List Bat} {u : Int} {j : Nat} {b : Bat} (h : ∀ x ∈ l.take j, x.base < u) (hb : l[j]? = some b) (hu : b.base < u) : ∀ x ∈ l.take (j + 1), x.base < u := fun x hx => by
  rw [List.take_add_one, hb] at hx
  rcases List.mem_append.1 hx with hx | hx
  · exact h x hx
  · rw [List.mem_singleton.1 hx]; exact hu
theorem Bal.sub {l m : List BatM} {w : World} (h : Bal l w) (hs : ∀ y ∈ m, y ∈ l) : Bal m w := fun y hy => h y (hs y hy)
theorem row_sub_any {a : Option Addr} {l : List BatM} {j n c : Nat} {w : World} (ha : 0 < l.length → ∃ b o, a = some ⟨b, o, none⟩) (h : RowAt a (l.flatMap bmc) w) (hc : l.length ≤ c) : RowAt (if c = j then a else a.map (·.add (j * 6))) (((l.drop j).take n).flatMap bmc) w := by
  by_cases h0 : 0 < l.length
  · obtain ⟨b, o, hb⟩ := ha h0
    exact row_sub hb h hc
  · have : l = [] := List.eq_nil_of_length_eq_zero (by omega)
    subst this
    exact .inl (by rw [List.drop_nil, List.take_nil]; rfl)

set_option maxHeartbeats 8000000 in
set_option maxRecDepth 20000 in
open Classical in
theorem PlogSurvives_ok (most : Int) (sa : Option Addr) (sizes : List Int) (sc : Nat) (ya : Option Addr) (syncs : List Int) (yc : Nat) (start : Int) (ka : Option Addr) (kl : List Int) (kc : Nat) (h0 : i64 most) (hsz : ∀ x ∈ sizes, i64 x) (hsl : sizes.length ≤ 140737488351232) (hyl : syncs.length ≤ 140737488351232) (h3 : i64 start) (hkc : kl.length ≤ kc) (hki : ∀ x ∈ kl, i64 x) (hkl : kl.length ≤ 140737488351232) : Cn Tryz.prog 7 [.int .i64 most, .slice sa sizes.length sc, .slice ya syncs.length yc, .int .i64 start, .slice ka kl.length kc] (fun _ => True) [know fun w => LV w ∧ RowAt sa (sizes.flatMap icI) w ∧ RowAt ya (syncs.flatMap icI) w ∧ RowAt ka (kl.flatMap icI) w] fun v G => v = .bool true ∧ G = [] := by
  refine .enter Tryz.func7 rfl (by kernel_rfl) rfl fun R k => ?_
  refine .seq ?_
  refine .region ?_
  refine .rd (.assign rfl) ?_
  refine .nil ?_
  refine .seq ?_
  refine .region ?_
  refine .fn rfl rfl .nil ((Knows.know .head).mono fun _ h => h.1) (shown_ok) (fun v G1 hq => ?_)
  obtain ⟨rfl, rfl⟩ := hq
  simp only [List.nil_append]
  refine .rd (.assign rfl) ?_
  refine .nil ?_
  refine .seq ?_
  refine .region ?_
  refine .fn rfl rfl .nil (fun _ _ _ => trivial) (New_ok 1000000 (by decide) (by decide)) (fun v G1 hq => ?_)
  obtain ⟨db, mb, rfl, rfl⟩ := hq
  simp only [List.cons_append, List.nil_append]
  refine .rd (.move rfl) ?_
  refine .rd (.extract rfl rfl) ?_
  refine .rd (.extract rfl rfl) ?_
  refine .rd (.assign rfl) ?_
  refine .rd (.assign rfl) ?_
  refine .nil ?_
  refine .seq ?_
  refine .region ?_
  refine .rd (.move rfl) ?_
  have hp1 := pickN_nn (c := most) (n := 2000) (by decide)
  have hp2 := pickN_lt (c := most) (n := 2000) (by decide)
  refine .fn rfl rfl .nil (fun _ _ _ => trivial) (pick_ok most 2000 h0 (by decide)) (fun v G1 hq => ?_)
  obtain ⟨rfl, rfl⟩ := hq
  simp only [List.nil_append]
  refine .rd (.add rfl rfl (by omega) (by omega)) ?_
  obtain ⟨mm, hmm⟩ : ∃ mm : Int, mm = 256 + pickN most 2000 := ⟨_, rfl⟩
  have hm1 : 256 ≤ mm := by omega
  have hm2 : mm ≤ 1000000 := by omega
  refine .alter (t := 32) (v' := .int .i64 mm) rfl (by rw [hmm]) ?_
  refine .rd (.assign rfl) ?_
  refine .nil ?_
  refine .seq ?_
  refine .seq ?_
  refine .region ?_
  refine .rd (.move rfl) ?_
  refine .rd (.not rfl) ?_
  refine .rd (.move rfl) ?_
  refine .on (t := 35) rfl rfl ?_
  refine .rd (.move rfl) ?_
  refine .on (t := 35) rfl rfl ?_
  refine .rd (.eqNilP Tryz.underlying24 rfl rfl) ?_
  refine .rd (.pickF rfl rfl) ?_
  refine .rd (.move rfl) ?_
  refine .on (t := 39) rfl rfl ?_
  refine .rd (.move rfl) ?_
  refine .on (t := 39) rfl rfl ?_
  refine .rd (.neI rfl rfl) ?_
  refine .alter (t := 41) (v' := .bool false) rfl (congrArg Value.bool (by rfl)) ?_
  refine .rd (.pickF rfl rfl) ?_
  refine .nil ?_
  refine .condF rfl ?_
  refine .skip ?_
  refine .seq ?_
  refine .region ?_
  refine .rd (.move rfl) ?_
  refine .rd (.move rfl) ?_
  refine .fn rfl rfl (.cons .head (.cons .head .nil)) ((Knows.know .head).mono fun _ h => h.1) (Open_ok7 db mb (Dk.mk 1000000 []) [112] mm (dk0_ok (by decide)) prep (dk0_short _) (by decide) (dk0_free _ _) hm1 hm2) (fun v G1 hq => ?_)
  obtain ⟨l0, d1, rfl, hA, rfl⟩ := hq
  simp only [List.cons_append, List.nil_append]
  obtain ⟨hD0, hs0⟩ := Surv.begin hA
  have ha0 := hA.all
  refine .rd (.move rfl) ?_
  refine .rd (.extract rfl rfl) ?_
  refine .rd (.extract rfl rfl) ?_
  refine .rd (.assign rfl) ?_
  refine .rd (.assign rfl) ?_
  refine .nil ?_
  refine .alter (t := 14) (v' := .pointer (some ⟨l0.lb, 0, none⟩)) rfl (rfl) ?_
  refine .seq ?_
  refine .seq ?_
  refine .region ?_
  refine .rd (.move rfl) ?_
  refine .rd (.eqNilP Tryz.underlying28 rfl rfl) ?_
  refine .rd (.move rfl) ?_
  refine .on (t := 51) rfl rfl ?_
  refine .rd (.move rfl) ?_
  refine .on (t := 51) rfl rfl ?_
  refine .rd (.neI rfl rfl) ?_
  refine .alter (t := 53) (v' := .bool false) rfl (congrArg Value.bool (by rfl)) ?_
  refine .rd (.pickF rfl rfl) ?_
  refine .nil ?_
  refine .condF rfl ?_
  refine .skip ?_
  refine .seq ?_
  refine .region ?_
  refine .rd (.assign rfl) ?_
  refine .nil ?_
  refine .seq ?_
  refine .seq ?_
  refine .region ?_
  refine .rd (.assign rfl) ?_
  refine .nil ?_
  refine .nilArr 34 6 none ?_
  refine .knowT (Bal []) (Bal.nil) ?_
  refine .block ?_
  refine .loop (σ := Nat × Lx × Dk × List BatM × Option Addr × Nat × Nat) (fun ⟨i, l, d, vl, va, vc, m⟩ => i ≤ sizes.length ∧ i ≤ 40 ∧ Surv i l d ∧ vl.map (·.1) = l.all ∧ SafeAt l d m) (fun ⟨i, l, d, vl, va, vc, m⟩ => sizes.length - i) (fun ⟨i, l, d, vl, va, vc, m⟩ => [(0, .int .i64 mm), (1, .slice sa sizes.length sc), (2, .slice ya syncs.length yc), (3, .int .i64 start), (4, .slice ka kl.length kc), (12, .pointer (some ⟨db, 0, none⟩)), (14, .pointer (some ⟨l.lb, 0, none⟩)), (15, .slice va vl.length vc), (16, .int .i64 (i : Nat))]) (fun ⟨i, l, d, vl, va, vc, m⟩ => [arr 34 6 va vc (vl.flatMap bmc), know (Bal vl), LG db l, blk db (d.cells mb) 60, mp nmv Fl.val mb d.fs, know fun w => LV w ∧ RowAt sa (sizes.flatMap icI) w ∧ RowAt ya (syncs.flatMap icI) w ∧ RowAt ka (kl.flatMap icI) w, R]) (0, l0, d1, [], none, 0, 0) ⟨Nat.zero_le _, Nat.zero_le _, hD0, ha0.symm, hs0⟩ (.cons rfl (.cons rfl (.cons rfl (.cons rfl (.cons rfl (.cons rfl (.cons rfl (.cons rfl (.cons rfl .nil))))))))) (.cons (.tail .head) (.cons .head (.cons .head (.cons .head (.cons .head (.cons .head (.cons .head .nil))))))) (fun s' hI ih => ?_)
  obtain ⟨i, l, d, vl, va, vc, m⟩ := s'
  dsimp only at hI ih ⊢
  obtain ⟨hin, hi40, hD, hvl, hsa⟩ := hI
  have hnx := hD.nx
  have hus := hD.used
  have hln := hD.len
  have hsi := hD.size
  have hn0 := hD.next0
  have hst := hD.start
  have hhi := hD.high
  have hvn : vl.length = i := (len_map hvl).trans hD.num
  refine .seq ?_
  refine .seq ?_
  refine .region ?_
  refine RunO.join 8 62 (decide (i < sizes.length ∧ i < 40)) ?_ ?_
  · refine .rd (.move rfl) ?_
    refine .rd (.move rfl) ?_
    refine .rd (.lenL rfl rfl Tryz.underlying22 rfl) ?_
    refine .rd (.lt rfl rfl) ?_
    refine .rd (.move rfl) ?_
    refine .split (t := 59) rfl (fun g11 => ?_) (fun g11 => ?_)
    · replace g11 := of_decide_eq_true g11
      refine .on (t := 59) rfl rfl ?_
      refine .rd (.move rfl) ?_
      refine .on (t := 59) rfl rfl ?_
      refine .rd (.lt rfl rfl) ?_
      refine .rd (.pickT rfl rfl) ?_
      refine .nil ⟨rfl, ?_, by repeat (first | exact Le.refl _ | refine Le.skip rfl ?_)⟩
      exact congrArg (fun x => some (Value.bool x)) (decide_eq_decide.2 (by omega))
    · replace g11 := of_decide_eq_false g11
      refine .off (t := 59) rfl rfl rfl ?_
      refine .off (t := 59) rfl rfl rfl ?_
      refine .rd (.pickF rfl rfl) ?_
      refine .nil ⟨rfl, ?_, by repeat (first | exact Le.refl _ | refine Le.skip rfl ?_)⟩
      exact congrArg (fun x => some (Value.bool x)) ((decide_eq_false (by omega)).symm)
  refine .nil ?_
  refine .condP rfl (fun c11 => ?_) (fun c11 => ?_)
  · refine .skip ?_
    refine .seq ?_
    refine .block ?_
    refine .seq ?_
    obtain ⟨x, hx⟩ : ∃ x, sizes[i]? = some x := ⟨_, List.getElem?_eq_getElem (by omega)⟩
    refine .tell (φ := ∃ b o, sa = some ⟨b, o, none⟩) ((Knows.know (.tail (.tail (.tail (.tail (.tail .head)))))).mono fun _ h => RowAt.addr h.2.1 (by rw [flat_length icI_len]; omega)) (fun hh => ?_)
    obtain ⟨b9, o9, h9⟩ := hh
    refine .region ?_
    refine .rd (.move rfl) ?_
    refine .rd (.move rfl) ?_
    refine .rd (.indexAddr (b := b9) (o := o9) Tryz.underlying22 ts3 (by show some (Value.slice sa _ _) = _; rw [h9]) rfl (by omega) (by omega)) ?_
    refine .rd (.load na3 rfl (Knows.one (i := 0) (Knows.elem (f := icI) icI_len (by decide) ((Knows.know (.tail (.tail (.tail (.tail (.tail .head)))))).mono fun _ h => h9 ▸ h.2.1) hx) rfl)) ?_
    have hp1 := pickN_nn (c := x) (n := 12) (by decide)
    have hp2 := pickN_lt (c := x) (n := 12) (by decide)
    refine .fn rfl rfl .nil (fun _ _ _ => trivial) (pick_ok x 12 (hsz x (List.mem_of_getElem? hx)) (by decide)) (fun v G1 hq => ?_)
    obtain ⟨rfl, rfl⟩ := hq
    simp only [List.nil_append]
    refine .rd (.add rfl rfl (by omega) (by omega)) ?_
    obtain ⟨n, hn⟩ : ∃ n : Nat, (n : Int) = 1 + pickN x 12 := ⟨(1 + pickN x 12).toNat, by omega⟩
    have hk1 : 1 ≤ n := by omega
    have hk2 : n ≤ 12 := by omega
    refine .alter (t := 70) (v' := .int .i64 (n : Nat)) rfl (by rw [hn]) ?_
    refine .fn rfl rfl .nil (fun _ _ _ => trivial) (small_ok n (by omega)) (fun v G1 hq => ?_)
    obtain ⟨ra, rc, rfl, rfl⟩ := hq
    simp only [List.cons_append, List.nil_append]
    refine .ef (.alloc ti34 rfl (ones.of rfl)) ?_
    rintro _ _ ⟨b17, rfl, rfl⟩
    refine .ef0 (.storeAll ts34 rfl rfl (by rfl) .head rfl (ones.of rfl)) ?_
    rintro _ _ rfl
    refine .nil ?_
    refine .cast (X' := blk b17 ((smallB n).cells ra rc) 34) (rfl) ?_
    refine .seq ?_
    refine .region ?_
    refine .rd (.move rfl) ?_
    refine .rd (.nilCheck rfl) ?_
    refine .rd (.fieldAddr fd42_0 rfl) ?_
    refine .rd (.load na39 rfl (Knows.one (i := 0) ((LG.at (.tail (.tail (.tail (.tail .head))))).mono fun _ h => h.1) rfl)) ?_
    refine .fn rfl rfl .nil ((LG.at (.tail (.tail (.tail (.tail .head))))).mono fun _ h => h.2.2 _ l.cur_in) (Next_ok db l.cur hD.ok.cur.1) (fun v G1 hq => ?_)
    obtain ⟨rfl, rfl⟩ := hq
    simp only [List.nil_append]
    refine .alter (t := 76) (v' := .int .i64 l.next) rfl (rfl) ?_
    refine .rd (.fieldAddr fd34_0 rfl) ?_
    refine .ef0 (.store ts3 rfl rfl .head rfl (Nat.le_of_ble_eq_true rfl)) ?_
    rintro _ _ rfl
    refine .nil ?_
    refine .cast (X' := blk b17 ((sb n l.next).cells ra rc) 34) (rfl) ?_
    refine .settle (.tail .head) (Settles.arr) ?_
    refine .seq ?_
    refine .region ?_
    refine .rd (.move rfl) ?_
    refine .rd (.ldN ia34 ts34 rfl (.tail .head) rfl) ?_
    have hg : (sb n l.next).good := sb_good hk1 (by omega) (by omega) (by omega)
    have he : (enc (sb n l.next)).length ≤ 164 := Nat.le_trans (sb_enc hk1 (by omega) (by omega) (by omega)) (by omega)
    refine .fn rfl rfl (.cons (.tail (.tail (.tail (.tail .head)))) (.cons (.tail (.tail (.tail (.tail .head)))) (.cons (.tail (.tail (.tail (.tail .head)))) .nil))) (((Knows.know (.tail (.tail (.tail (.tail .head))))).mono fun _ h => h.1).and (Knows.know .head)) (Append_ok7 db mb d l (sb n l.next) ra rc hD.dok hD.ok hD.own hg (by omega) (Nat.le_trans (Nat.add_le_add hus he) (by rw [hsi]; omega)) (by omega) (by have := hD.segs; omega)) (fun v G1 hq => ?_)
    obtain ⟨l', d', rfl, hA, rfl⟩ := hq
    simp only [List.cons_append, List.nil_append]
    replace hA : AppTo l d (sb n l.next) l' d' := hA
    have hS' := hD.step hA hk1 hk2 hi40
    obtain ⟨m', hm'⟩ := hA.safe hsa
    refine .alter (t := 14) (v' := .pointer (some ⟨l'.lb, 0, none⟩)) rfl (by rw [hA.lb]) ?_
    refine .rd (.move rfl) ?_
    refine .rd (.extract rfl rfl) ?_
    refine .rd (.extract rfl rfl) ?_
    refine .rd (.assign rfl) ?_
    refine .rd (.assign rfl) ?_
    refine .nil ?_
    refine .seq ?_
    refine .seq ?_
    refine .region ?_
    refine .rd (.move rfl) ?_
    refine .rd (.neI rfl rfl) ?_
    refine .alter (t := 85) (v' := .bool false) rfl (congrArg Value.bool (by rfl)) ?_
    refine .rd (.move rfl) ?_
    refine .on (t := 86) rfl rfl ?_
    refine .rd (.move rfl) ?_
    refine .on (t := 86) rfl rfl ?_
    refine .rd (.fieldAddr fd34_0 rfl) ?_
    refine .on (t := 86) rfl rfl ?_
    refine .rd (.ld na3 rfl (.tail (.tail (.tail (.tail .head)))) rfl) ?_
    refine .alter (t := 89) (v' := .int .i64 l.next) rfl (rfl) ?_
    refine .on (t := 86) rfl rfl ?_
    refine .rd (.neI rfl rfl) ?_
    refine .alter (t := 90) (v' := .bool false) rfl (congrArg Value.bool (by rw [decide_eq_true rfl]; rfl)) ?_
    refine .rd (.pickF rfl rfl) ?_
    refine .nil ?_
    refine .condF rfl ?_
    refine .skip ?_
    refine .seq ?_
    refine .region ?_
    refine .rd (.move rfl) ?_
    refine .rd (.ldN ia34 ts34 rfl (.tail (.tail (.tail (.tail .head)))) rfl) ?_
    refine .ef (.buildOne (cs := bmc ((sb n l.next, ra, rc) : BatM)) Tryz.underlying43 ti34 (by decide) rfl rfl rfl (ones.of rfl)) ?_
    rintro _ _ ⟨bo, rfl, rfl⟩
    refine .ef (.append rfl rfl Tryz.underlying43 ti34 rfl (ones.of rfl) (by decide) (by decide) rfl rfl (.tail (.tail (.tail (.tail (.tail (.tail .head)))))) (n := vl.length) (m := 1) (flat_length bmc_len _) (.srcBlk .head Tryz.underlying43 rfl (by decide)) (by omega)) ?_
    rintro _ _ ⟨qa, qc, rfl, qn, rfl⟩
    refine .rd (.assign rfl) ?_
    refine .nil ?_
    refine .cast (X' := arr 34 6 qa qc ((vl ++ [((sb n l.next, ra, rc) : BatM)]).flatMap bmc)) (by rw [List.flatMap_append]; simp) ?_
    refine .knowAnd (Bal (vl ++ [((sb n l.next, ra, rc) : BatM)])) (.cons (.tail (.tail (.tail (.tail (.tail (.tail (.tail .head))))))) (.cons (.tail (.tail (.tail (.tail (.tail .head))))) .nil)) (fun w h1 h2 => h1.snoc h2) ?_
    refine .alter (t := 15) (v' := .slice qa (vl ++ [((sb n l.next, ra, rc) : BatM)]).length qc) rfl (by rw [List.length_append]; rfl) ?_
    refine .seq ?_
    refine .region ?_
    refine .rd (.move rfl) ?_
    refine .rd (.move rfl) ?_
    refine .rd (.lenL rfl rfl Tryz.underlying22 rfl) ?_
    refine .rd (.lt rfl rfl) ?_
    refine .rd (.move rfl) ?_
    refine .split (t := 100) rfl (fun g19_4 => ?_) (fun g19_4 => ?_)
    · replace g19_4 := of_decide_eq_true g19_4
      obtain ⟨x2, hx2⟩ : ∃ x2, syncs[i]? = some x2 := ⟨_, List.getElem?_eq_getElem (by omega)⟩
      refine .tell (φ := ∃ b o, ya = some ⟨b, o, none⟩) ((Knows.know (.tail (.tail (.tail (.tail (.tail (.tail (.tail .head)))))))).mono fun _ h => RowAt.addr h.2.2.1 (by rw [flat_length icI_len]; omega)) (fun hh => ?_)
      obtain ⟨b8, o8, h8⟩ := hh
      refine .on (t := 100) rfl rfl ?_
      refine .rd (.move rfl) ?_
      refine .on (t := 100) rfl rfl ?_
      refine .rd (.move rfl) ?_
      refine .on (t := 100) rfl rfl ?_
      refine .rd (.indexAddr (b := b8) (o := o8) Tryz.underlying22 ts3 (by show some (Value.slice ya _ _) = _; rw [h8]) rfl (by omega) (by omega)) ?_
      refine .on (t := 100) rfl rfl ?_
      refine .rd (.load na3 rfl (Knows.one (i := 0) (Knows.elem (f := icI) icI_len (by decide) ((Knows.know (.tail (.tail (.tail (.tail (.tail (.tail (.tail .head)))))))).mono fun _ h => h8 ▸ h.2.2.1) hx2) rfl)) ?_
      refine .on (t := 100) rfl rfl ?_
      refine .rd (.remW rfl rfl (by decide)) ?_
      refine .on (t := 100) rfl rfl ?_
      refine .rd (.eqI rfl rfl) ?_
      refine .rd (.pickT rfl rfl) ?_
      refine .rd (.move rfl) ?_
      refine .split (t := 108) rfl (fun g19_12 => ?_) (fun g19_12 => ?_)
      · replace g19_12 := of_decide_eq_true g19_12
        refine .on (t := 108) rfl rfl ?_
        refine .rd (.move rfl) ?_
        refine .on (t := 108) rfl rfl ?_
        refine .rd (.nilCheck rfl) ?_
        refine .on (t := 108) rfl rfl ?_
        refine .rd (.fieldAddr fd42_0 rfl) ?_
        refine .on (t := 108) rfl rfl ?_
        refine .rd (.load na39 rfl (Knows.one (i := 0) ((LG.at (.tail (.tail (.tail .head)))).mono fun _ h => h.1) rfl)) ?_
        refine .on (t := 108) rfl rfl ?_
        refine .fn rfl rfl (.cons (.tail (.tail (.tail (.tail .head)))) (.cons (.tail (.tail (.tail (.tail .head)))) .nil)) ((LG.at (.tail (.tail (.tail .head)))).mono fun _ h => h.2.2 _ l'.cur_in) (SegSync_ok db mb d' l'.cur hA.dok hA.ok.cur.2.2.1) (fun v G1 hq => ?_)
        obtain ⟨rfl, rfl⟩ := hq
        simp only [List.cons_append, List.nil_append]
        refine .cast (X' := blk db ((sync l' d').cells mb) 60) (rfl) ?_
        refine .perm (.cons (.tail .head) (.cons .head (.cons .head (.cons .head (.cons .head (.cons .head (.cons .head (.cons .head (.cons .head .nil))))))))) ?_
        refine .cast (X' := mp nmv Fl.val mb (sync l' d').fs) (rfl) ?_
        refine .on (t := 108) rfl rfl ?_
        refine .rd (.neI rfl rfl) ?_
        refine .alter (t := 114) (v' := .bool false) rfl (congrArg Value.bool (by rfl)) ?_
        refine .rd (.pickT rfl rfl) ?_
        refine .nil ?_
        refine .condF rfl ?_
        refine .skip ?_
        refine .inBlock ?_
        refine .region ?_
        refine .rd (.move rfl) ?_
        refine .rd (.add rfl rfl (by omega) (by omega)) ?_
        refine .rd (.assign rfl) ?_
        refine .nil ?_
        exact (ih (i + 1, l', sync l' d', vl ++ [((sb n l.next, ra, rc) : BatM)], qa, qc, l'.cur.bs.length) ⟨by show i + 1 ≤ _; omega, by show i + 1 ≤ _; omega, hS'.sync.1, by rw [List.map_append, hvl, hA.all]; rfl, hS'.sync.2⟩ (by show sizes.length - (i + 1) < sizes.length - i; omega)).to (.cons rfl (.cons rfl (.cons rfl (.cons rfl (.cons rfl (.cons rfl (.cons rfl (.cons rfl (.cons rfl .nil))))))))) (.cons (.tail (.tail (.tail .head))) (.cons (.tail (.tail .head)) (.cons (.tail (.tail (.tail .head))) (.cons (.tail .head) (.cons .head (.cons (.tail (.tail .head)) (.cons (.tail (.tail .head)) .nil)))))))
      · replace g19_12 := of_decide_eq_false g19_12
        refine .off (t := 108) rfl rfl rfl ?_
        refine .off (t := 108) rfl rfl rfl ?_
        refine .off (t := 108) rfl rfl rfl ?_
        refine .off (t := 108) rfl rfl rfl ?_
        refine .off (t := 108) rfl rfl rfl ?_
        refine .off (t := 108) rfl rfl rfl ?_
        refine .rd (.pickF rfl rfl) ?_
        refine .nil ?_
        refine .condF rfl ?_
        refine .skip ?_
        refine .inBlock ?_
        refine .region ?_
        refine .rd (.move rfl) ?_
        refine .rd (.add rfl rfl (by omega) (by omega)) ?_
        refine .rd (.assign rfl) ?_
        refine .nil ?_
        exact (ih (i + 1, l', d', vl ++ [((sb n l.next, ra, rc) : BatM)], qa, qc, m') ⟨by show i + 1 ≤ _; omega, by show i + 1 ≤ _; omega, hS', by rw [List.map_append, hvl, hA.all]; rfl, hm'⟩ (by show sizes.length - (i + 1) < sizes.length - i; omega)).to (.cons rfl (.cons rfl (.cons rfl (.cons rfl (.cons rfl (.cons rfl (.cons rfl (.cons rfl (.cons rfl .nil))))))))) (.cons (.tail .head) (.cons .head (.cons (.tail .head) (.cons (.tail .head) (.cons (.tail .head) (.cons (.tail (.tail .head)) (.cons (.tail (.tail .head)) .nil)))))))
    · replace g19_4 := of_decide_eq_false g19_4
      refine .off (t := 100) rfl rfl rfl ?_
      refine .off (t := 100) rfl rfl rfl ?_
      refine .off (t := 100) rfl rfl rfl ?_
      refine .off (t := 100) rfl rfl rfl ?_
      refine .off (t := 100) rfl rfl rfl ?_
      refine .off (t := 100) rfl rfl rfl ?_
      refine .rd (.pickF rfl rfl) ?_
      refine .rd (.move rfl) ?_
      refine .off (t := 108) rfl rfl rfl ?_
      refine .off (t := 108) rfl rfl rfl ?_
      refine .off (t := 108) rfl rfl rfl ?_
      refine .off (t := 108) rfl rfl rfl ?_
      refine .off (t := 108) rfl rfl rfl ?_
      refine .off (t := 108) rfl rfl rfl ?_
      refine .rd (.pickF rfl rfl) ?_
      refine .nil ?_
      refine .condF rfl ?_
      refine .skip ?_
      refine .inBlock ?_
      refine .region ?_
      refine .rd (.move rfl) ?_
      refine .rd (.add rfl rfl (by omega) (by omega)) ?_
      refine .rd (.assign rfl) ?_
      refine .nil ?_
      exact (ih (i + 1, l', d', vl ++ [((sb n l.next, ra, rc) : BatM)], qa, qc, m') ⟨by show i + 1 ≤ _; omega, by show i + 1 ≤ _; omega, hS', by rw [List.map_append, hvl, hA.all]; rfl, hm'⟩ (by show sizes.length - (i + 1) < sizes.length - i; omega)).to (.cons rfl (.cons rfl (.cons rfl (.cons rfl (.cons rfl (.cons rfl (.cons rfl (.cons rfl (.cons rfl .nil))))))))) (.cons (.tail .head) (.cons .head (.cons (.tail .head) (.cons (.tail .head) (.cons (.tail .head) (.cons (.tail (.tail .head)) (.cons (.tail (.tail .head)) .nil)))))))
  · refine .exit rfl ?_
    refine .seq ?_
    refine .region ?_
    refine .rd (.move rfl) ?_
    refine .rd (.nilCheck rfl) ?_
    refine .rd (.fieldAddr fd42_0 rfl) ?_
    refine .rd (.load na39 rfl (Knows.one (i := 0) ((LG.at (.tail (.tail .head))).mono fun _ h => h.1) rfl)) ?_
    refine .fn rfl rfl (.cons (.tail (.tail (.tail .head))) (.cons (.tail (.tail (.tail .head))) .nil)) ((LG.at (.tail (.tail .head))).mono fun _ h => h.2.2 _ l.cur_in) (Safe_ok db mb d l.cur hD.ok.cur.1) (fun v G1 hq => ?_)
    obtain ⟨z0, hz0, hz1, hz2, rfl, rfl⟩ := hq
    simp only [List.cons_append, List.nil_append]
    refine .alter (t := 120) (v' := .int .i64 (safeN l m)) rfl (by rw [safe_is hD.ok.cur.1 hsa.1 (by rw [hsa.2]) hz0 hz1 hz2]; rfl) ?_
    refine .rd (.assign rfl) ?_
    refine .nil ?_
    refine .seq ?_
    refine .region ?_
    refine .rd (.assign rfl) ?_
    refine .nil ?_
    refine .tell (Knows.arrCap (.tail (.tail .head))) (fun hh => ?_)
    have hvc : vl.length ≤ vc := by rw [flat_length bmc_len] at hh; omega
    clear hh
    have hch := hD.ok.chain
    have hgd := hD.ok.good
    refine .settle (.tail (.tail .head)) (Settles.arr) ?_
    refine .seq ?_
    refine .seq ?_
    refine .region ?_
    refine .rd (.move rfl) ?_
    refine .rd (.lenL rfl rfl Tryz.underlying43 rfl) ?_
    refine .rd (.gt rfl rfl) ?_
    refine .nil ?_
    refine .joinEx (σ := Lx × Dk × Nat × Nat) (φ := fun ⟨q, e, z, w⟩ => Gap l.all (safeN l m) i m q e z w) (E' := fun ⟨q, e, z, w⟩ => [(0, .int .i64 mm), (4, .slice ka kl.length kc), (12, .pointer (some ⟨db, 0, none⟩)), (14, .pointer (some ⟨q.lb, 0, none⟩)), (15, .slice va vl.length vc), (20, .int .i64 (safeN l m))]) (Γ' := fun ⟨q, e, z, w⟩ => [LG db q, blk db (e.cells mb) 60, mp nmv Fl.val mb e.fs, know (Bal vl), know (RowAt va (vl.flatMap bmc)), know fun w => LV w ∧ RowAt sa (sizes.flatMap icI) w ∧ RowAt ya (syncs.flatMap icI) w ∧ RowAt ka (kl.flatMap icI) w, R]) (fun sj hj => ?_) (fun fin => ?_)
    · obtain ⟨q, e, z, w⟩ := sj
      dsimp only at hj ⊢
      have hGa := hj
      have hgl := hGa.len
      have hgz := hGa.zw
      refine .seq ?_
      refine .region ?_
      refine .rd (.move rfl) ?_
      refine .fn rfl rfl .nil ((LG.at .head).mono fun _ h => h.1) (Start_ok q.lb db (some ⟨q.cur.b, 0, none⟩) q.pre q.most q.start q.high q.la (q.ini.length + 1) q.lc) (fun v G1 hq => ?_)
      obtain ⟨rfl, rfl⟩ := hq
      simp only [List.nil_append]
      refine .alter (t := 142) (v' := .int .i64 (z : Nat)) rfl (congrArg (Value.int .i64) hGa.start) ?_
      refine .rd (.assign rfl) ?_
      refine .nil ?_
      refine .seq ?_
      refine .dup (.tail (.tail (.tail (.tail (.tail .head))))) ?_
      refine .knowMono (RowAt ka (kl.flatMap icI)) .head (fun w h => h.2.2.2) ?_
      refine .region ?_
      refine .rd (.move rfl) ?_
      refine .rd (.move rfl) ?_
      refine .fn rfl rfl (.cons (.tail (.tail (.tail .head))) (.cons (.tail (.tail (.tail .head))) (.cons .head .nil))) (fun _ _ _ => trivial) (Crash_ok db mb e _ ka kl kc hGa.dok hGa.short.all (by omega) rfl hkc hki hkl) (fun v G1 hq => ?_)
      obtain ⟨e1, hC, rfl⟩ := hq
      simp only [List.cons_append, List.nil_append]
      have hke : e1.fs.length = e.fs.length := by have := congrArg List.length hC.keys; rwa [List.length_map, List.length_map] at this
      have hse2 : Short e1 := fun n hn => hGa.short n (by rw [← hC.get]; exact hn)
      obtain ⟨kk, rest, hmk, hkk, hFo⟩ := hGa.found hC
      rw [hGa.pre] at hFo
      refine .nil ?_
      refine .seq ?_
      refine .region ?_
      refine .rd (.move rfl) ?_
      refine .rd (.move rfl) ?_
      refine .fn rfl rfl (.cons .head (.cons .head .nil)) ((Knows.know .head).mono fun _ h => h.1) (Open_any db mb e1 [112] mm _ z w hC.dok prep hse2.all (by omega) hm1 hm2 hFo) (fun v G1 hq => ?_)
      obtain ⟨l2, ss, e2, rfl, hO, rfl⟩ := hq
      simp only [List.cons_append, List.nil_append]
      refine .rd (.move rfl) ?_
      refine .rd (.extract rfl rfl) ?_
      refine .rd (.extract rfl rfl) ?_
      refine .rd (.assign rfl) ?_
      refine .rd (.assign rfl) ?_
      refine .nil ?_
      refine .alter (t := 14) (v' := .pointer (some ⟨l2.lb, 0, none⟩)) rfl (rfl) ?_
      have hO' : Opened q.pre e1 (pieces q kk rest) z w l2 ss e2 := by rw [hGa.pre]; exact hO
      obtain ⟨ho1, ho2, hso⟩ := opened_all hGa.ok hO'
      have hsn : safeN l m ≤ l2.next := by
        rw [ho2, ← hGa.safeN]
        exact hGa.ok.cur.1.chain.mono hGa.ok.cur.1.good hmk
      have hl2 := hO.ok.all_le
      have hl3 := hO.ok.cur.1.next_le
      have hl4 : l2.next = l2.cur.next := rfl
      refine .seq ?_
      refine .seq ?_
      refine .draws [16, 25, 30] [LG db l2] (by kernel_rfl) ?_
      refine .rp 0 rfl (by kernel_rfl) (by kernel_rfl) (by kernel_rfl) (Reads.pure (.move rfl)) ?_
      refine .rp 1 rfl (by kernel_rfl) (by kernel_rfl) (by kernel_rfl) (Reads.pure (.eqNilP Tryz.underlying28 rfl rfl)) ?_
      refine .rp 2 rfl (by kernel_rfl) (by kernel_rfl) (by kernel_rfl) (Reads.pure (.move rfl)) ?_
      refine .rpG 3 (t := 154) rfl rfl rfl (by kernel_rfl) (by kernel_rfl) (by kernel_rfl) (Reads.pure (.move rfl)) ?_
      refine .rpG 4 (t := 154) rfl rfl rfl (by kernel_rfl) (by kernel_rfl) (by kernel_rfl) (Reads.pure (.neI rfl rfl)) ?_
      refine .alter (t := 156) (v' := .bool false) rfl (congrArg Value.bool (by rfl)) ?_
      refine .rp 5 rfl (by kernel_rfl) (by kernel_rfl) (by kernel_rfl) (Reads.pure (.pickF rfl rfl)) ?_
      refine .rp 6 rfl (by kernel_rfl) (by kernel_rfl) (by kernel_rfl) (Reads.pure (.move rfl)) ?_
      refine .rpG 7 (t := 158) rfl rfl rfl (by kernel_rfl) (by kernel_rfl) (by kernel_rfl) (Reads.pure (.move rfl)) ?_
      refine .rpG 9 (t := 158) rfl rfl rfl (by kernel_rfl) (by kernel_rfl) (by kernel_rfl) (Reads.pure (.move rfl)) ?_
      refine .efG 8 (t := 158) (by kernel_rfl) rfl rfl rfl (.fn rfl rfl .nil ((LG.at .head).mono fun _ h => h.1) (Start_ok l2.lb db (some ⟨l2.cur.b, 0, none⟩) l2.pre l2.most l2.start l2.high l2.la (l2.ini.length + 1) l2.lc)) ?_
      rintro v _ ⟨G1, hq, rfl⟩
      obtain ⟨rfl, rfl⟩ := hq
      simp only [List.nil_append]
      refine ⟨.inr ⟨_, (.cons .head .nil)⟩, ?_⟩
      refine .alter (t := 160) (v' := .int .i64 (z : Nat)) rfl (congrArg (Value.int .i64) hO.start) ?_
      refine .rpG 10 (t := 158) rfl rfl rfl (by kernel_rfl) (by kernel_rfl) (by kernel_rfl) (Reads.pure (.neI rfl rfl)) ?_
      refine .alter (t := 162) (v' := .bool false) rfl (congrArg Value.bool (by rw [decide_eq_true rfl]; rfl)) ?_
      refine .rp 11 rfl (by kernel_rfl) (by kernel_rfl) (by kernel_rfl) (Reads.pure (.pickF rfl rfl)) ?_
      refine .rp 12 rfl (by kernel_rfl) (by kernel_rfl) (by kernel_rfl) (Reads.pure (.move rfl)) ?_
      refine .rpG 13 (t := 164) rfl rfl rfl (by kernel_rfl) (by kernel_rfl) (by kernel_rfl) (Reads.pure (.move rfl)) ?_
      refine .rpG 14 (t := 164) rfl rfl rfl (by kernel_rfl) (by kernel_rfl) (by kernel_rfl) (Reads.pure (.nilCheck rfl)) ?_
      refine .rpG 15 (t := 164) rfl rfl rfl (by kernel_rfl) (by kernel_rfl) (by kernel_rfl) (Reads.pure (.fieldAddr fd42_0 rfl)) ?_
      refine .rdG 16 (t := 164) rfl rfl rfl rfl (by kernel_rfl) (by kernel_rfl) (by kernel_rfl) (.load na39 rfl (Knows.one (i := 0) ((LG.at .head).mono fun _ h => h.1) rfl)) (.cons .head .nil) ?_
      refine .rpG 18 (t := 164) rfl rfl rfl (by kernel_rfl) (by kernel_rfl) (by kernel_rfl) (Reads.pure (.move rfl)) ?_
      refine .efG 17 (t := 164) (by kernel_rfl) rfl rfl rfl (.fn rfl rfl .nil ((LG.at .head).mono fun _ h => h.2.2 _ l2.cur_in) (Next_ok db l2.cur hO.ok.cur.1)) ?_
      rintro v _ ⟨G1, hq, rfl⟩
      obtain ⟨rfl, rfl⟩ := hq
      simp only [List.nil_append]
      refine ⟨.inr ⟨_, (.cons .head .nil)⟩, ?_⟩
      refine .alter (t := 169) (v' := .int .i64 l2.next) rfl (rfl) ?_
      refine .rpG 19 (t := 164) rfl rfl rfl (by kernel_rfl) (by kernel_rfl) (by kernel_rfl) (Reads.pure (.lt rfl rfl)) ?_
      refine .alter (t := 171) (v' := .bool false) rfl (congrArg Value.bool (decide_eq_false (by omega))) ?_
      refine .rp 20 rfl (by kernel_rfl) (by kernel_rfl) (by kernel_rfl) (Reads.pure (.pickF rfl rfl)) ?_
      refine .rp 21 rfl (by kernel_rfl) (by kernel_rfl) (by kernel_rfl) (Reads.pure (.move rfl)) ?_
      refine .rpG 22 (t := 173) rfl rfl rfl (by kernel_rfl) (by kernel_rfl) (by kernel_rfl) (Reads.pure (.move rfl)) ?_
      refine .rpG 23 (t := 173) rfl rfl rfl (by kernel_rfl) (by kernel_rfl) (by kernel_rfl) (Reads.pure (.nilCheck rfl)) ?_
      refine .rpG 24 (t := 173) rfl rfl rfl (by kernel_rfl) (by kernel_rfl) (by kernel_rfl) (Reads.pure (.fieldAddr fd42_0 rfl)) ?_
      refine .rdG 25 (t := 173) rfl rfl rfl rfl (by kernel_rfl) (by kernel_rfl) (by kernel_rfl) (.load na39 rfl (Knows.one (i := 0) ((LG.at .head).mono fun _ h => h.1) rfl)) (.cons .head .nil) ?_
      refine .rpG 27 (t := 173) rfl rfl rfl (by kernel_rfl) (by kernel_rfl) (by kernel_rfl) (Reads.pure (.move rfl)) ?_
      refine .rpG 28 (t := 173) rfl rfl rfl (by kernel_rfl) (by kernel_rfl) (by kernel_rfl) (Reads.pure (.nilCheck rfl)) ?_
      refine .rpG 29 (t := 173) rfl rfl rfl (by kernel_rfl) (by kernel_rfl) (by kernel_rfl) (Reads.pure (.fieldAddr fd42_0 rfl)) ?_
      refine .rdG 30 (t := 173) rfl rfl rfl rfl (by kernel_rfl) (by kernel_rfl) (by kernel_rfl) (.load na39 rfl (Knows.one (i := 0) ((LG.at .head).mono fun _ h => h.1) rfl)) (.cons .head .nil) ?_
      refine .efG 26 (t := 173) (by kernel_rfl) rfl rfl rfl (.fn rfl rfl (.cons (.tail .head) (.cons (.tail .head) .nil)) ((LG.at .head).mono fun _ h => h.2.2 _ l2.cur_in) (Safe_ok db mb e2 l2.cur hO.ok.cur.1)) ?_
      rintro v _ ⟨G1, hq, rfl⟩
      obtain ⟨z0, hz0, hz1, hz2, rfl, rfl⟩ := hq
      simp only [List.cons_append, List.nil_append]
      refine ⟨.inr ⟨_, (.cons (.tail (.tail .head)) .nil)⟩, ?_⟩
      refine .alter (t := 178) (v' := .int .i64 l2.next) rfl (by rw [safe_is hO.ok.cur.1 hso.1 (by rw [hso.2]) hz0 hz1 hz2, List.take_length]; rfl) ?_
      refine .efG 31 (t := 173) (by kernel_rfl) rfl rfl rfl (.fn rfl rfl .nil ((LG.at (.tail (.tail .head))).mono fun _ h => h.2.2 _ l2.cur_in) (Next_ok db l2.cur hO.ok.cur.1)) ?_
      rintro v _ ⟨G1, hq, rfl⟩
      obtain ⟨rfl, rfl⟩ := hq
      simp only [List.nil_append]
      refine ⟨.inl (by kernel_rfl), ?_⟩
      refine .alter (t := 183) (v' := .int .i64 l2.next) rfl (rfl) ?_
      refine .rpG 32 (t := 173) rfl rfl rfl (by kernel_rfl) (by kernel_rfl) (by kernel_rfl) (Reads.pure (.neI rfl rfl)) ?_
      refine .alter (t := 184) (v' := .bool false) rfl (congrArg Value.bool (by rw [decide_eq_true rfl]; rfl)) ?_
      refine .rp 33 rfl (by kernel_rfl) (by kernel_rfl) (by kernel_rfl) (Reads.pure (.pickF rfl rfl)) ?_
      refine .done (by kernel_rfl) ?_
      refine .condF rfl ?_
      refine .skip ?_
      refine .seq ?_
      refine .region ?_
      refine .rd (.move rfl) ?_
      have hac : l2.all.length ≤ 100000000 := by have := hO.ok.all_le; have := hO.ok.cur.1.next_le; exact all_small hGa hkk hO'
      refine .fn rfl rfl (.cons .head (.cons .head .nil)) (LG.at .head) (All_ok db mb e2 l2 hO.ok hac) (fun v G1 hq => ?_)
      obtain ⟨bl, xa, xc, hbl, rfl, rfl⟩ := hq
      simp only [List.cons_append, List.nil_append]
      refine .settle (.tail (.tail .head)) (Settles.arr) ?_
      rw [hO.start] at hbl
      refine .rd (.assign rfl) ?_
      refine .nil ?_
      refine .seq ?_
      refine .region ?_
      refine .rd (.assign rfl) ?_
      refine .nil ?_
      refine .seq ?_
      refine .block ?_
      refine .loop (σ := Nat) (fun j => j ≤ vl.length ∧ ∀ b ∈ l.all.take j, b.base < (z : Int)) (fun j => vl.length - j) (fun j => [(15, .slice va vl.length vc), (22, .int .i64 (z : Nat)), (23, .slice xa bl.length xc), (24, .int .i64 (j : Nat))]) (fun j => [know (Bal vl), know (RowAt va (vl.flatMap bmc)), know (RowAt xa (bl.flatMap bmc)), know (Bal bl), R]) 0 ⟨Nat.zero_le _, fun _ h => (by cases h)⟩ (.cons rfl (.cons rfl (.cons rfl (.cons rfl .nil)))) (.cons (.tail (.tail (.tail (.tail (.tail (.tail (.tail .head))))))) (.cons (.tail (.tail (.tail (.tail (.tail (.tail (.tail .head))))))) (.cons .head (.cons (.tail (.tail .head)) (.cons (.tail (.tail (.tail (.tail (.tail .head))))) .nil))))) (fun j hI ih => ?_)
      obtain ⟨hjn, hjl⟩ := hI
      refine .seq ?_
      refine .seq ?_
      refine .region ?_
      refine RunO.join 13 200 (decide (∃ y : BatM, vl[j]? = some y ∧ y.1.base < (z : Int))) ?_ ?_
      · refine .rd (.move rfl) ?_
        refine .rd (.move rfl) ?_
        refine .rd (.lenL rfl rfl Tryz.underlying43 rfl) ?_
        refine .rd (.lt rfl rfl) ?_
        refine .rd (.move rfl) ?_
        refine .split (t := 192) rfl (fun g34_4 => ?_) (fun g34_4 => ?_)
        · replace g34_4 := of_decide_eq_true g34_4
          obtain ⟨y, hy⟩ : ∃ y, vl[j]? = some y := ⟨_, List.getElem?_eq_getElem (by omega)⟩
          refine .tell (φ := ∃ b o, va = some ⟨b, o, none⟩) ((Knows.know (.tail .head)).mono fun _ h => RowAt.addr h (by rw [flat_length bmc_len]; omega)) (fun hh => ?_)
          obtain ⟨b7, o7, h7⟩ := hh
          refine .on (t := 192) rfl rfl ?_
          refine .rd (.move rfl) ?_
          refine .on (t := 192) rfl rfl ?_
          refine .rd (.move rfl) ?_
          refine .on (t := 192) rfl rfl ?_
          refine .rd (.indexAddr (b := b7) (o := o7) Tryz.underlying43 ts34 (by show some (Value.slice va _ _) = _; rw [h7]) rfl (by omega) (by omega)) ?_
          refine .on (t := 192) rfl rfl ?_
          refine .rd (.fieldAddr fd34_0 rfl) ?_
          refine .on (t := 192) rfl rfl ?_
          refine .rd (.load na3 rfl (Knows.one (i := 0) (Knows.elem (f := bmc) bmc_len (by decide) ((Knows.know (.tail .head)).mono fun _ h => h7 ▸ h) hy) rfl)) ?_
          refine .on (t := 192) rfl rfl ?_
          refine .rd (.move rfl) ?_
          refine .on (t := 192) rfl rfl ?_
          refine .rd (.lt rfl rfl) ?_
          refine .rd (.pickT rfl rfl) ?_
          refine .nil ⟨rfl, ?_, by repeat (first | exact Le.refl _ | refine Le.skip rfl ?_)⟩
          exact congrArg (fun x => some (Value.bool x)) (st_T hy (z : Int))
        · replace g34_4 := of_decide_eq_false g34_4
          refine .off (t := 192) rfl rfl rfl ?_
          refine .off (t := 192) rfl rfl rfl ?_
          refine .off (t := 192) rfl rfl rfl ?_
          refine .off (t := 192) rfl rfl rfl ?_
          refine .off (t := 192) rfl rfl rfl ?_
          refine .off (t := 192) rfl rfl rfl ?_
          refine .off (t := 192) rfl rfl rfl ?_
          refine .rd (.pickF rfl rfl) ?_
          refine .nil ⟨rfl, ?_, by repeat (first | exact Le.refl _ | refine Le.skip rfl ?_)⟩
          exact congrArg (fun x => some (Value.bool x)) (st_F (by omega) (z : Int))
      refine .nil ?_
      refine .condP rfl (fun c34 => ?_) (fun c34 => ?_)
      · obtain ⟨y, hy, hyz⟩ := c34
        have hjw := (List.getElem?_eq_some_iff.1 hy).1
        refine .skip ?_
        refine .block ?_
        refine .region ?_
        refine .rd (.move rfl) ?_
        refine .rd (.add rfl rfl (by omega) (by omega)) ?_
        refine .rd (.assign rfl) ?_
        refine .nil ?_
        refine .inBlock ?_
        exact (ih (j + 1) ⟨by show j + 1 ≤ _; omega, take_lt hjl (map_get hvl hy) hyz⟩ (by show vl.length - (j + 1) < vl.length - j; omega)).to (.cons rfl (.cons rfl (.cons rfl (.cons rfl .nil)))) (.cons .head (.cons .head (.cons .head (.cons .head (.cons .head .nil)))))
      · obtain ⟨hlf, hll⟩ := hGa.left hkk hO' hch hgd hjl fun b hb hbz => c34 (by
          obtain ⟨y, hy, rfl⟩ : ∃ y, vl[j]? = some y ∧ y.1 = b := by rw [← hvl, List.getElem?_map] at hb; exact Option.map_eq_some_iff.1 hb
          exact ⟨y, hy, hbz⟩)
        have hbn := len_map hbl
        rw [hD.num] at hll
        refine .exit rfl ?_
        refine .seq ?_
        refine .seq ?_
        refine .region ?_
        refine .rd (.move rfl) ?_
        refine .rd (.lenL rfl rfl Tryz.underlying43 rfl) ?_
        refine .rd (.move rfl) ?_
        refine .rd (.lenL rfl rfl Tryz.underlying43 rfl) ?_
        refine .rd (.move rfl) ?_
        refine .rd (.sub rfl rfl (by omega) (by omega)) ?_
        refine .rd (.gt rfl rfl) ?_
        refine .alter (t := 209) (v' := .bool false) rfl (congrArg Value.bool (decide_eq_false (by omega))) ?_
        refine .nil ?_
        refine .condF rfl ?_
        refine .skip ?_
        refine .seq ?_
        refine .knowMono (Bal ((vl.drop j).take bl.length)) .head (fun w h => h.sub fun y hy => List.mem_of_mem_drop (List.mem_of_mem_take hy)) ?_
        refine .tell (φ := 0 < vl.length → ∃ b o, va = some ⟨b, o, none⟩) ((Knows.know (.tail .head)).mono fun _ h h0 => RowAt.addr h (by rw [flat_length bmc_len]; omega)) (fun hh => ?_)
        refine .knowMono (RowAt (if vc = j then va else va.map (·.add (j * 6))) (((vl.drop j).take bl.length).flatMap bmc)) (.tail .head) (fun w h => row_sub_any hh h hvc) ?_
        refine .region ?_
        refine .rd (.move rfl) ?_
        refine .rd (.move rfl) ?_
        refine .rd (.move rfl) ?_
        refine .rd (.move rfl) ?_
        refine .rd (.move rfl) ?_
        refine .rd (.lenL rfl rfl Tryz.underlying43 rfl) ?_
        refine .rd (.add rfl rfl (by omega) (by omega)) ?_
        refine .alter (t := 216) (v' := .int .i64 ((j + bl.length : Nat) : Int)) rfl (congrArg (Value.int .i64) (by omega)) ?_
        refine .rd (.slice (l := j) (h := j + bl.length) (m := vc) Tryz.underlying43 ts34 rfl rfl ⟨_, rfl⟩ ⟨_, rfl⟩ (by omega) (by omega) (by omega)) ?_
        refine .alter (t := 217) (v' := .slice (if vc = j then va else va.map (·.add (j * 6))) ((vl.drop j).take bl.length).length (vc - j)) rfl (by rw [show ((vl.drop j).take bl.length).length = bl.length by rw [List.length_take, List.length_drop]; omega, Nat.add_sub_cancel_left]) ?_
        have hsub : ((vl.drop j).take bl.length).map (·.1) = (l.all.drop j).take bl.length := by rw [List.map_take, List.map_drop, hvl]
        have hbl3 : bl.map (·.1) = (l.all.drop j).take bl.length := by rw [hbn, ← hlf]; exact hbl
        refine .fn rfl rfl .nil (((Knows.know (.tail (.tail .head))).and (Knows.know (.tail (.tail (.tail .head))))).and ((Knows.know .head).and (Knows.know (.tail .head)))) (sames_ok bl ((vl.drop j).take bl.length) xa _ xc _ (by omega) (by rw [List.length_take]; omega) (bal64 hD.ok hbl3 fun b hb => List.mem_of_mem_drop (List.mem_of_mem_take hb)) (bal64 hD.ok hsub fun b hb => List.mem_of_mem_drop (List.mem_of_mem_take hb))) (fun v G1 hq => ?_)
        obtain ⟨r, rfl, hr, rfl⟩ := hq
        simp only [List.nil_append]
        refine .alter (t := 218) (v' := .bool true) rfl (by rw [hr.2 (by rw [hbl3, hsub])]) ?_
        refine .rd (.assign rfl) ?_
        refine .nil ?_
        refine .retP Tryz.func7 (.cons (.tmp rfl) .nil) (.cons (.tail (.tail (.tail (.tail .head)))) .nil) ?_
        exact ⟨[], ⟨rfl, rfl⟩, rfl⟩
    · refine .condP rfl (fun c23 => ?_) (fun c23 => ?_)
      · refine .seq ?_
        have hv0 : 0 < vl.length := by omega
        refine .tell (φ := ∃ b o, va = some ⟨b, o, none⟩) ((Knows.know .head).mono fun _ h => RowAt.addr h (by rw [flat_length bmc_len]; omega)) (fun hh => ?_)
        obtain ⟨b7, o7, h7⟩ := hh
        refine .region ?_
        refine .rd (.move rfl) ?_
        refine .rd (.move rfl) ?_
        refine .rd (.move rfl) ?_
        refine .rd (.lenL rfl rfl Tryz.underlying43 rfl) ?_
        have hp1 := pickN_nn (c := start) (n := vl.length) (by omega)
        have hp2 := pickN_lt (c := start) (n := vl.length) (by omega)
        refine .fn rfl rfl .nil (fun _ _ _ => trivial) (pick_ok start vl.length h3 (by omega)) (fun v G1 hq => ?_)
        obtain ⟨rfl, rfl⟩ := hq
        simp only [List.nil_append]
        obtain ⟨t, ht⟩ : ∃ t : Nat, (t : Int) = pickN start vl.length := ⟨(pickN start vl.length).toNat, by omega⟩
        refine .alter (t := 128) (v' := .int .i64 (t : Nat)) rfl (by rw [ht]) ?_
        obtain ⟨y, hy⟩ : ∃ y, vl[t]? = some y := ⟨_, List.getElem?_eq_getElem (by omega)⟩
        have hym := all_at hvl hy
        have hy0 := (hD.ok.good _ hym).base
        have hymb := mem_base hD.ok hym
        refine .rd (.indexAddr (b := b7) (o := o7) Tryz.underlying43 ts34 (by show some (Value.slice va _ _) = _; rw [h7]) rfl (by omega) (by omega)) ?_
        refine .rd (.fieldAddr fd34_0 rfl) ?_
        refine .rd (.load na3 rfl (Knows.one (i := 0) (Knows.elem (f := bmc) bmc_len (by decide) ((Knows.know .head).mono fun _ h => h7 ▸ h) hy) rfl)) ?_
        refine .alter (t := 131) (v' := .int .i64 (y.1.base.toNat : Nat)) rfl (congrArg (Value.int .i64) (by show y.1.base = _; omega)) ?_
        refine .rd (.assign rfl) ?_
        refine .nil ?_
        refine .seq ?_
        refine .region ?_
        refine .rd (.move rfl) ?_
        refine .rd (.move rfl) ?_
        refine .rd (.le rfl rfl) ?_
        refine .rd (.move rfl) ?_
        refine .split (t := 135) rfl (fun g25_3 => ?_) (fun g25_3 => ?_)
        · have hle25 : ((y.1.base.toNat : Nat) : Int) ≤ safeN l m := of_decide_eq_true g25_3
          refine .on (t := 135) rfl rfl ?_
          refine .rd (.move rfl) ?_
          refine .on (t := 135) rfl rfl ?_
          refine .rd (.move rfl) ?_
          refine .on (t := 135) rfl rfl ?_
          refine .fn rfl rfl (.cons (.tail (.tail (.tail (.tail .head)))) (.cons (.tail .head) (.cons (.tail .head) .nil))) ((Knows.know (.tail (.tail .head))).mono fun _ h => h.1) (Delete_ok db mb d l y.1.base.toNat hD.dok hD.ok (by omega) (.inr ⟨y.1, hym, by omega⟩) (by omega) (.inr (by omega)) (by omega)) (fun v G1 hq => ?_)
          obtain ⟨q, e, rfl, hDe, rfl⟩ := hq
          simp only [List.cons_append, List.nil_append]
          refine .alter (t := 14) (v' := .pointer (some ⟨q.lb, 0, none⟩)) rfl (by rw [hDe.lb]) ?_
          refine .on (t := 135) rfl rfl ?_
          refine .rd (.neI rfl rfl) ?_
          refine .alter (t := 139) (v' := .bool false) rfl (congrArg Value.bool (by rfl)) ?_
          refine .rd (.pickT rfl rfl) ?_
          refine .nil ?_
          refine .condF rfl ?_
          refine .skip ?_
          exact fin (q, e, y.1.base.toNat, _) (hD.gap hi40 hsa hym (by omega) hle25 rfl hDe) (.cons rfl (.cons rfl (.cons rfl (.cons rfl (.cons rfl (.cons rfl .nil)))))) (.cons .head (.cons .head (.cons .head (.cons (.tail .head) (.cons .head (.cons .head (.cons .head .nil)))))))
        · replace g25_3 := of_decide_eq_false g25_3
          refine .off (t := 135) rfl rfl rfl ?_
          refine .off (t := 135) rfl rfl rfl ?_
          refine .off (t := 135) rfl rfl rfl ?_
          refine .off (t := 135) rfl rfl rfl ?_
          refine .rd (.pickF rfl rfl) ?_
          refine .nil ?_
          refine .condF rfl ?_
          refine .skip ?_
          exact fin (l, d, 0, 0) (hD.gap0 hi40 hsa) (.cons rfl (.cons rfl (.cons rfl (.cons rfl (.cons rfl (.cons rfl .nil)))))) (.cons (.tail (.tail (.tail (.tail .head)))) (.cons (.tail .head) (.cons (.tail .head) (.cons (.tail .head) (.cons .head (.cons .head (.cons .head .nil)))))))
      · refine .skip ?_
        exact fin (l, d, 0, 0) (hD.gap0 hi40 hsa) (.cons rfl (.cons rfl (.cons rfl (.cons rfl (.cons rfl (.cons rfl .nil)))))) (.cons (.tail (.tail (.tail (.tail .head)))) (.cons (.tail .head) (.cons (.tail .head) (.cons (.tail .head) (.cons .head (.cons .head (.cons .head .nil)))))))

end Go.Proofs.YtglhoenjflpibaaGreatDoor

