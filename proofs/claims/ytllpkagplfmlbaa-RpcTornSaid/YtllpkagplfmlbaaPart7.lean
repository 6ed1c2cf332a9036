/- Part 7 of a claim's texts: rules for the machine's steps, and steps through functions of the program, under the conditions that each theorem states. -/
import Derived.Test.YtllpkagplfmlbaaProg
import Derived.WalkKit
import Derived.ProofKit
import Derived.OpenShut
import Derived.ShutString
import Derived.ChangeOld
import Derived.Below
import Derived.SizedLaws
import Derived.Carry
import Derived.KernelRfl
import Derived.Test.YtllpkagplfmlbaaPart1
import Derived.Test.YtllpkagplfmlbaaPart2
import Derived.Test.YtllpkagplfmlbaaPart3
import Derived.Test.YtllpkagplfmlbaaPart4
import Derived.Test.YtllpkagplfmlbaaPart5
import Derived.Test.YtllpkagplfmlbaaPart6
set_option linter.unusedVariables false
namespace Go.Proofs.Ytllpkagplfmlbaa
open Go Go.Sp

set_option linter.unusedVariables false

namespace rpc13
theorem ti54 : TI Try.prog 54 21 232 (.agg #[.int .i64 0, .int .i64 0, .int .i64 0, .int .i64 0, .int .i64 0, .int .i64 0, .int .i64 0, .int .i64 0, .int .i64 0, .int .i64 0, .int .i64 0, .int .i64 0, .int .i64 0, .int .i64 0, .int .i64 0, .int .i64 0, .string ⟨#[]⟩, .string ⟨#[]⟩, .slice none 0 0, .slice none 0 0, .slice none 0 0]) := .of (by kernel_rfl)
theorem bld54_  (w : World) : (Instr.build 54 (([] : List Nat).zip []).toArray).run Try.prog w = .ok (.agg #[.int .i64 0, .int .i64 0, .int .i64 0, .int .i64 0, .int .i64 0, .int .i64 0, .int .i64 0, .int .i64 0, .int .i64 0, .int .i64 0, .int .i64 0, .int .i64 0, .int .i64 0, .int .i64 0, .int .i64 0, .int .i64 0, .string ⟨#[]⟩, .string ⟨#[]⟩, .slice none 0 0, .slice none 0 0, .slice none 0 0]) w := by kernel_rfl
theorem ts54 : TS Try.prog 54 21 := .of (by kernel_rfl)
theorem ia54 : IsAgg Try.prog 54 := ⟨_, Try.underlying54, trivial⟩
theorem bld80_0 (x0 : ByteArray) (w : World) : (Instr.build 80 (([0] : List Nat).zip [.string x0]).toArray).run Try.prog w = .ok (.agg #[.string x0, .bool false]) w := by kernel_rfl
end rpc13
open rpc13



set_option maxHeartbeats 1000000 in
set_option maxRecDepth 20000 in
theorem rDecode_ok (s : List UInt8) (hl : s.length ≤ 9000000000000000000) : Cn Try.prog 36 [.string (str s)] (fun _ => True) [] fun v G => ∃ m : MsgM, v = .tuple #[.agg m.cells.toArray, .int .i64 (decode4 s).2] ∧ m.msg = (decode4 s).1 ∧ G = [know m.at_] := by
  refine .enter Try.func36 rfl (by kernel_rfl) rfl fun R k => ?_
  refine .seq ?_
  refine .region ?_
  refine .ef (.alloc ti54 rfl (ones.of rfl)) ?_
  rintro _ _ ⟨b2, rfl, rfl⟩
  refine .rd (.assign rfl) ?_
  refine .nil ?_
  refine .seq ?_
  refine .seq ?_
  refine .region ?_
  refine .rd (.move rfl) ?_
  refine .rd (.lenT rfl rfl Try.underlying9 rfl) ?_
  refine .rd (.lt rfl rfl) ?_
  refine .nil ?_
  refine .condP rfl (fun h1 => ?_) (fun h1 => ?_)
  · refine .seq ?_
    refine .region ?_
    refine .rd (.build rfl (bld54_)) ?_
    refine .ef0 (.storeAll (vs := zeroMM.cells) ts54 rfl rfl rfl .head rfl (ones.of rfl)) ?_
    rintro _ _ rfl
    refine .rd (.assign rfl) ?_
    refine .nil ?_
    have hd := decode_short (b := s) (by omega)
    refine .knowT (zeroMM.at_) (zeroMM_at) ?_
    refine .retP Try.func36 (.cons (.blkN ia54 ts54 rfl (.tail .head) rfl) (.cons (.tmp rfl) .nil)) (.cons .head (.cons (.tail .head) .nil)) ?_
    exact ⟨[_], ⟨zeroMM, by rw [hd]; rfl, by rw [hd]; rfl, rfl⟩, rfl⟩
  · refine .skip ?_
    refine .seq ?_
    refine .region ?_
    refine .rd (.move rfl) ?_
    refine .fn rfl rfl .nil (fun _ _ _ => trivial) (rnumber_ok s (by omega)) (fun v G1 hq => ?_)
    obtain ⟨rfl, rfl⟩ := hq
    simp only [List.nil_append]
    refine .rd (.assign rfl) ?_
    refine .nil ?_
    refine .seq ?_
    refine .block ?_
    refine .seq ?_
    refine .region ?_
    refine .rd (.move rfl) ?_
    refine .rd (.gt rfl rfl) ?_
    refine .rd (.assign rfl) ?_
    refine .nil ?_
    refine .condP rfl (fun h4 => ?_) (fun h4 => ?_)
    · refine .seq ?_
      refine .region ?_
      refine .rd (.build rfl (bld54_)) ?_
      refine .ef0 (.storeAll (vs := zeroMM.cells) ts54 rfl rfl rfl .head rfl (ones.of rfl)) ?_
      rintro _ _ rfl
      refine .rd (.assign rfl) ?_
      refine .nil ?_
      have hd := decode_long (b := s) (by omega) (by omega)
      refine .knowT (zeroMM.at_) (zeroMM_at) ?_
      refine .retP Try.func36 (.cons (.blkN ia54 ts54 rfl (.tail .head) rfl) (.cons (.tmp rfl) .nil)) (.cons .head (.cons (.tail .head) .nil)) ?_
      exact ⟨[_], ⟨zeroMM, by rw [hd]; rfl, by rw [hd]; rfl, rfl⟩, rfl⟩
    · refine .seq ?_
      refine .region ?_
      refine .rd (.move rfl) ?_
      refine .rd (.lenT rfl rfl Try.underlying9 rfl) ?_
      refine .rd (.move rfl) ?_
      refine .rd (.add rfl rfl (by omega) (by omega)) ?_
      refine .alter (t := 21) (v' := .int .i64 ((8 + four s : Nat) : Int)) rfl (by rw [Int.natCast_add]; rfl) ?_
      refine .rd (.lt rfl rfl) ?_
      refine .rd (.assign rfl) ?_
      refine .nil ?_
      refine .condP rfl (fun h6 => ?_) (fun h6 => ?_)
      · refine .seq ?_
        refine .region ?_
        refine .rd (.build rfl (bld54_)) ?_
        refine .ef0 (.storeAll (vs := zeroMM.cells) ts54 rfl rfl rfl .head rfl (ones.of rfl)) ?_
        rintro _ _ rfl
        refine .rd (.assign rfl) ?_
        refine .nil ?_
        have hd := decode_cut (b := s) (by omega) (by omega) (by omega)
        refine .knowT (zeroMM.at_) (zeroMM_at) ?_
        refine .retP Try.func36 (.cons (.blkN ia54 ts54 rfl (.tail .head) rfl) (.cons (.tmp rfl) .nil)) (.cons .head (.cons (.tail .head) .nil)) ?_
        exact ⟨[_], ⟨zeroMM, by rw [hd]; rfl, by rw [hd]; rfl, rfl⟩, rfl⟩
      · refine .seq ?_
        refine .region ?_
        refine .rd (.move rfl) ?_
        refine .rd (.lenT rfl rfl Try.underlying9 rfl) ?_
        refine .rd (.move rfl) ?_
        refine .rd (.add rfl rfl (by omega) (by omega)) ?_
        refine .alter (t := 28) (v' := .int .i64 ((8 + four s : Nat) : Int)) rfl (by rw [Int.natCast_add]; rfl) ?_
        refine .rd (.gt rfl rfl) ?_
        refine .rd (.assign rfl) ?_
        refine .nil ?_
        refine .condP rfl (fun h8 => ?_) (fun h8 => ?_)
        · refine .seq ?_
          refine .region ?_
          refine .rd (.build rfl (bld54_)) ?_
          refine .ef0 (.storeAll (vs := zeroMM.cells) ts54 rfl rfl rfl .head rfl (ones.of rfl)) ?_
          rintro _ _ rfl
          refine .rd (.assign rfl) ?_
          refine .nil ?_
          have hd := decode_more (b := s) (by omega) (by omega) (by omega) (by omega)
          refine .knowT (zeroMM.at_) (zeroMM_at) ?_
          refine .retP Try.func36 (.cons (.blkN ia54 ts54 rfl (.tail .head) rfl) (.cons (.tmp rfl) .nil)) (.cons .head (.cons (.tail .head) .nil)) ?_
          exact ⟨[_], ⟨zeroMM, by rw [hd]; rfl, by rw [hd]; rfl, rfl⟩, rfl⟩
        · refine .seq ?_
          obtain ⟨t, ht⟩ : ∃ t, t = s.drop 8 := ⟨_, rfl⟩
          have htl : t.length ≤ 65528 := by rw [ht, List.length_drop]; omega
          refine .draws [] [] (by kernel_rfl) ?_
          refine .rp 0 rfl (by kernel_rfl) (by kernel_rfl) (by kernel_rfl) (Reads.pure (.move rfl)) ?_
          refine .rp 1 rfl (by kernel_rfl) (by kernel_rfl) (by kernel_rfl) (Reads.pure (.sliceT (l := s) (a := 8) (h := s.length) Try.underlying9 rfl ⟨_, rfl⟩ rfl (by omega) (by omega))) ?_
          refine .alter (t := 33) (v' := .string (str t)) rfl (by rw [ht, List.take_of_length_le (by rw [List.length_drop]; omega)]) ?_
          refine .rp 3 rfl (by kernel_rfl) (by kernel_rfl) (by kernel_rfl) (Reads.pure (.move rfl)) ?_
          refine .rp 4 rfl (by kernel_rfl) (by kernel_rfl) (by kernel_rfl) (Reads.pure (.sliceT (l := s) (a := 4) (h := s.length) Try.underlying9 rfl ⟨_, rfl⟩ rfl (by omega) (by omega))) ?_
          refine .alter (t := 36) (v' := .string (str (s.drop 4))) rfl (by rw [List.take_of_length_le (by rw [List.length_drop]; omega)]) ?_
          refine .ef 2 (by kernel_rfl) rfl (.fn rfl rfl .nil (fun _ _ _ => trivial) (rCrc_ok t (by omega))) ?_
          rintro v _ ⟨G1, hq, rfl⟩
          obtain ⟨rfl, rfl⟩ := hq
          simp only [List.nil_append]
          refine ⟨.inl (by kernel_rfl), ?_⟩
          refine .ef 5 (by kernel_rfl) rfl (.fn rfl rfl .nil (fun _ _ _ => trivial) (rnumber_ok (s.drop 4) (by rw [List.length_drop]; omega))) ?_
          rintro v _ ⟨G1, hq, rfl⟩
          obtain ⟨rfl, rfl⟩ := hq
          simp only [List.nil_append]
          refine ⟨.inl (by kernel_rfl), ?_⟩
          refine .rp 6 rfl (by kernel_rfl) (by kernel_rfl) (by kernel_rfl) (Reads.pure (.neI rfl rfl)) ?_
          refine .rp 7 rfl (by kernel_rfl) (by kernel_rfl) (by kernel_rfl) (Reads.pure (.assign rfl)) ?_
          refine .done (by kernel_rfl) ?_
          refine .condN rfl (fun h10 => ?_) (fun h10 => ?_)
          · refine .seq ?_
            refine .region ?_
            refine .rd (.build rfl (bld54_)) ?_
            refine .ef0 (.storeAll (vs := zeroMM.cells) ts54 rfl rfl rfl .head rfl (ones.of rfl)) ?_
            rintro _ _ rfl
            refine .rd (.assign rfl) ?_
            refine .nil ?_
            have hd := decode_sum (b := s) (by omega) (by omega) (by omega) (by omega) (by rw [← ht]; omega)
            refine .knowT (zeroMM.at_) (zeroMM_at) ?_
            refine .retP Try.func36 (.cons (.blkN ia54 ts54 rfl (.tail .head) rfl) (.cons (.tmp rfl) .nil)) (.cons .head (.cons (.tail .head) .nil)) ?_
            exact ⟨[_], ⟨zeroMM, by rw [hd]; rfl, by rw [hd]; rfl, rfl⟩, rfl⟩
          · have hcs : (crc t).toNat = four (s.drop 4) := by omega
            refine .skip ?_
            refine .inBlock ?_
            refine .seq ?_
            refine .region ?_
            refine .rd (.move rfl) ?_
            refine .rd (.sliceT (l := s) (a := 8) (h := s.length) Try.underlying9 rfl ⟨_, rfl⟩ rfl (by omega) (by omega)) ?_
            refine .alter (t := 42) (v' := .string (str t)) rfl (by rw [ht, List.take_of_length_le (by rw [List.length_drop]; omega)]) ?_
            refine .rd (.build rfl (bld80_0 _)) ?_
            refine .ef (.box rfl rfl (ones.of rfl)) ?_
            rintro _ _ ⟨b44, rfl, rfl⟩
            refine .fn rfl rfl (.cons .head .nil) (fun _ _ _ => trivial) (read4_ok b44 (t, false) (by show t.length ≤ 65536; omega)) (fun v G1 hq => ?_)
            obtain ⟨m, ok, rfl, hok, hme, q, rfl⟩ := hq
            simp only [List.cons_append, List.nil_append]
            refine .rd (.move rfl) ?_
            refine .rd (.extract rfl rfl) ?_
            refine .rd (.extract rfl rfl) ?_
            refine .ef (.alloc ti54 rfl (ones.of rfl)) ?_
            rintro _ _ ⟨b5, rfl, rfl⟩
            refine .ef0 (.storeAll (vs := m.cells) ts54 rfl rfl rfl .head rfl (ones.of rfl)) ?_
            rintro _ _ rfl
            refine .rd (.assign rfl) ?_
            refine .nil ?_
            refine .seq ?_
            refine .seq ?_
            refine .draws [3, 8] [blk b5 m.cells 54] (by kernel_rfl) ?_
            refine .rp 0 rfl (by kernel_rfl) (by kernel_rfl) (by kernel_rfl) (Reads.pure (.move rfl)) ?_
            refine .rp 1 rfl (by kernel_rfl) (by kernel_rfl) (by kernel_rfl) (Reads.pure (.not rfl)) ?_
            refine .rp 2 rfl (by kernel_rfl) (by kernel_rfl) (by kernel_rfl) (Reads.pure (.move rfl)) ?_
            refine .split (t := 50) rfl (fun g13 => ?_) (fun g13 => ?_)
            · have hno : ∀ m', pMsg false t = some (m', []) → right4 m' = 0 → body4 m' ≠ t := fun m' hp _ => by
                have h := qMsg_no hp
                have := hok.2 ⟨h.1, h.2.1⟩
                rw [this] at g13; cases g13
              refine .off 3 (t := 50) rfl rfl rfl rfl (by kernel_rfl) (by kernel_rfl) (by kernel_rfl) ?_
              refine .off 4 (t := 50) rfl rfl rfl rfl (by kernel_rfl) (by kernel_rfl) (by kernel_rfl) ?_
              refine .off 5 (t := 50) rfl rfl rfl rfl (by kernel_rfl) (by kernel_rfl) (by kernel_rfl) ?_
              refine .rp 6 rfl (by kernel_rfl) (by kernel_rfl) (by kernel_rfl) (Reads.pure (.pickT rfl rfl)) ?_
              refine .rp 7 rfl (by kernel_rfl) (by kernel_rfl) (by kernel_rfl) (Reads.pure (.move rfl)) ?_
              refine .off 8 (t := 55) rfl rfl rfl rfl (by kernel_rfl) (by kernel_rfl) (by kernel_rfl) ?_
              refine .off 9 (t := 55) rfl rfl rfl rfl (by kernel_rfl) (by kernel_rfl) (by kernel_rfl) ?_
              refine .off 10 (t := 55) rfl rfl rfl rfl (by kernel_rfl) (by kernel_rfl) (by kernel_rfl) ?_
              refine .off 11 (t := 55) rfl rfl rfl rfl (by kernel_rfl) (by kernel_rfl) (by kernel_rfl) ?_
              refine .off 12 (t := 55) rfl rfl rfl rfl (by kernel_rfl) (by kernel_rfl) (by kernel_rfl) ?_
              refine .rp 13 rfl (by kernel_rfl) (by kernel_rfl) (by kernel_rfl) (Reads.pure (.pickT rfl rfl)) ?_
              refine .done (by kernel_rfl) ?_
              refine .condT rfl ?_
              refine .seq ?_
              refine .region ?_
              refine .rd (.build rfl (bld54_)) ?_
              refine .ef0 (.storeAll (vs := zeroMM.cells) ts54 rfl rfl rfl (.tail (.tail (.tail .head))) rfl (ones.of rfl)) ?_
              rintro _ _ rfl
              refine .rd (.assign rfl) ?_
              refine .nil ?_
              have hd := rdec_no (b := s) (t := t) (by omega) (by omega) (by omega) (by omega) ht hcs hno
              refine .knowT (zeroMM.at_) (zeroMM_at) ?_
              refine .retP Try.func36 (.cons (.blkN ia54 ts54 rfl (.tail .head) rfl) (.cons (.tmp rfl) .nil)) (.cons .head (.cons (.tail (.tail (.tail (.tail .head)))) .nil)) ?_
              exact ⟨[_], ⟨zeroMM, by rw [hd]; rfl, by rw [hd]; rfl, rfl⟩, rfl⟩
            · have hokt : ok = true := by simpa using g13
              have hf := (hme hokt).2.fits
              refine .rdG 3 (t := 50) rfl rfl rfl rfl (by kernel_rfl) (by kernel_rfl) (by kernel_rfl) (.ldN ia54 ts54 rfl .head rfl) (.cons .head .nil) ?_
              refine .efG 4 (t := 50) (by kernel_rfl) rfl rfl rfl (.fn rfl rfl .nil (Knows.know (.tail (.tail .head))) (rRight4_ok m hf)) ?_
              rintro v _ ⟨G1, hq, rfl⟩
              obtain ⟨rfl, rfl⟩ := hq
              simp only [List.nil_append]
              refine ⟨.inr ⟨_, (.cons .head .nil)⟩, ?_⟩
              refine .rpG 5 (t := 50) rfl rfl rfl (by kernel_rfl) (by kernel_rfl) (by kernel_rfl) (Reads.pure (.neI rfl rfl)) ?_
              refine .rp 6 rfl (by kernel_rfl) (by kernel_rfl) (by kernel_rfl) (Reads.pure (.pickF rfl rfl)) ?_
              refine .rp 7 rfl (by kernel_rfl) (by kernel_rfl) (by kernel_rfl) (Reads.pure (.move rfl)) ?_
              refine .split (t := 55) rfl (fun g13b => ?_) (fun g13b => ?_)
              · have hne : ¬ right4 m.msg = 0 := by simpa using g13b
                have hno : ∀ m', pMsg false t = some (m', []) → right4 m' = 0 → body4 m' ≠ t := fun m' hp hr => by
                  have hmm : m' = m.msg := by rw [(hme hokt).1]; exact (qMsg_no hp).2.2.symm
                  rw [hmm] at hr; exact absurd hr hne
                refine .off 8 (t := 55) rfl rfl rfl rfl (by kernel_rfl) (by kernel_rfl) (by kernel_rfl) ?_
                refine .off 9 (t := 55) rfl rfl rfl rfl (by kernel_rfl) (by kernel_rfl) (by kernel_rfl) ?_
                refine .off 10 (t := 55) rfl rfl rfl rfl (by kernel_rfl) (by kernel_rfl) (by kernel_rfl) ?_
                refine .off 11 (t := 55) rfl rfl rfl rfl (by kernel_rfl) (by kernel_rfl) (by kernel_rfl) ?_
                refine .off 12 (t := 55) rfl rfl rfl rfl (by kernel_rfl) (by kernel_rfl) (by kernel_rfl) ?_
                refine .rp 13 rfl (by kernel_rfl) (by kernel_rfl) (by kernel_rfl) (Reads.pure (.pickT rfl rfl)) ?_
                refine .done (by kernel_rfl) ?_
                refine .condT rfl ?_
                refine .seq ?_
                refine .region ?_
                refine .rd (.build rfl (bld54_)) ?_
                refine .ef0 (.storeAll (vs := zeroMM.cells) ts54 rfl rfl rfl (.tail (.tail (.tail .head))) rfl (ones.of rfl)) ?_
                rintro _ _ rfl
                refine .rd (.assign rfl) ?_
                refine .nil ?_
                have hd := rdec_no (b := s) (t := t) (by omega) (by omega) (by omega) (by omega) ht hcs hno
                refine .knowT (zeroMM.at_) (zeroMM_at) ?_
                refine .retP Try.func36 (.cons (.blkN ia54 ts54 rfl (.tail .head) rfl) (.cons (.tmp rfl) .nil)) (.cons .head (.cons (.tail (.tail (.tail (.tail .head)))) .nil)) ?_
                exact ⟨[_], ⟨zeroMM, by rw [hd]; rfl, by rw [hd]; rfl, rfl⟩, rfl⟩
              · have hr0 : right4 m.msg = 0 := by simpa using g13b
                have hsm := small_of4 (right4_iff.1 hr0).1
                have hts := (right4_iff.1 hr0).2.1
                refine .rdG 8 (t := 55) rfl rfl rfl rfl (by kernel_rfl) (by kernel_rfl) (by kernel_rfl) (.ldN ia54 ts54 rfl .head rfl) (.cons .head .nil) ?_
                refine .rpG 10 (t := 55) rfl rfl rfl (by kernel_rfl) (by kernel_rfl) (by kernel_rfl) (Reads.pure (.move rfl)) ?_
                refine .rpG 11 (t := 55) rfl rfl rfl (by kernel_rfl) (by kernel_rfl) (by kernel_rfl) (Reads.pure (.sliceT (l := s) (a := 8) (h := s.length) Try.underlying9 rfl ⟨_, rfl⟩ rfl (by omega) (by omega))) ?_
                refine .alter (t := 59) (v' := .string (str t)) rfl (by rw [ht, List.take_of_length_le (by rw [List.length_drop]; omega)]) ?_
                refine .efG 9 (t := 55) (by kernel_rfl) rfl rfl rfl (.fn rfl rfl .nil (Knows.know (.tail (.tail .head))) (rbody4_ok m hf hsm hts)) ?_
                rintro v _ ⟨G1, hq, rfl⟩
                obtain ⟨rfl, rfl⟩ := hq
                simp only [List.nil_append]
                refine ⟨.inl (by kernel_rfl), ?_⟩
                refine .rpG 12 (t := 55) rfl rfl rfl (by kernel_rfl) (by kernel_rfl) (by kernel_rfl) (Reads.pure (.neT rfl rfl)) ?_
                refine .rp 13 rfl (by kernel_rfl) (by kernel_rfl) (by kernel_rfl) (Reads.pure (.pickF rfl rfl)) ?_
                refine .done (by kernel_rfl) ?_
                refine .condN rfl (fun h13 => ?_) (fun h13 => ?_)
                · have hno : ∀ m', pMsg false t = some (m', []) → right4 m' = 0 → body4 m' ≠ t := fun m' hp _ => by
                    have hmm : m' = m.msg := by rw [(hme hokt).1]; exact (qMsg_no hp).2.2.symm
                    rw [hmm]; exact h13
                  refine .seq ?_
                  refine .region ?_
                  refine .rd (.build rfl (bld54_)) ?_
                  refine .ef0 (.storeAll (vs := zeroMM.cells) ts54 rfl rfl rfl (.tail (.tail (.tail .head))) rfl (ones.of rfl)) ?_
                  rintro _ _ rfl
                  refine .rd (.assign rfl) ?_
                  refine .nil ?_
                  have hd := rdec_no (b := s) (t := t) (by omega) (by omega) (by omega) (by omega) ht hcs hno
                  refine .knowT (zeroMM.at_) (zeroMM_at) ?_
                  refine .retP Try.func36 (.cons (.blkN ia54 ts54 rfl (.tail .head) rfl) (.cons (.tmp rfl) .nil)) (.cons .head (.cons (.tail (.tail (.tail (.tail .head)))) .nil)) ?_
                  exact ⟨[_], ⟨zeroMM, by rw [hd]; rfl, by rw [hd]; rfl, rfl⟩, rfl⟩
                · refine .skip ?_
                  refine .seq ?_
                  refine .region ?_
                  refine .rd (.ldN ia54 ts54 rfl .head rfl) ?_
                  refine .ef0 (.storeAll (vs := m.cells) ts54 rfl rfl rfl (.tail (.tail (.tail .head))) rfl (ones.of rfl)) ?_
                  rintro _ _ rfl
                  refine .rd (.assign rfl) ?_
                  refine .nil ?_
                  have hd := rdec_yes (b := s) (t := t) (by omega) (by omega) (by omega) (by omega) ht hcs (hme hokt).2.msg hr0 h13
                  refine .retP Try.func36 (.cons (.blkN ia54 ts54 rfl .head rfl) (.cons (.tmp rfl) .nil)) (.cons (.tail (.tail (.tail .head))) (.cons (.tail (.tail (.tail .head))) .nil)) ?_
                  exact ⟨[_], ⟨m, by rw [hd]; rfl, by rw [hd], rfl⟩, rfl⟩

end Go.Proofs.Ytllpkagplfmlbaa


namespace Go.Proofs.Ytllpkagplfmlbaa
open Go Go.Sp

set_option linter.unusedVariables false

namespace rpc14
theorem bld54_0_10 (x0 : Int) (x1 : Int) (w : World) : (Instr.build 54 (([0, 10] : List Nat).zip [.int .i64 x0, .int .i64 x1]).toArray).run Try.prog w = .ok (.agg #[.int .i64 x0, .int .i64 0, .int .i64 0, .int .i64 0, .int .i64 0, .int .i64 0, .int .i64 0, .int .i64 0, .int .i64 0, .int .i64 0, .int .i64 x1, .int .i64 0, .int .i64 0, .int .i64 0, .int .i64 0, .int .i64 0, .string ⟨#[]⟩, .string ⟨#[]⟩, .slice none 0 0, .slice none 0 0, .slice none 0 0]) w := by kernel_rfl
theorem ti54 : TI Try.prog 54 21 232 (.agg #[.int .i64 0, .int .i64 0, .int .i64 0, .int .i64 0, .int .i64 0, .int .i64 0, .int .i64 0, .int .i64 0, .int .i64 0, .int .i64 0, .int .i64 0, .int .i64 0, .int .i64 0, .int .i64 0, .int .i64 0, .int .i64 0, .string ⟨#[]⟩, .string ⟨#[]⟩, .slice none 0 0, .slice none 0 0, .slice none 0 0]) := .of (by kernel_rfl)
theorem ts54 : TS Try.prog 54 21 := .of (by kernel_rfl)
theorem bld54_0 (x0 : Int) (w : World) : (Instr.build 54 (([0] : List Nat).zip [.int .i64 x0]).toArray).run Try.prog w = .ok (.agg #[.int .i64 x0, .int .i64 0, .int .i64 0, .int .i64 0, .int .i64 0, .int .i64 0, .int .i64 0, .int .i64 0, .int .i64 0, .int .i64 0, .int .i64 0, .int .i64 0, .int .i64 0, .int .i64 0, .int .i64 0, .int .i64 0, .string ⟨#[]⟩, .string ⟨#[]⟩, .slice none 0 0, .slice none 0 0, .slice none 0 0]) w := by kernel_rfl
theorem bld54_0_1_2_3_4_5 (x0 : Int) (x1 : Int) (x2 : Int) (x3 : Int) (x4 : Int) (x5 : Int) (w : World) : (Instr.build 54 (([0, 1, 2, 3, 4, 5] : List Nat).zip [.int .i64 x0, .int .i64 x1, .int .i64 x2, .int .i64 x3, .int .i64 x4, .int .i64 x5]).toArray).run Try.prog w = .ok (.agg #[.int .i64 x0, .int .i64 x1, .int .i64 x2, .int .i64 x3, .int .i64 x4, .int .i64 x5, .int .i64 0, .int .i64 0, .int .i64 0, .int .i64 0, .int .i64 0, .int .i64 0, .int .i64 0, .int .i64 0, .int .i64 0, .int .i64 0, .string ⟨#[]⟩, .string ⟨#[]⟩, .slice none 0 0, .slice none 0 0, .slice none 0 0]) w := by kernel_rfl
theorem ia54 : IsAgg Try.prog 54 := ⟨_, Try.underlying54, trivial⟩
theorem bld54_0_1_2_3_4_15 (x0 : Int) (x1 : Int) (x2 : Int) (x3 : Int) (x4 : Int) (x5 : Int) (w : World) : (Instr.build 54 (([0, 1, 2, 3, 4, 15] : List Nat).zip [.int .i64 x0, .int .i64 x1, .int .i64 x2, .int .i64 x3, .int .i64 x4, .int .i64 x5]).toArray).run Try.prog w = .ok (.agg #[.int .i64 x0, .int .i64 x1, .int .i64 x2, .int .i64 x3, .int .i64 x4, .int .i64 0, .int .i64 0, .int .i64 0, .int .i64 0, .int .i64 0, .int .i64 0, .int .i64 0, .int .i64 0, .int .i64 0, .int .i64 0, .int .i64 x5, .string ⟨#[]⟩, .string ⟨#[]⟩, .slice none 0 0, .slice none 0 0, .slice none 0 0]) w := by kernel_rfl
theorem fd54_10 : FD Try.prog 54 10 10 := .of Try.underlying54 (by kernel_rfl)
theorem na3 : NotAgg Try.prog 3 := ⟨_, Try.underlying3, trivial⟩
theorem fd54_0 : FD Try.prog 54 0 0 := .of Try.underlying54 (by kernel_rfl)
theorem ti9 : TI Try.prog 9 1 16 (.string ⟨#[]⟩) := .of (by kernel_rfl)
theorem ts9 : TS Try.prog 9 1 := .of (by kernel_rfl)
theorem na9 : NotAgg Try.prog 9 := ⟨_, Try.underlying9, trivial⟩
end rpc14
open rpc14

theorem ZM_fits : ZM.fits := by
  refine ⟨⟨by decide, by decide⟩, ?_, i64_zero, by decide, by decide, ?_, by decide, ?_, by decide, ?_, by decide⟩
  · intro n hn
    simp only [ZM, zeroMM, MsgM.nums, List.mem_cons, List.not_mem_nil, or_false] at hn
    rcases hn with rfl | rfl | rfl | rfl | rfl | rfl | rfl | rfl | rfl | rfl | rfl | rfl | rfl | rfl <;> exact ⟨by decide, by decide⟩
  · intro y hy; cases hy
  · intro y hy; cases hy
  · intro y hy; cases hy
def two4 (l : List UInt8) : List (List UInt8) := [l, fours l.length ++ fours (crc l).toNat ++ l]
theorem two4_len {l x : List UInt8} (h : x ∈ two4 l) : x.length ≤ l.length + 8 := by
  simp only [two4, List.mem_cons, List.not_mem_nil, or_false] at h
  rcases h with rfl | rfl
  · omega
  · simp only [List.length_append, fours_len]; omega
theorem beqT {m kk : MsgM} (hf : m.fits) (hk : kk.fits) (hr : right4 m.msg = 0) {r2 : Bool} (hr2 : r2 = true ↔ m.msg = kk.msg) (g13 : (!decide ((wmsg kk.msg).2 = 0)) = false) : Value.bool (decide ((wmsg m.msg).1 = (wmsg kk.msg).1) == r2) = .bool true := by
  have hks : right4 kk.msg = 0 := by rw [← wmsg_err]; simpa using g13
  have hsame := wmsg_same hf.msg hk.msg hr hks
  have : decide ((wmsg m.msg).1 = (wmsg kk.msg).1) = r2 := by rw [Bool.eq_iff_iff, decide_eq_true_eq, hsame, hr2]
  rw [this]; simp

set_option maxHeartbeats 1000000 in
set_option maxRecDepth 20000 in
theorem shown4_ok : Cn Try.prog 30 [] (fun _ => True) [] fun v G => v = .bool true ∧ G = [] := by
  refine .enter Try.func30 rfl (by kernel_rfl) rfl fun R k => ?_
  refine .seq ?_
  refine .region ?_
  refine .rd (.assign rfl) ?_
  refine .nil ?_
  refine .seq ?_
  refine .region ?_
  refine .rd (.build rfl (bld54_0_10 _ _)) ?_
  refine .fn rfl rfl .nil (fun _ w _ => zeroMM_at w) (Encode_ok XM XM_fits) (fun v G1 hq => ?_)
  obtain ⟨rfl, rfl⟩ := hq
  simp only [List.nil_append]
  refine .rd (.move rfl) ?_
  refine .rd (.extract rfl rfl) ?_
  refine .rd (.extract rfl rfl) ?_
  refine .rd (.assign rfl) ?_
  refine .rd (.assign rfl) ?_
  refine .nil ?_
  refine .seq ?_
  have hl : (wmsg XM.msg).1.length = 12 := by rw [(wmsg_is XM_right).1, XM_body]; rfl
  have hd : (wmsg XM.msg).1.drop 8 = [2, 128, 8, 4] := by rw [(wmsg_is XM_right).2.2.1, XM_body]
  have he : (wmsg XM.msg).2 = 0 := by rw [wmsg_err, XM_right]
  have hdec := decode_write XM_fits.msg XM_right
  have hmore := torn4_more XM_right (more := [120]) (by decide)
  rw [he]
  generalize (wmsg XM.msg).1 = s at hl hd hdec hmore ⊢
  refine .region ?_
  refine .rd (.move rfl) ?_
  refine .fn rfl rfl .nil (fun _ _ _ => trivial) (Decode_ok s (by rw [hl]; decide)) (fun v G1 hq => ?_)
  obtain ⟨m1, rfl, hm1, rfl⟩ := hq
  simp only [List.cons_append, List.nil_append]
  rw [hdec] at hm1 ⊢
  refine .rd (.move rfl) ?_
  refine .rd (.extract rfl rfl) ?_
  refine .rd (.extract rfl rfl) ?_
  refine .ef (.alloc ti54 rfl (ones.of rfl)) ?_
  rintro _ _ ⟨b3, rfl, rfl⟩
  refine .ef0 (.storeAll (vs := m1.cells) ts54 rfl rfl rfl .head rfl (ones.of rfl)) ?_
  rintro _ _ rfl
  refine .rd (.assign rfl) ?_
  refine .nil ?_
  refine .seq ?_
  refine .region ?_
  refine .rd (.build rfl (bld54_0 _)) ?_
  refine .fn rfl rfl .nil (fun _ w _ => zeroMM_at w) (Encode_ok YM YM_fits) (fun v G1 hq => ?_)
  obtain ⟨rfl, rfl⟩ := hq
  simp only [List.nil_append]
  refine .rd (.move rfl) ?_
  refine .rd (.extract rfl rfl) ?_
  refine .rd (.extract rfl rfl) ?_
  refine .rd (.assign rfl) ?_
  refine .rd (.assign rfl) ?_
  refine .nil ?_
  refine .seq ?_
  refine .region ?_
  refine .rd (.move rfl) ?_
  refine .rd (.catT (m := [120]) rfl rfl (by rw [hl]; decide)) ?_
  refine .fn rfl rfl .nil (fun _ _ _ => trivial) (Decode_ok (s ++ [120]) (by rw [List.length_append, hl]; decide)) (fun v G1 hq => ?_)
  obtain ⟨m2, rfl, hm2, rfl⟩ := hq
  simp only [List.cons_append, List.nil_append]
  rw [hmore] at hm2 ⊢
  refine .rd (.move rfl) ?_
  refine .rd (.extract rfl rfl) ?_
  refine .rd (.extract rfl rfl) ?_
  refine .ef (.alloc ti54 rfl (ones.of rfl)) ?_
  rintro _ _ ⟨b7, rfl, rfl⟩
  refine .ef0 (.storeAll (vs := m2.cells) ts54 rfl rfl rfl .head rfl (ones.of rfl)) ?_
  rintro _ _ rfl
  refine .rd (.assign rfl) ?_
  refine .nil ?_
  refine .seq ?_
  have hzf := answer_fits ZM_fits (e := 15) ⟨by decide, by decide⟩
  refine .region ?_
  refine .rd (.build rfl (bld54_0_1_2_3_4_5 _ _ _ _ _ _)) ?_
  refine .fn rfl rfl .nil (fun _ _ _ => trivial) (Answer_ok ZM 15 ⟨by decide, by decide⟩) (fun v G1 hq => ?_)
  obtain ⟨rfl, rfl⟩ := hq
  simp only [List.nil_append]
  refine .ef (.alloc ti54 rfl (ones.of rfl)) ?_
  rintro _ _ ⟨b9, rfl, rfl⟩
  refine .ef0 (.storeAll (vs := (answerM ZM 15).cells) ts54 rfl rfl rfl .head rfl (ones.of rfl)) ?_
  rintro _ _ rfl
  refine .nil ?_
  refine .seq ?_
  refine .region ?_
  refine .rd (.ldN ia54 ts54 rfl .head rfl) ?_
  refine .rd (.build rfl (bld54_0_1_2_3_4_15 _ _ _ _ _ _)) ?_
  refine .fn rfl rfl .nil (fun _ w _ => ⟨answer_at ZM 15 w, answer_at ZM 15 w⟩) (same4_ok (answerM ZM 15) (answerM ZM 15) hzf hzf) (fun v G1 hq => ?_)
  obtain ⟨r, rfl, hr, rfl⟩ := hq
  simp only [List.nil_append]
  obtain rfl : r = true := hr.2 rfl
  refine .rd (.assign rfl) ?_
  refine .nil ?_
  refine .seq ?_
  refine .region ?_
  refine .rd (.move rfl) ?_
  refine .rd (.eqI rfl rfl) ?_
  refine .alter (t := 38) (v' := .bool true) rfl (congrArg Value.bool (decide_eq_true (by first | rfl | decide | omega))) ?_
  refine .rd (.move rfl) ?_
  refine .on (t := 39) rfl rfl ?_
  refine .rd (.move rfl) ?_
  refine .on (t := 39) rfl rfl ?_
  refine .rd (.lenT rfl rfl Try.underlying9 rfl) ?_
  refine .on (t := 39) rfl rfl ?_
  refine .rd (.eqI rfl rfl) ?_
  refine .alter (t := 42) (v' := .bool true) rfl (by rw [hl]; rfl) ?_
  refine .rd (.pickT rfl rfl) ?_
  refine .rd (.move rfl) ?_
  refine .on (t := 44) rfl rfl ?_
  refine .rd (.move rfl) ?_
  refine .on (t := 44) rfl rfl ?_
  refine .rd (.sliceT (l := s) (a := 8) (h := s.length) Try.underlying9 rfl ⟨_, rfl⟩ rfl (by omega) (by omega)) ?_
  refine .alter (t := 46) (v' := .string (str [2, 128, 8, 4])) rfl (by rw [List.take_of_length_le (by rw [List.length_drop]; exact Nat.le_refl _), hd]) ?_
  refine .on (t := 44) rfl rfl ?_
  refine .rd (.eqT (m := [2, 128, 8, 4]) rfl rfl) ?_
  refine .alter (t := 47) (v' := .bool true) rfl (congrArg Value.bool (decide_eq_true (by first | rfl | decide | omega))) ?_
  refine .rd (.pickT rfl rfl) ?_
  refine .rd (.move rfl) ?_
  refine .on (t := 49) rfl rfl ?_
  refine .rd (.move rfl) ?_
  refine .on (t := 49) rfl rfl ?_
  refine .rd (.eqI rfl rfl) ?_
  refine .alter (t := 51) (v' := .bool true) rfl (congrArg Value.bool (decide_eq_true (by first | rfl | decide | omega))) ?_
  refine .rd (.pickT rfl rfl) ?_
  refine .rd (.move rfl) ?_
  refine .on (t := 53) rfl rfl ?_
  refine .rd (.fieldAddr fd54_10 rfl) ?_
  refine .on (t := 53) rfl rfl ?_
  refine .rd (.ld na3 rfl (.tail (.tail (.tail .head))) rfl) ?_
  refine .on (t := 53) rfl rfl ?_
  refine .rd (.eqI rfl rfl) ?_
  refine .alter (t := 56) (v' := .bool true) rfl (by rw [show m1.n9 = 2 from by have := congrArg (fun m => m.nums[9]?) hm1; exact Option.some.inj this]; rfl) ?_
  refine .rd (.pickT rfl rfl) ?_
  refine .rd (.move rfl) ?_
  refine .on (t := 58) rfl rfl ?_
  refine .rd (.fieldAddr fd54_0 rfl) ?_
  refine .on (t := 58) rfl rfl ?_
  refine .rd (.ld na3 rfl (.tail (.tail (.tail .head))) rfl) ?_
  refine .on (t := 58) rfl rfl ?_
  refine .rd (.eqI rfl rfl) ?_
  refine .alter (t := 61) (v' := .bool true) rfl (by rw [show m1.kind = 1 from congrArg Msg.kind hm1]; rfl) ?_
  refine .rd (.pickT rfl rfl) ?_
  refine .rd (.move rfl) ?_
  refine .on (t := 63) rfl rfl ?_
  refine .rd (.move rfl) ?_
  refine .on (t := 63) rfl rfl ?_
  refine .rd (.eqI rfl rfl) ?_
  refine .alter (t := 65) (v' := .bool true) rfl (by rw [YM_err]; rfl) ?_
  refine .rd (.pickT rfl rfl) ?_
  refine .rd (.move rfl) ?_
  refine .on (t := 67) rfl rfl ?_
  refine .rd (.move rfl) ?_
  refine .on (t := 67) rfl rfl ?_
  refine .rd (.eqI rfl rfl) ?_
  refine .alter (t := 69) (v' := .bool true) rfl (congrArg Value.bool (decide_eq_true (by first | rfl | decide | omega))) ?_
  refine .rd (.pickT rfl rfl) ?_
  refine .rd (.move rfl) ?_
  refine .on (t := 71) rfl rfl ?_
  refine .rd (.move rfl) ?_
  refine .rd (.pickT rfl rfl) ?_
  refine .rd (.assign rfl) ?_
  refine .nil ?_
  refine .retP Try.func30 (.cons (.tmp rfl) .nil) (.cons (.tail (.tail (.tail (.tail (.tail .head))))) .nil) ?_
  exact ⟨[], ⟨rfl, rfl⟩, rfl⟩

set_option maxHeartbeats 1000000 in
set_option maxRecDepth 20000 in
theorem RpcWrites_ok (m : MsgM) (hf : m.fits) : Cn Try.prog 8 [.agg m.cells.toArray] (fun w => m.at_ w) [] fun v G => v = .bool true ∧ G = [] := by
  refine .enter Try.func8 rfl (by kernel_rfl) rfl fun R k => ?_
  refine .seq ?_
  refine .region ?_
  refine .ef (.box (l := m.cells) rfl rfl (ones.of rfl)) ?_
  rintro _ _ ⟨b1, rfl, rfl⟩
  refine .rd (.assign rfl) ?_
  refine .nil ?_
  refine .seq ?_
  refine .region ?_
  refine .fn rfl rfl .nil (fun _ _ _ => trivial) (shown4_ok) (fun v G1 hq => ?_)
  obtain ⟨rfl, rfl⟩ := hq
  simp only [List.nil_append]
  refine .rd (.assign rfl) ?_
  refine .nil ?_
  refine .seq ?_
  refine .region ?_
  refine .rd (.ldN ia54 ts54 rfl .head rfl) ?_
  refine .fn rfl rfl .nil (Knows.pick (.tail .head) k) (Encode_ok m hf) (fun v G1 hq => ?_)
  obtain ⟨rfl, rfl⟩ := hq
  simp only [List.nil_append]
  refine .rd (.move rfl) ?_
  refine .rd (.extract rfl rfl) ?_
  refine .rd (.extract rfl rfl) ?_
  refine .rd (.assign rfl) ?_
  refine .rd (.assign rfl) ?_
  refine .nil ?_
  refine .seq ?_
  refine .region ?_
  refine .rd (.ldN ia54 ts54 rfl .head rfl) ?_
  refine .fn rfl rfl .nil (Knows.pick (.tail .head) k) (rEncode_ok m hf) (fun v G1 hq => ?_)
  obtain ⟨rfl, rfl⟩ := hq
  simp only [List.nil_append]
  refine .rd (.move rfl) ?_
  refine .rd (.extract rfl rfl) ?_
  refine .rd (.extract rfl rfl) ?_
  refine .rd (.assign rfl) ?_
  refine .rd (.assign rfl) ?_
  refine .nil ?_
  refine .seq ?_
  refine .draws [2, 4] [blk b1 m.cells 54] (by kernel_rfl) ?_
  refine .rp 0 rfl (by kernel_rfl) (by kernel_rfl) (by kernel_rfl) (Reads.pure (.move rfl)) ?_
  refine .rp 1 rfl (by kernel_rfl) (by kernel_rfl) (by kernel_rfl) (Reads.pure (.move rfl)) ?_
  refine .rdG 2 (t := 20) rfl rfl rfl rfl (by kernel_rfl) (by kernel_rfl) (by kernel_rfl) (.ldN ia54 ts54 rfl .head rfl) (.cons .head .nil) ?_
  refine .rdG 4 (t := 20) rfl rfl rfl rfl (by kernel_rfl) (by kernel_rfl) (by kernel_rfl) (.ldN ia54 ts54 rfl .head rfl) (.cons .head .nil) ?_
  refine .efG 3 (t := 20) (by kernel_rfl) rfl rfl rfl (.fn rfl rfl .nil (Knows.pick (.tail .head) k) (Right4_ok m hf)) ?_
  rintro v _ ⟨G1, hq, rfl⟩
  obtain ⟨rfl, rfl⟩ := hq
  simp only [List.nil_append]
  refine ⟨.inr ⟨_, (.cons .head .nil)⟩, ?_⟩
  refine .efG 5 (t := 20) (by kernel_rfl) rfl rfl rfl (.fn rfl rfl .nil (Knows.pick (.tail .head) k) (rRight4_ok m hf)) ?_
  rintro v _ ⟨G1, hq, rfl⟩
  obtain ⟨rfl, rfl⟩ := hq
  simp only [List.nil_append]
  refine ⟨.inl (by kernel_rfl), ?_⟩
  refine .rpG 6 (t := 20) rfl rfl rfl (by kernel_rfl) (by kernel_rfl) (by kernel_rfl) (Reads.pure (.eqI rfl rfl)) ?_
  refine .alter (t := 25) (v' := .bool true) rfl (congrArg Value.bool (decide_eq_true rfl)) ?_
  refine .rp 7 rfl (by kernel_rfl) (by kernel_rfl) (by kernel_rfl) (Reads.pure (.pickT rfl rfl)) ?_
  refine .rp 8 rfl (by kernel_rfl) (by kernel_rfl) (by kernel_rfl) (Reads.pure (.move rfl)) ?_
  refine .rpG 9 (t := 27) rfl rfl rfl (by kernel_rfl) (by kernel_rfl) (by kernel_rfl) (Reads.pure (.move rfl)) ?_
  refine .rpG 10 (t := 27) rfl rfl rfl (by kernel_rfl) (by kernel_rfl) (by kernel_rfl) (Reads.pure (.move rfl)) ?_
  refine .rpG 11 (t := 27) rfl rfl rfl (by kernel_rfl) (by kernel_rfl) (by kernel_rfl) (Reads.pure (.eqT rfl rfl)) ?_
  refine .alter (t := 30) (v' := .bool true) rfl (congrArg Value.bool (decide_eq_true rfl)) ?_
  refine .rp 12 rfl (by kernel_rfl) (by kernel_rfl) (by kernel_rfl) (Reads.pure (.pickT rfl rfl)) ?_
  refine .rp 13 rfl (by kernel_rfl) (by kernel_rfl) (by kernel_rfl) (Reads.pure (.move rfl)) ?_
  refine .rpG 14 (t := 32) rfl rfl rfl (by kernel_rfl) (by kernel_rfl) (by kernel_rfl) (Reads.pure (.move rfl)) ?_
  refine .rpG 15 (t := 32) rfl rfl rfl (by kernel_rfl) (by kernel_rfl) (by kernel_rfl) (Reads.pure (.move rfl)) ?_
  refine .rpG 16 (t := 32) rfl rfl rfl (by kernel_rfl) (by kernel_rfl) (by kernel_rfl) (Reads.pure (.eqI rfl rfl)) ?_
  refine .alter (t := 35) (v' := .bool true) rfl (congrArg Value.bool (decide_eq_true rfl)) ?_
  refine .rp 17 rfl (by kernel_rfl) (by kernel_rfl) (by kernel_rfl) (Reads.pure (.pickT rfl rfl)) ?_
  refine .rp 18 rfl (by kernel_rfl) (by kernel_rfl) (by kernel_rfl) (Reads.pure (.assign rfl)) ?_
  refine .done (by kernel_rfl) ?_
  refine .retP Try.func8 (.cons (.tmp rfl) .nil) (.cons (.tail .head) .nil) ?_
  exact ⟨[], ⟨rfl, rfl⟩, rfl⟩

set_option maxHeartbeats 1000000 in
set_option maxRecDepth 20000 in
theorem RpcReads_ok (l : List UInt8) (hl : l.length ≤ 9000000000000000000) : Cn Try.prog 9 [.string (str l)] (fun _ => True) [] fun v G => v = .bool true ∧ G = [] := by
  refine .enter Try.func9 rfl (by kernel_rfl) rfl fun R k => ?_
  refine .seq ?_
  refine .region ?_
  refine .rd (.assign rfl) ?_
  refine .nil ?_
  refine .seq ?_
  refine .region ?_
  refine .fn rfl rfl .nil (fun _ _ _ => trivial) (shown4_ok) (fun v G1 hq => ?_)
  obtain ⟨rfl, rfl⟩ := hq
  simp only [List.nil_append]
  refine .rd (.assign rfl) ?_
  refine .nil ?_
  refine .seq ?_
  refine .seq ?_
  refine .region ?_
  refine .rd (.move rfl) ?_
  refine .rd (.lenT rfl rfl Try.underlying9 rfl) ?_
  refine .rd (.gt rfl rfl) ?_
  refine .nil ?_
  refine .condP rfl (fun h2 => ?_) (fun h2 => ?_)
  · refine .seq ?_
    refine .region ?_
    refine .rd (.move rfl) ?_
    refine .rd (.assign rfl) ?_
    refine .nil ?_
    refine .retP Try.func9 (.cons (.tmp rfl) .nil) (.cons .head .nil) ?_
    exact ⟨[], ⟨rfl, rfl⟩, rfl⟩
  · refine .skip ?_
    refine .seq ?_
    have hcl : (crc l).toNat < 1000000000000000 := by have := (crc l).isLt; omega
    refine .region ?_
    refine .rd (.move rfl) ?_
    refine .rd (.move rfl) ?_
    refine .rd (.lenT rfl rfl Try.underlying9 rfl) ?_
    refine .fn rfl rfl .nil (fun _ _ _ => trivial) (Four_ok l.length (by omega)) (fun v G1 hq => ?_)
    obtain ⟨rfl, rfl⟩ := hq
    simp only [List.nil_append]
    refine .rd (.move rfl) ?_
    refine .fn rfl rfl .nil (fun _ _ _ => trivial) (rCrc_ok l hl) (fun v G1 hq => ?_)
    obtain ⟨rfl, rfl⟩ := hq
    simp only [List.nil_append]
    refine .fn rfl rfl .nil (fun _ _ _ => trivial) (Four_ok (crc l).toNat hcl) (fun v G1 hq => ?_)
    obtain ⟨rfl, rfl⟩ := hq
    simp only [List.nil_append]
    refine .rd (.catT rfl rfl (by simp only [fours_len]; omega)) ?_
    refine .rd (.move rfl) ?_
    refine .rd (.catT rfl rfl (by simp only [List.length_append, fours_len]; omega)) ?_
    refine .ef (.buildSlice (n := 2) (cs := (two4 l).flatMap sce) Try.underlying43 ti9 rfl (by decide) (fill2s _ _) (ones.of rfl)) ?_
    rintro _ _ ⟨bs, rfl, rfl⟩
    refine .rd (.assign rfl) ?_
    refine .nil ?_
    refine .seq ?_
    refine .seq ?_
    refine .region ?_
    refine .rd (.assign rfl) ?_
    refine .nil ?_
    refine .block ?_
    refine .loop (σ := Nat) (fun i => i ≤ 2) (fun i => 2 - i) (fun i => [(3, .bool true), (4, .slice (some ⟨bs, 0, none⟩) 2 2), (5, .int .i64 (i : Nat))]) (fun i => [blk bs ((two4 l).flatMap sce) 9, R]) 0 (Nat.zero_le _) (.cons rfl (.cons rfl (.cons rfl .nil))) (.cons .head (.cons .head .nil)) (fun i hI ih => ?_)
    refine .seq ?_
    refine .seq ?_
    refine .region ?_
    refine .rd (.move rfl) ?_
    refine .rd (.move rfl) ?_
    refine .rd (.lenL rfl rfl Try.underlying43 rfl) ?_
    refine .rd (.lt rfl rfl) ?_
    refine .nil ?_
    refine .condP rfl (fun h6 => ?_) (fun h6 => ?_)
    · refine .skip ?_
      refine .seq ?_
      refine .block ?_
      refine .seq ?_
      have hlt : i < (two4 l).length := by show i < 2; omega
      obtain ⟨x, hx⟩ : ∃ x, (two4 l)[i]? = some x := ⟨_, List.getElem?_eq_getElem hlt⟩
      have hxl := two4_len (List.mem_of_getElem? hx)
      refine .region ?_
      refine .rd (.move rfl) ?_
      refine .rd (.move rfl) ?_
      refine .rd (.indexAddr Try.underlying43 ts9 rfl rfl (by omega) (by omega)) ?_
      refine .rd (.load na9 rfl (Knows.one (i := 0) (Knows.elem (f := sce) sce_len (by decide) ((Knows.blk .head).mono fun _ h => .inr ⟨bs, 0, rfl, h⟩) hx) rfl)) ?_
      refine .fn rfl rfl .nil (fun _ _ _ => trivial) (Decode_ok x (by omega)) (fun v G1 hq => ?_)
      obtain ⟨m1, rfl, hm1, rfl⟩ := hq
      simp only [List.cons_append, List.nil_append]
      refine .rd (.move rfl) ?_
      refine .rd (.extract rfl rfl) ?_
      refine .rd (.extract rfl rfl) ?_
      refine .ef (.alloc ti54 rfl (ones.of rfl)) ?_
      rintro _ _ ⟨b6, rfl, rfl⟩
      refine .ef0 (.storeAll (vs := m1.cells) ts54 rfl rfl rfl .head rfl (ones.of rfl)) ?_
      rintro _ _ rfl
      refine .rd (.assign rfl) ?_
      refine .nil ?_
      refine .seq ?_
      refine .region ?_
      refine .rd (.move rfl) ?_
      refine .rd (.move rfl) ?_
      refine .rd (.indexAddr Try.underlying43 ts9 rfl rfl (by omega) (by omega)) ?_
      refine .rd (.load na9 rfl (Knows.one (i := 0) (Knows.elem (f := sce) sce_len (by decide) ((Knows.blk (.tail (.tail .head))).mono fun _ h => .inr ⟨bs, 0, rfl, h⟩) hx) rfl)) ?_
      refine .fn rfl rfl .nil (fun _ _ _ => trivial) (rDecode_ok x (by omega)) (fun v G1 hq => ?_)
      obtain ⟨m2, rfl, hm2, rfl⟩ := hq
      simp only [List.cons_append, List.nil_append]
      refine .rd (.move rfl) ?_
      refine .rd (.extract rfl rfl) ?_
      refine .rd (.extract rfl rfl) ?_
      refine .ef (.alloc ti54 rfl (ones.of rfl)) ?_
      rintro _ _ ⟨b8, rfl, rfl⟩
      refine .ef0 (.storeAll (vs := m2.cells) ts54 rfl rfl rfl .head rfl (ones.of rfl)) ?_
      rintro _ _ rfl
      refine .rd (.assign rfl) ?_
      refine .nil ?_
      refine .seq ?_
      refine .region ?_
      refine .rd (.ldN ia54 ts54 rfl (.tail (.tail .head)) rfl) ?_
      refine .rd (.ldN ia54 ts54 rfl .head rfl) ?_
      refine .fn rfl rfl .nil (fun A w h => ⟨(Knows.know (.tail (.tail (.tail .head)))) A w h, (Knows.know (.tail .head)) A w h⟩) (same4_ok m1 m2 (decode_fits hm1) (decode_fits hm2)) (fun v G1 hq => ?_)
      obtain ⟨r, rfl, hr, rfl⟩ := hq
      simp only [List.nil_append]
      obtain rfl : r = true := hr.2 (hm1.trans hm2.symm)
      refine .rd (.assign rfl) ?_
      refine .nil ?_
      refine .seq ?_
      refine .region ?_
      refine .rd (.move rfl) ?_
      refine .rd (.not rfl) ?_
      refine .rd (.move rfl) ?_
      refine .on (t := 54) rfl rfl ?_
      refine .rd (.move rfl) ?_
      refine .on (t := 54) rfl rfl ?_
      refine .rd (.move rfl) ?_
      refine .on (t := 54) rfl rfl ?_
      refine .rd (.neI rfl rfl) ?_
      refine .alter (t := 57) (v' := .bool false) rfl (congrArg Value.bool (by simp)) ?_
      refine .rd (.pickF rfl rfl) ?_
      refine .nil ?_
      refine .condF rfl ?_
      refine .skip ?_
      refine .inBlock ?_
      refine .region ?_
      refine .rd (.move rfl) ?_
      refine .rd (.add rfl rfl (by omega) (by omega)) ?_
      refine .rd (.assign rfl) ?_
      refine .nil ?_
      exact (ih (i + 1) (by omega) (by omega)).to (.cons rfl (.cons rfl (.cons rfl .nil))) (.cons (.tail (.tail (.tail (.tail .head)))) (.cons (.tail (.tail (.tail (.tail .head)))) .nil))
    · refine .exit rfl ?_
      refine .seq ?_
      refine .region ?_
      refine .rd (.move rfl) ?_
      refine .rd (.assign rfl) ?_
      refine .nil ?_
      refine .retP Try.func9 (.cons (.tmp rfl) .nil) (.cons (.tail .head) .nil) ?_
      exact ⟨[], ⟨rfl, rfl⟩, rfl⟩

set_option maxHeartbeats 1000000 in
set_option maxRecDepth 20000 in
theorem RpcAnswers_ok (m : MsgM) (e : Int) (hf : m.fits) (he : i64 e) : Cn Try.prog 10 [.agg m.cells.toArray, .int .i64 e] (fun w => m.at_ w) [] fun v G => v = .bool true ∧ G = [] := by
  refine .enter Try.func10 rfl (by kernel_rfl) rfl fun R k => ?_
  have haf := answer_fits hf he
  refine .seq ?_
  refine .region ?_
  refine .ef (.box (l := m.cells) rfl rfl (ones.of rfl)) ?_
  rintro _ _ ⟨b2, rfl, rfl⟩
  refine .rd (.assign rfl) ?_
  refine .nil ?_
  refine .seq ?_
  refine .region ?_
  refine .fn rfl rfl .nil (fun _ _ _ => trivial) (shown4_ok) (fun v G1 hq => ?_)
  obtain ⟨rfl, rfl⟩ := hq
  simp only [List.nil_append]
  refine .rd (.assign rfl) ?_
  refine .nil ?_
  refine .seq ?_
  refine .draws [0, 3] [blk b2 m.cells 54] (by kernel_rfl) ?_
  refine .rd 0 rfl rfl (by kernel_rfl) (by kernel_rfl) (by kernel_rfl) (.ldN ia54 ts54 rfl .head rfl) (.cons .head .nil) ?_
  refine .rp 1 rfl (by kernel_rfl) (by kernel_rfl) (by kernel_rfl) (Reads.pure (.move rfl)) ?_
  refine .rd 3 rfl rfl (by kernel_rfl) (by kernel_rfl) (by kernel_rfl) (.ldN ia54 ts54 rfl .head rfl) (.cons .head .nil) ?_
  refine .rp 4 rfl (by kernel_rfl) (by kernel_rfl) (by kernel_rfl) (Reads.pure (.move rfl)) ?_
  refine .ef 2 (by kernel_rfl) rfl (.fn rfl rfl .nil (fun _ _ _ => trivial) (Answer_ok m e hf.kind)) ?_
  rintro v _ ⟨G1, hq, rfl⟩
  obtain ⟨rfl, rfl⟩ := hq
  simp only [List.nil_append]
  refine ⟨.inr ⟨_, (.cons .head .nil)⟩, ?_⟩
  refine .ef 5 (by kernel_rfl) rfl (.fn rfl rfl .nil (fun _ _ _ => trivial) (rAnswer_ok m e hf.kind)) ?_
  rintro v _ ⟨G1, hq, rfl⟩
  obtain ⟨rfl, rfl⟩ := hq
  simp only [List.nil_append]
  refine ⟨.inl (by kernel_rfl), ?_⟩
  refine .ef 6 (by kernel_rfl) rfl (.fn rfl rfl .nil (fun _ w _ => ⟨answer_at m e w, answer_at m e w⟩) (same4_ok (answerM m e) (answerM m e) haf haf)) ?_
  rintro v _ ⟨G1, hq, rfl⟩
  obtain ⟨r, rfl, hr, rfl⟩ := hq
  simp only [List.nil_append]
  obtain rfl : r = true := hr.2 rfl
  refine ⟨.inl (by kernel_rfl), ?_⟩
  refine .rp 7 rfl (by kernel_rfl) (by kernel_rfl) (by kernel_rfl) (Reads.pure (.assign rfl)) ?_
  refine .done (by kernel_rfl) ?_
  refine .seq ?_
  refine .region ?_
  refine .rd (.move rfl) ?_
  refine .rd (.move rfl) ?_
  refine .on (t := 16) rfl rfl ?_
  refine .rd (.move rfl) ?_
  refine .rd (.pickT rfl rfl) ?_
  refine .rd (.assign rfl) ?_
  refine .nil ?_
  refine .retP Try.func10 (.cons (.tmp rfl) .nil) (.cons (.tail .head) .nil) ?_
  exact ⟨[], ⟨rfl, rfl⟩, rfl⟩

set_option maxHeartbeats 1000000 in
set_option maxRecDepth 20000 in
theorem RpcBack_ok (m kk : MsgM) (hf : m.fits) (hk : kk.fits) : Cn Try.prog 11 [.agg m.cells.toArray, .agg kk.cells.toArray] (fun w => m.at_ w ∧ kk.at_ w) [] fun v G => v = .bool true ∧ G = [] := by
  refine .enter Try.func11 rfl (by kernel_rfl) rfl fun R k => ?_
  refine .seq ?_
  refine .region ?_
  refine .ef (.box (l := m.cells) rfl rfl (ones.of rfl)) ?_
  rintro _ _ ⟨b2, rfl, rfl⟩
  refine .ef (.box (l := kk.cells) rfl rfl (ones.of rfl)) ?_
  rintro _ _ ⟨b3, rfl, rfl⟩
  refine .rd (.assign rfl) ?_
  refine .nil ?_
  refine .seq ?_
  refine .region ?_
  refine .fn rfl rfl .nil (fun _ _ _ => trivial) (shown4_ok) (fun v G1 hq => ?_)
  obtain ⟨rfl, rfl⟩ := hq
  simp only [List.nil_append]
  refine .rd (.assign rfl) ?_
  refine .nil ?_
  refine .seq ?_
  refine .region ?_
  refine .rd (.ldN ia54 ts54 rfl (.tail .head) rfl) ?_
  refine .fn rfl rfl .nil (Knows.pick (.tail (.tail .head)) (k.mono fun _ h => h.1)) (Encode_ok m hf) (fun v G1 hq => ?_)
  obtain ⟨rfl, rfl⟩ := hq
  simp only [List.nil_append]
  refine .rd (.move rfl) ?_
  refine .rd (.extract rfl rfl) ?_
  refine .rd (.extract rfl rfl) ?_
  refine .rd (.assign rfl) ?_
  refine .rd (.assign rfl) ?_
  refine .nil ?_
  refine .seq ?_
  refine .seq ?_
  refine .region ?_
  refine .rd (.move rfl) ?_
  refine .rd (.not rfl) ?_
  refine .rd (.move rfl) ?_
  refine .on (t := 22) rfl rfl ?_
  refine .rd (.move rfl) ?_
  refine .on (t := 22) rfl rfl ?_
  refine .rd (.eqI rfl rfl) ?_
  refine .on (t := 22) rfl rfl ?_
  refine .rd (.ldN ia54 ts54 rfl (.tail .head) rfl) ?_
  refine .on (t := 22) rfl rfl ?_
  refine .fn rfl rfl .nil (Knows.pick (.tail (.tail .head)) (k.mono fun _ h => h.1)) (Right4_ok m hf) (fun v G1 hq => ?_)
  obtain ⟨rfl, rfl⟩ := hq
  simp only [List.nil_append]
  refine .on (t := 22) rfl rfl ?_
  refine .rd (.eqI rfl rfl) ?_
  refine .on (t := 22) rfl rfl ?_
  refine .rd (.neB Try.underlying4 rfl rfl) ?_
  refine .alter (t := 28) (v' := .bool false) rfl (by rw [wmsg_err]; simp) ?_
  refine .rd (.pickF rfl rfl) ?_
  refine .nil ?_
  refine .condF rfl ?_
  refine .skip ?_
  refine .seq ?_
  refine .seq ?_
  refine .region ?_
  refine .rd (.move rfl) ?_
  refine .rd (.neI rfl rfl) ?_
  refine .nil ?_
  refine .condN rfl (fun h5 => ?_) (fun h5 => ?_)
  · refine .seq ?_
    refine .region ?_
    refine .rd (.move rfl) ?_
    refine .rd (.eqT (m := []) rfl rfl) ?_
    refine .alter (t := 33) (v' := .bool true) rfl (congrArg Value.bool (decide_eq_true (wmsg_not h5))) ?_
    refine .rd (.assign rfl) ?_
    refine .nil ?_
    refine .retP Try.func11 (.cons (.tmp rfl) .nil) (.cons (.tail (.tail .head)) .nil) ?_
    exact ⟨[], ⟨rfl, rfl⟩, rfl⟩
  · have hr : right4 m.msg = 0 := by rw [← wmsg_err]; exact h5
    have hlen : (wmsg m.msg).1.length ≤ 65536 := by have := wmsg_is hr; omega
    have hdec := decode_write hf.msg hr
    refine .skip ?_
    refine .seq ?_
    refine .region ?_
    refine .rd (.move rfl) ?_
    refine .fn rfl rfl .nil (fun _ _ _ => trivial) (Decode_ok (wmsg m.msg).1 (by omega)) (fun v G1 hq => ?_)
    obtain ⟨m1, rfl, hm1, rfl⟩ := hq
    simp only [List.cons_append, List.nil_append]
    rw [hdec] at hm1 ⊢
    have hf1 : m1.fits := decode_fits (s := (wmsg m.msg).1) (by rw [hdec]; exact hm1)
    refine .rd (.move rfl) ?_
    refine .rd (.extract rfl rfl) ?_
    refine .rd (.extract rfl rfl) ?_
    refine .ef (.alloc ti54 rfl (ones.of rfl)) ?_
    rintro _ _ ⟨b8, rfl, rfl⟩
    refine .ef0 (.storeAll (vs := m1.cells) ts54 rfl rfl rfl .head rfl (ones.of rfl)) ?_
    rintro _ _ rfl
    refine .rd (.assign rfl) ?_
    refine .nil ?_
    refine .seq ?_
    refine .region ?_
    refine .rd (.ldN ia54 ts54 rfl .head rfl) ?_
    refine .rd (.ldN ia54 ts54 rfl (.tail (.tail (.tail .head))) rfl) ?_
    refine .fn rfl rfl .nil (fun A w h => ⟨(Knows.know (.tail .head)) A w h, (Knows.pick (.tail (.tail (.tail (.tail .head)))) (k.mono fun _ h => h.1)) A w h⟩) (same4_ok m1 m hf1 hf) (fun v G1 hq => ?_)
    obtain ⟨r, rfl, hr1, rfl⟩ := hq
    simp only [List.nil_append]
    obtain rfl : r = true := hr1.2 hm1
    refine .rd (.assign rfl) ?_
    refine .nil ?_
    refine .seq ?_
    refine .seq ?_
    refine .region ?_
    refine .rd (.move rfl) ?_
    refine .rd (.neI rfl rfl) ?_
    refine .alter (t := 43) (v' := .bool false) rfl (congrArg Value.bool (by first | rfl | decide)) ?_
    refine .rd (.move rfl) ?_
    refine .on (t := 44) rfl rfl ?_
    refine .rd (.move rfl) ?_
    refine .on (t := 44) rfl rfl ?_
    refine .rd (.not rfl) ?_
    refine .rd (.pickF rfl rfl) ?_
    refine .rd (.move rfl) ?_
    refine .on (t := 48) rfl rfl ?_
    refine .rd (.move rfl) ?_
    refine .on (t := 48) rfl rfl ?_
    refine .rd (.lenT rfl rfl Try.underlying9 rfl) ?_
    refine .on (t := 48) rfl rfl ?_
    refine .rd (.gt rfl rfl) ?_
    refine .alter (t := 51) (v' := .bool false) rfl (congrArg Value.bool (decide_eq_false (by omega))) ?_
    refine .rd (.pickF rfl rfl) ?_
    refine .nil ?_
    refine .condF rfl ?_
    refine .skip ?_
    refine .seq ?_
    refine .region ?_
    refine .rd (.ldN ia54 ts54 rfl (.tail (.tail .head)) rfl) ?_
    refine .fn rfl rfl .nil (Knows.pick (.tail (.tail (.tail (.tail .head)))) (k.mono fun _ h => h.2)) (Encode_ok kk hk) (fun v G1 hq => ?_)
    obtain ⟨rfl, rfl⟩ := hq
    simp only [List.nil_append]
    refine .rd (.move rfl) ?_
    refine .rd (.extract rfl rfl) ?_
    refine .rd (.extract rfl rfl) ?_
    refine .rd (.assign rfl) ?_
    refine .rd (.assign rfl) ?_
    refine .nil ?_
    refine .seq ?_
    refine .region ?_
    refine .rd (.ldN ia54 ts54 rfl (.tail (.tail (.tail .head))) rfl) ?_
    refine .rd (.ldN ia54 ts54 rfl (.tail (.tail .head)) rfl) ?_
    refine .fn rfl rfl .nil (Knows.pick (.tail (.tail (.tail (.tail .head)))) k) (same4_ok m kk hf hk) (fun v G1 hq => ?_)
    obtain ⟨r2, rfl, hr2, rfl⟩ := hq
    simp only [List.nil_append]
    refine .rd (.assign rfl) ?_
    refine .nil ?_
    refine .seq ?_
    refine .region ?_
    refine .rd (.move rfl) ?_
    refine .rd (.neI rfl rfl) ?_
    refine .rd (.move rfl) ?_
    refine .split (t := 63) rfl (fun g13 => ?_) (fun g13 => ?_)
    · simp at g13
      refine .off (t := 63) rfl rfl rfl ?_
      refine .off (t := 63) rfl rfl rfl ?_
      refine .off (t := 63) rfl rfl rfl ?_
      refine .off (t := 63) rfl rfl rfl ?_
      refine .off (t := 63) rfl rfl rfl ?_
      refine .rd (.pickT rfl rfl) ?_
      refine .rd (.assign rfl) ?_
      refine .nil ?_
      refine .retP Try.func11 (.cons (.tmp rfl) .nil) (.cons (.tail (.tail (.tail (.tail .head)))) .nil) ?_
      exact ⟨[], ⟨rfl, rfl⟩, rfl⟩
    · refine .on (t := 63) rfl rfl ?_
      refine .rd (.move rfl) ?_
      refine .on (t := 63) rfl rfl ?_
      refine .rd (.move rfl) ?_
      refine .on (t := 63) rfl rfl ?_
      refine .rd (.eqT rfl rfl) ?_
      refine .on (t := 63) rfl rfl ?_
      refine .rd (.move rfl) ?_
      refine .on (t := 63) rfl rfl ?_
      refine .rd (.eqB Try.underlying4 rfl rfl) ?_
      refine .alter (t := 68) (v' := .bool true) rfl (beqT hf hk hr hr2 g13) ?_
      refine .rd (.pickF rfl rfl) ?_
      refine .rd (.assign rfl) ?_
      refine .nil ?_
      refine .retP Try.func11 (.cons (.tmp rfl) .nil) (.cons (.tail (.tail (.tail (.tail .head)))) .nil) ?_
      exact ⟨[], ⟨rfl, rfl⟩, rfl⟩

end Go.Proofs.Ytllpkagplfmlbaa


/- A separation logic over the given machine. Part 10: what a statement's arguments are, and a law's row out of its contract. -/
namespace Go.Sp
open Go Go.ChangeShapes Go.WideShapes Go.ChangeAt Go.RowKit

section
variable {H : Type} {enc : TypeId × Value → H} {P : Program} {W : World} {spare : Nat → Bool} {held : Bool}

/-- Every string, slice and map of a reading fits into memory. -/
def Fits (P : Program) (t : TypeId) (d : DataW H) : Prop := ∀ n ∈ d.weights P t, n ≤ 140737488351232

/-- What a reading of type t tells: its cells are those of one of α. -/
def Rd {α : Type} (enc : TypeId × Value → H) (P : Program) (W : World) (spare : Nat → Bool) (held : Bool) (t : TypeId) (cells : α → List Value) (good : α → Prop) : Prop :=
  ∀ (n : Nat) (cs : List Value) (x : DataW H × List MemPlace), DataW.trod enc P W 0 spare held n t cs = some x → Fits P t x.1 → ∃ a, cs = cells a ∧ good a

theorem Rd.int {t} {k : IntKind} (ht : P.underlying t = some (.int k)) : Rd enc P W spare held t (fun n : Int => [.int k n]) (fun n => (Lit.int k n).wf = true) := fun n cs x h _ => by
  obtain ⟨m, rfl, _, hw⟩ := DataW.trod_int ht h
  exact ⟨m, rfl, hw⟩
theorem Rd.bool {t} (ht : P.underlying t = some .bool) : Rd enc P W spare held t (fun b : Bool => [.bool b]) (fun _ => True) := fun n cs x h _ => by
  obtain ⟨m, rfl, _⟩ := DataW.trod_bool ht h
  exact ⟨m, rfl, trivial⟩
theorem Rd.string {t} (ht : P.underlying t = some .string) : Rd enc P W spare held t (fun s : ByteArray => [.string s]) (fun s => s.size ≤ 140737488351232) := fun n cs x h hf => by
  obtain ⟨s, rfl, rfl, _⟩ := DataW.trod_string ht h
  refine ⟨s, rfl, ?_⟩
  have := hf s.data.toList.length (by simp [DataW.weights])
  simpa using this

theorem weightsAll_mem {e : TypeId} {l : List (DataW H)} {d : DataW H} (hd : d ∈ l) {n : Nat} (hn : n ∈ d.weights P e) : n ∈ DataW.weightsAll P e l := by
  induction l with
  | nil => cases hd
  | cons y l ih =>
    rw [DataW.weightsAll, List.mem_append]
    rcases List.mem_cons.1 hd with rfl | h
    · exact .inl hn
    · exact .inr (ih h)
theorem weightsEach_mem {n : Nat} {t : TypeId} {d : DataW H} (hn : n ∈ d.weights P t) : ∀ {ts : List TypeId} {l : List (DataW H)} {i : Nat}, ts[i]? = some t → l[i]? = some d → n ∈ DataW.weightsEach P ts l
  | [], _, _, h, _ => by simp at h
  | _ :: _, [], _, _, h => by simp at h
  | u :: ts, y :: l, 0, h, k => by
    simp at h k; subst h k
    rw [DataW.weightsEach.eq_def]; simp only [List.mem_append]; exact .inl hn
  | u :: ts, y :: l, i + 1, h, k => by
    rw [DataW.weightsEach.eq_def]; simp only [List.mem_append]
    exact .inr (weightsEach_mem hn (ts := ts) (l := l) (i := i) (by simpa using h) (by simpa using k))

/-- One field of a struct. -/
theorem Rd.field {α : Type} {t ft : TypeId} {cells : α → List Value} {good : α → Prop} {fs : Array Field} {n : Nat} {cs : List Value} {x : DataW H × List MemPlace} (ht : P.underlying t = some (.struct fs))
    (h : DataW.trod enc P W 0 spare held n t cs = some x) (hf : Fits P t x.1) (i off sz : Nat) (hi : (fs[i]?).map (fun d => (d.type, d.offset)) = some (ft, off)) (hc : P.cellsOf ft = sz) (r : Rd enc P W spare held ft cells good) :
    ∃ a, (cs.drop off).take sz = cells a ∧ good a := by
  obtain ⟨xs, m, rfl, rfl, hl, hx, hall⟩ := DataW.trod_struct ht h
  cases hfi : fs[i]? with
  | none => simp [hfi] at hi
  | some f =>
    simp [hfi] at hi
    obtain ⟨rfl, rfl⟩ := hi
    have h1 := hall i f hfi
    rw [hc] at h1
    have hlt : i < xs.length := by rw [hx]; exact (Array.getElem?_eq_some_iff.1 hfi).1
    have h2 : xs[i]? = some xs[i] := List.getElem?_eq_getElem hlt
    rw [h2] at h1
    refine r m _ _ h1 fun w hw => hf w ?_
    rw [DataW.weights.eq_def]
    simp only [ht]
    exact weightsEach_mem hw (i := i) (by simp [hfi]) (by simp [h2])

theorem Rd.structLen {t : TypeId} {fs : Array Field} {n : Nat} {cs : List Value} {x : DataW H × List MemPlace} (ht : P.underlying t = some (.struct fs)) (h : DataW.trod enc P W 0 spare held n t cs = some x) : cs.length = P.cellsOf t := by
  obtain ⟨xs, m, rfl, rfl, hl, hx, hall⟩ := DataW.trod_struct ht h
  exact hl

theorem cons_of_len {l : List Value} {n : Nat} (h : l.length = n + 1) : ∃ a t, l = a :: t ∧ t.length = n := by
  cases l with
  | nil => simp at h
  | cons a t => exact ⟨a, t, rfl, by simpa using h⟩

/-- A slice. -/
theorem Rd.slice {α : Type} {t e : TypeId} {s by_ : Nat} {cells : α → List Value} {good : α → Prop} (ht : P.underlying t = some (.slice e)) (hs : P.cellsOf e = s) (hs0 : 0 < s) (hby : P.bytesOf e = by_) (hlen : ∀ a, (cells a).length = s) (hone : ∀ a, ones (cells a))
    (r : Rd enc P W spare held e cells good) :
    Rd enc P W spare held t (fun y : Option Addr × Nat × List α => [.slice y.1 y.2.2.length y.2.1]) (fun y => RowAt y.1 (y.2.2.flatMap cells) W ∧ (∀ a ∈ y.2.2, good a) ∧ y.2.2.length * by_ ≤ 140737488351232 ∧ (y.1 = none → y.2.2 = []) ∧ y.2.2.length ≤ y.2.1) := by
  intro n cs x h hf
  rcases DataW.trod_slice ht h with ⟨rfl, _⟩ | ⟨a, len, cap, elems, rest, m, rfl, rfl, rfl, _, hlc, hcm, hel, heach, _, _⟩
  · exact ⟨(none, 0, []), rfl, .inl rfl, fun _ h => (by cases h), by show 0 * by_ ≤ _; omega, fun _ => rfl, Nat.le_refl _⟩
  · have hw : DataW.weights P t (.slice (elems.map (·.1)) (rest.map (·.1))) = (elems.length + rest.length) * by_ :: (DataW.weightsAll P e (elems.map (·.1)) ++ DataW.weightsAll P e (rest.map (·.1))) := by
      rw [DataW.weights.eq_def]; simp only [ht, hby, List.length_map]
    have hb : len * by_ ≤ 140737488351232 := by
      have h1 := hf _ (by rw [hw]; exact List.mem_cons_self)
      have h2 : len * by_ ≤ (elems.length + rest.length) * by_ := Nat.mul_le_mul_right _ (by omega)
      omega
    have each : ∀ i : Fin len, ∃ y : α, W.cells? 0 (a.add (i * s)) s = some (cells y) ∧ good y := fun i => by
      have h1 := heach i i.2
      rw [hs] at h1
      have hi : (i : Nat) < elems.length := by omega
      rw [List.getElem?_eq_getElem hi, Option.bind_eq_some_iff] at h1
      obtain ⟨cs', hc, hd⟩ := h1
      obtain ⟨y, rfl, hy⟩ := r _ _ _ hd fun w hw' => hf w (by
        rw [hw]
        exact List.mem_cons_of_mem _ (List.mem_append_left _ (weightsAll_mem (List.mem_map_of_mem (List.getElem_mem hi)) hw')))
      exact ⟨y, hc, hy⟩
    let f : Fin len → α := fun i => (each i).choose
    have hf1 : ∀ i : Fin len, W.cells? 0 (a.add (i * s)) s = some (cells (f i)) := fun i => (each i).choose_spec.1
    have hf2 : ∀ i : Fin len, good (f i) := fun i => (each i).choose_spec.2
    have hll : (List.ofFn f).length = len := List.length_ofFn
    refine ⟨(some a, cap, List.ofFn f), by show _ = [Value.slice (some a) (List.ofFn f).length cap]; rw [hll], ?_, ?_, by show (List.ofFn f).length * by_ ≤ _; rw [hll]; exact hb, fun h => (by cases h), by show (List.ofFn f).length ≤ cap; rw [hll]; exact hlc⟩
    · by_cases h0 : len = 0
      · left
        have : List.ofFn f = [] := List.eq_nil_of_length_eq_zero (by rw [hll, h0])
        rw [this]; rfl
      · right
        obtain ⟨_, _, hc0⟩ := World.cells?_some (hf1 ⟨0, by omega⟩)
        have hsp : a.spot = none := by
          have := hc0 0 hs0
          simp only [Nat.zero_mul] at this
          have hz : (cells (f ⟨0, by omega⟩))[0]? = some ((cells (f ⟨0, by omega⟩))[0]'(by rw [hlen]; exact hs0)) := List.getElem?_eq_getElem _
          rw [hz] at this
          simp only [Addr.add, if_true, World.cell?] at this
          split at this
          · split at this
            · cases this
            · simpa using ‹¬ a.spot.isSome = true›
          · cases this
        obtain ⟨b, o, sp⟩ := a
        cases hsp
        refine ⟨b, o, rfl, fun i v hv => ?_, ones.flatMap _ fun y _ => hone y⟩
        have hil : i < (List.ofFn f).length * s := by
          have := (List.getElem?_eq_some_iff.1 hv).1
          rwa [flat_length hlen] at this
        have hq : i / s < len := by rw [← hll]; exact Nat.div_lt_of_lt_mul (by rw [Nat.mul_comm]; exact hil)
        have hr : i % s < s := Nat.mod_lt _ hs0
        have hx : (List.ofFn f)[i / s]? = some (f ⟨i / s, hq⟩) := by rw [List.getElem?_ofFn]; simp [hq]
        obtain ⟨_, _, hc⟩ := World.cells?_some (hf1 ⟨i / s, hq⟩)
        have h1 := hc (i % s) hr
        have hv' : (cells (f ⟨i / s, hq⟩))[i % s]? = some v := by
          have hz : (cells (f ⟨i / s, hq⟩))[i % s]? = some ((cells (f ⟨i / s, hq⟩))[i % s]'(by rw [hlen]; exact hr)) := List.getElem?_eq_getElem _
          have h2 := flat_at hlen _ _ _ hx _ _ hz
          rw [show i / s * s + i % s = i by rw [Nat.mul_comm]; exact Nat.div_add_mod i s] at h2
          rw [h2] at hv
          rw [hz]; exact hv
        rw [hv'] at h1
        rw [Addr_add, Addr_add] at h1
        rw [← h1]
        congr 2
        have := Nat.div_add_mod i s
        rw [Nat.mul_comm] at this
        show o + i = o + i / s * s + i % s
        omega
    · intro y hy
      obtain ⟨i, rfl⟩ := List.mem_ofFn.1 hy
      exact hf2 i

end

theorem okWide_agg {P : Program} {w : World} {r : Reach} {b0 : Nat} {t : TypeId} {fs : Array Field} {v : Value} (ht : P.underlying t = some (.struct fs)) (h : Value.okWide P w r b0 t v) : ∃ cs, v = .agg cs := by
  unfold Value.okWide at h
  rw [ht] at h
  obtain ⟨cs, e, _⟩ := h
  exact ⟨cs, e⟩

/-! ### The row -/

theorem Sat.below {W w' : World} {Γ : List SProp} (h : Sat (amb W) w' (Sp.base W :: Γ)) : Below W.heap.size W w' := by
  have hb : ∀ (k : Nat) (o : Obj), W.heap[k]? = some o → w'.heap[k]? = some o := fun k o hk => h.base k o hk
  obtain ⟨ha, _⟩ := h
  refine ⟨congrArg Amb.os ha, congrArg Amb.tape ha, congrArg Amb.output ha, ?_, fun k hk => ?_⟩
  · by_cases h0 : W.heap.size = 0
    · omega
    · have hlt : W.heap.size - 1 < W.heap.size := by omega
      have h1 := hb (W.heap.size - 1) _ (Array.getElem?_eq_getElem hlt)
      have := (Array.getElem?_eq_some_iff.1 h1).1
      omega
  · have h1 : W.heap[k]? = some W.heap[k] := Array.getElem?_eq_getElem hk
    rw [hb k _ h1, h1]

/-- A law that is proved by a contract: from the memory at the start. -/
theorem Cn.law {P f} {args : List Value} {φ : World → Prop} {W : World} (h : Cn P f args φ [] fun v G => v = .bool true ∧ G = []) (hφ : ∀ w : World, (∀ (b : Nat) (o : Obj), W.heap[b]? = some o → w.heap[b]? = some o) → φ w) :
    Calls P f args.toArray W fun e w' => e = .returned (.bool true) ∧ Below W.heap.size W w' := by
  have h1 := (h (base W) fun A w s => hφ w fun b o hb => s.base b o hb).runs (amb W) [] W (by simpa using Sat.start W)
  refine h1.mono ?_
  rintro e w' ⟨v, Γ', rfl, ⟨Γ1, ⟨rfl, rfl⟩, rfl⟩, s⟩
  exact ⟨rfl, s.below⟩

/-- The same, with what the arguments tell known for good. -/
theorem Cn.lawK {P f} {args : List Value} {φ : World → Prop} {W : World} (h : Cn P f args (fun _ => True) [know φ] fun v G => v = .bool true ∧ G = []) (hφ : ∀ w : World, (∀ (b : Nat) (o : Obj), W.heap[b]? = some o → w.heap[b]? = some o) → φ w) :
    Calls P f args.toArray W fun e w' => e = .returned (.bool true) ∧ Below W.heap.size W w' := by
  have hs : Sat (amb W) W (([know φ] ++ [base W]) ++ []) := by
    have h1 : Sat (amb W) W ([base W] ++ [base W]) := (Sat.start W).map fun _ s => sat.base_dup s
    refine Sat.close (fun h s => ?_) h1
    obtain ⟨k, _, _, l, _, s, _⟩ := s
    obtain ⟨j, jl, jr, e⟩ := sat.base_know hφ s
    exact ⟨j, jl.trans l, jr, e⟩
  refine ((h (base W) fun _ _ _ => trivial).runs (amb W) [] W hs).mono ?_
  rintro e w' ⟨v, Γ', rfl, ⟨Γ1, ⟨rfl, rfl⟩, rfl⟩, s⟩
  exact ⟨rfl, s.below⟩

theorem RowAt.later {W w : World} (H : ∀ (b : Nat) (o : Obj), W.heap[b]? = some o → w.heap[b]? = some o) {a cs} (h : RowAt a cs W) : RowAt a cs w := by
  rcases h with h | ⟨b, o, e, h⟩
  · exact .inl h
  · refine .inr ⟨b, o, e, fun i v hv => ?_, h.2⟩
    have h1 := h.1 i v hv
    unfold World.cell? at h1 ⊢
    cases hb : W.heap[b]? with
    | none => simp [hb] at h1
    | some ob => rw [hb] at h1; rw [H b ob hb]; exact h1

end Go.Sp

namespace Go.Proofs.Ytllpkagplfmlbaa
open Go Go.Sp

set_option linter.unusedVariables false

namespace read3

end read3
open read3



theorem i64_wf {n : Int} (h : (Lit.int .i64 n).wf = true) : i64 n := by simpa [i64, Lit.wf, IntKind.min, IntKind.max, IntKind.signed, IntKind.bits] using h
theorem Rd.num {H : Type} {enc : TypeId × Value → H} {P : Program} {W : World} {spare : Nat → Bool} {held : Bool} {t} (ht : P.underlying t = some (.int .i64)) : Rd enc P W spare held t (fun n : Int => [.int .i64 n]) i64 := fun n cs x h hf => by
  obtain ⟨m, e, hm⟩ := Rd.int ht n cs x h hf
  exact ⟨m, e, i64_wf hm⟩
theorem Rd.text {H : Type} {enc : TypeId × Value → H} {P : Program} {W : World} {spare : Nat → Bool} {held : Bool} {t} (ht : P.underlying t = some .string) : Rd enc P W spare held t (fun s : List UInt8 => [.string (str s)]) (fun s => s.length ≤ 140737488351232) := fun n cs x h hf => by
  obtain ⟨s, e, hs⟩ := Rd.string ht n cs x h hf
  refine ⟨s.data.toList, ?_, ?_⟩
  · show cs = [Value.string (str s.data.toList)]; rw [str_data]; exact e
  · show s.data.toList.length ≤ _; rw [← str_size, str_data]; exact hs
theorem icell_ones (n : Int) : ones (icell n) := .of rfl

theorem rd65 {H : Type} {enc : TypeId × Value → H} {W : World} {spare : Nat → Bool} {held : Bool} : Rd enc Try.prog W spare held 65 Rec.cells (fun r => i64 r.time ∧ r.key.length ≤ 140737488351232 ∧ r.value.length ≤ 140737488351232) := by
  intro n cs x h hf
  have hl : cs.length = 3 := (Rd.structLen Try.underlying65 h).trans (by kernel_rfl)
  obtain ⟨c0, cs0, rfl, hl0⟩ := cons_of_len hl
  obtain ⟨c1, cs1, rfl, hl1⟩ := cons_of_len hl0
  obtain ⟨c2, cs2, rfl, hl2⟩ := cons_of_len hl1
  obtain rfl : cs2 = [] := List.eq_nil_of_length_eq_zero hl2
  obtain ⟨k, e0, w0⟩ := Rd.field Try.underlying65 h hf 0 0 1 rfl (by kernel_rfl) (Rd.text Try.underlying9)
  simp only [List.drop_zero, List.take_succ_cons, List.take_zero, List.cons.injEq, and_true] at e0
  obtain ⟨v, e1, w1⟩ := Rd.field Try.underlying65 h hf 1 1 1 rfl (by kernel_rfl) (Rd.text Try.underlying9)
  simp only [List.drop_succ_cons, List.drop_zero, List.take_succ_cons, List.take_zero, List.cons.injEq, and_true] at e1
  obtain ⟨t, e2, w2⟩ := Rd.field Try.underlying65 h hf 2 2 1 rfl (by kernel_rfl) (Rd.num Try.underlying3)
  simp only [List.drop_succ_cons, List.drop_zero, List.take_succ_cons, List.take_zero, List.cons.injEq, and_true] at e2
  subst e0
  subst e1
  subst e2
  exact ⟨⟨k, v, t⟩, rfl, w2, w0, w1⟩

theorem rd27 {H : Type} {enc : TypeId × Value → H} {W : World} {spare : Nat → Bool} {held : Bool} : Rd enc Try.prog W spare held 27 (fun y : Bat × Option Addr × Nat => y.1.cells y.2.1 y.2.2) (fun y => RowAt y.2.1 (y.1.recs.flatMap Rec.cells) W ∧ y.1.fits) := by
  intro n cs x h hf
  have hl : cs.length = 6 := (Rd.structLen Try.underlying27 h).trans (by kernel_rfl)
  obtain ⟨c0, cs0, rfl, hl0⟩ := cons_of_len hl
  obtain ⟨c1, cs1, rfl, hl1⟩ := cons_of_len hl0
  obtain ⟨c2, cs2, rfl, hl2⟩ := cons_of_len hl1
  obtain ⟨c3, cs3, rfl, hl3⟩ := cons_of_len hl2
  obtain ⟨c4, cs4, rfl, hl4⟩ := cons_of_len hl3
  obtain ⟨c5, cs5, rfl, hl5⟩ := cons_of_len hl4
  obtain rfl : cs5 = [] := List.eq_nil_of_length_eq_zero hl5
  obtain ⟨f0, e0, w0⟩ := Rd.field Try.underlying27 h hf 0 0 1 rfl (by kernel_rfl) (Rd.num Try.underlying3)
  simp only [List.drop_zero, List.take_succ_cons, List.take_zero, List.cons.injEq, and_true] at e0
  obtain ⟨f1, e1, w1⟩ := Rd.field Try.underlying27 h hf 1 1 1 rfl (by kernel_rfl) (Rd.num Try.underlying3)
  simp only [List.drop_succ_cons, List.drop_zero, List.take_succ_cons, List.take_zero, List.cons.injEq, and_true] at e1
  obtain ⟨f2, e2, w2⟩ := Rd.field Try.underlying27 h hf 2 2 1 rfl (by kernel_rfl) (Rd.num Try.underlying3)
  simp only [List.drop_succ_cons, List.drop_zero, List.take_succ_cons, List.take_zero, List.cons.injEq, and_true] at e2
  obtain ⟨f3, e3, w3⟩ := Rd.field Try.underlying27 h hf 3 3 1 rfl (by kernel_rfl) (Rd.num Try.underlying3)
  simp only [List.drop_succ_cons, List.drop_zero, List.take_succ_cons, List.take_zero, List.cons.injEq, and_true] at e3
  obtain ⟨f4, e4, w4⟩ := Rd.field Try.underlying27 h hf 4 4 1 rfl (by kernel_rfl) (Rd.num Try.underlying3)
  simp only [List.drop_succ_cons, List.drop_zero, List.take_succ_cons, List.take_zero, List.cons.injEq, and_true] at e4
  obtain ⟨⟨ra, rc, rl⟩, e5, hr, hg, hb, _, _⟩ := Rd.field Try.underlying27 h hf 5 5 1 rfl (by kernel_rfl) (Rd.slice (s := 3) (by_ := 40) Try.underlying25 (by kernel_rfl) (by decide) (by kernel_rfl) Rec.cells_len Rec.cells_ones rd65)
  simp only [List.drop_succ_cons, List.drop_zero, List.take_succ_cons, List.take_zero, List.cons.injEq, and_true] at e5
  subst e0
  subst e1
  subst e2
  subst e3
  subst e4
  subst e5
  exact ⟨(⟨f0, f1, f2, f3, f4, rl⟩, ra, rc), rfl, hr, ⟨w0, w1, w2, w3, w4, fun r h => (hg r h).1, fun r h => (hg r h).2.1, fun r h => (hg r h).2.2, hb⟩⟩

theorem rd39 {H : Type} {enc : TypeId × Value → H} {W : World} {spare : Nat → Bool} {held : Bool} : Rd enc Try.prog W spare held 39 (fun y : Met × Option Addr × Nat => y.1.cells y.2.1 y.2.2) (fun y => RowAt y.2.1 (y.1.list.flatMap icell) W ∧ y.1.fits) := by
  intro n cs x h hf
  have hl : cs.length = 8 := (Rd.structLen Try.underlying39 h).trans (by kernel_rfl)
  obtain ⟨c0, cs0, rfl, hl0⟩ := cons_of_len hl
  obtain ⟨c1, cs1, rfl, hl1⟩ := cons_of_len hl0
  obtain ⟨c2, cs2, rfl, hl2⟩ := cons_of_len hl1
  obtain ⟨c3, cs3, rfl, hl3⟩ := cons_of_len hl2
  obtain ⟨c4, cs4, rfl, hl4⟩ := cons_of_len hl3
  obtain ⟨c5, cs5, rfl, hl5⟩ := cons_of_len hl4
  obtain ⟨c6, cs6, rfl, hl6⟩ := cons_of_len hl5
  obtain ⟨c7, cs7, rfl, hl7⟩ := cons_of_len hl6
  obtain rfl : cs7 = [] := List.eq_nil_of_length_eq_zero hl7
  obtain ⟨f0, e0, w0⟩ := Rd.field Try.underlying39 h hf 0 0 1 rfl (by kernel_rfl) (Rd.num Try.underlying3)
  simp only [List.drop_zero, List.take_succ_cons, List.take_zero, List.cons.injEq, and_true] at e0
  obtain ⟨f1, e1, w1⟩ := Rd.field Try.underlying39 h hf 1 1 1 rfl (by kernel_rfl) (Rd.num Try.underlying3)
  simp only [List.drop_succ_cons, List.drop_zero, List.take_succ_cons, List.take_zero, List.cons.injEq, and_true] at e1
  obtain ⟨f2, e2, w2⟩ := Rd.field Try.underlying39 h hf 2 2 1 rfl (by kernel_rfl) (Rd.num Try.underlying3)
  simp only [List.drop_succ_cons, List.drop_zero, List.take_succ_cons, List.take_zero, List.cons.injEq, and_true] at e2
  obtain ⟨f3, e3, w3⟩ := Rd.field Try.underlying39 h hf 3 3 1 rfl (by kernel_rfl) (Rd.num Try.underlying3)
  simp only [List.drop_succ_cons, List.drop_zero, List.take_succ_cons, List.take_zero, List.cons.injEq, and_true] at e3
  obtain ⟨f4, e4, w4⟩ := Rd.field Try.underlying39 h hf 4 4 1 rfl (by kernel_rfl) (Rd.num Try.underlying3)
  simp only [List.drop_succ_cons, List.drop_zero, List.take_succ_cons, List.take_zero, List.cons.injEq, and_true] at e4
  obtain ⟨nm, e5, w5⟩ := Rd.field Try.underlying39 h hf 5 5 1 rfl (by kernel_rfl) (Rd.text Try.underlying9)
  simp only [List.drop_succ_cons, List.drop_zero, List.take_succ_cons, List.take_zero, List.cons.injEq, and_true] at e5
  obtain ⟨tx, e6, w6⟩ := Rd.field Try.underlying39 h hf 6 6 1 rfl (by kernel_rfl) (Rd.text Try.underlying9)
  simp only [List.drop_succ_cons, List.drop_zero, List.take_succ_cons, List.take_zero, List.cons.injEq, and_true] at e6
  obtain ⟨⟨ra, rc, rl⟩, e7, hr, hg, hb, _, _⟩ := Rd.field Try.underlying39 h hf 7 7 1 rfl (by kernel_rfl) (Rd.slice (s := 1) (by_ := 8) Try.underlying37 (by kernel_rfl) (by decide) (by kernel_rfl) icell_len icell_ones (Rd.num Try.underlying3))
  simp only [List.drop_succ_cons, List.drop_zero, List.take_succ_cons, List.take_zero, List.cons.injEq, and_true] at e7
  subst e0
  subst e1
  subst e2
  subst e3
  subst e4
  subst e5
  subst e6
  subst e7
  exact ⟨(⟨f0, f1, f2, f3, f4, nm, tx, rl⟩, ra, rc), rfl, hr, ⟨w0, w1, w2, w3, w4, w5, w6, hg, hb⟩⟩

end Go.Proofs.Ytllpkagplfmlbaa


namespace Go.Proofs.Ytllpkagplfmlbaa
open Go Go.Sp

set_option linter.unusedVariables false

namespace read4

end read4
open read4



theorem rd86 {H : Type} {enc : TypeId × Value → H} {W : World} {spare : Nat → Bool} {held : Bool} : Rd enc Try.prog W spare held 86 Ent.cells (fun e => i64 e.term ∧ i64 e.index ∧ e.data.length ≤ 140737488351232) := by
  intro n cs x h hf
  have hl : cs.length = 3 := (Rd.structLen Try.underlying86 h).trans (by kernel_rfl)
  obtain ⟨c0, cs0, rfl, hl0⟩ := cons_of_len hl
  obtain ⟨c1, cs1, rfl, hl1⟩ := cons_of_len hl0
  obtain ⟨c2, cs2, rfl, hl2⟩ := cons_of_len hl1
  obtain rfl : cs2 = [] := List.eq_nil_of_length_eq_zero hl2
  obtain ⟨t, e0, w0⟩ := Rd.field Try.underlying86 h hf 0 0 1 rfl (by kernel_rfl) (Rd.num Try.underlying3)
  simp only [List.drop_zero, List.take_succ_cons, List.take_zero, List.cons.injEq, and_true] at e0
  obtain ⟨i, e1, w1⟩ := Rd.field Try.underlying86 h hf 1 1 1 rfl (by kernel_rfl) (Rd.num Try.underlying3)
  simp only [List.drop_succ_cons, List.drop_zero, List.take_succ_cons, List.take_zero, List.cons.injEq, and_true] at e1
  obtain ⟨d, e2, w2⟩ := Rd.field Try.underlying86 h hf 2 2 1 rfl (by kernel_rfl) (Rd.text Try.underlying9)
  simp only [List.drop_succ_cons, List.drop_zero, List.take_succ_cons, List.take_zero, List.cons.injEq, and_true] at e2
  subst e0
  subst e1
  subst e2
  exact ⟨⟨t, i, d⟩, rfl, w0, w1, w2⟩

theorem rd54 {H : Type} {enc : TypeId × Value → H} {W : World} {spare : Nat → Bool} {held : Bool} : Rd enc Try.prog W spare held 54 MsgM.cells (fun m => m.at_ W ∧ m.fits) := by
  intro n cs x h hf
  have hl : cs.length = 21 := (Rd.structLen Try.underlying54 h).trans (by kernel_rfl)
  obtain ⟨c0, cs0, rfl, hl0⟩ := cons_of_len hl
  obtain ⟨c1, cs1, rfl, hl1⟩ := cons_of_len hl0
  obtain ⟨c2, cs2, rfl, hl2⟩ := cons_of_len hl1
  obtain ⟨c3, cs3, rfl, hl3⟩ := cons_of_len hl2
  obtain ⟨c4, cs4, rfl, hl4⟩ := cons_of_len hl3
  obtain ⟨c5, cs5, rfl, hl5⟩ := cons_of_len hl4
  obtain ⟨c6, cs6, rfl, hl6⟩ := cons_of_len hl5
  obtain ⟨c7, cs7, rfl, hl7⟩ := cons_of_len hl6
  obtain ⟨c8, cs8, rfl, hl8⟩ := cons_of_len hl7
  obtain ⟨c9, cs9, rfl, hl9⟩ := cons_of_len hl8
  obtain ⟨c10, cs10, rfl, hl10⟩ := cons_of_len hl9
  obtain ⟨c11, cs11, rfl, hl11⟩ := cons_of_len hl10
  obtain ⟨c12, cs12, rfl, hl12⟩ := cons_of_len hl11
  obtain ⟨c13, cs13, rfl, hl13⟩ := cons_of_len hl12
  obtain ⟨c14, cs14, rfl, hl14⟩ := cons_of_len hl13
  obtain ⟨c15, cs15, rfl, hl15⟩ := cons_of_len hl14
  obtain ⟨c16, cs16, rfl, hl16⟩ := cons_of_len hl15
  obtain ⟨c17, cs17, rfl, hl17⟩ := cons_of_len hl16
  obtain ⟨c18, cs18, rfl, hl18⟩ := cons_of_len hl17
  obtain ⟨c19, cs19, rfl, hl19⟩ := cons_of_len hl18
  obtain ⟨c20, cs20, rfl, hl20⟩ := cons_of_len hl19
  obtain rfl : cs20 = [] := List.eq_nil_of_length_eq_zero hl20
  obtain ⟨f0, e0, w0⟩ := Rd.field Try.underlying54 h hf 0 0 1 rfl (by kernel_rfl) (Rd.num Try.underlying3)
  simp only [List.drop_zero, List.take_succ_cons, List.take_zero, List.cons.injEq, and_true] at e0
  obtain ⟨f1, e1, w1⟩ := Rd.field Try.underlying54 h hf 1 1 1 rfl (by kernel_rfl) (Rd.num Try.underlying3)
  simp only [List.drop_succ_cons, List.drop_zero, List.take_succ_cons, List.take_zero, List.cons.injEq, and_true] at e1
  obtain ⟨f2, e2, w2⟩ := Rd.field Try.underlying54 h hf 2 2 1 rfl (by kernel_rfl) (Rd.num Try.underlying3)
  simp only [List.drop_succ_cons, List.drop_zero, List.take_succ_cons, List.take_zero, List.cons.injEq, and_true] at e2
  obtain ⟨f3, e3, w3⟩ := Rd.field Try.underlying54 h hf 3 3 1 rfl (by kernel_rfl) (Rd.num Try.underlying3)
  simp only [List.drop_succ_cons, List.drop_zero, List.take_succ_cons, List.take_zero, List.cons.injEq, and_true] at e3
  obtain ⟨f4, e4, w4⟩ := Rd.field Try.underlying54 h hf 4 4 1 rfl (by kernel_rfl) (Rd.num Try.underlying3)
  simp only [List.drop_succ_cons, List.drop_zero, List.take_succ_cons, List.take_zero, List.cons.injEq, and_true] at e4
  obtain ⟨f5, e5, w5⟩ := Rd.field Try.underlying54 h hf 5 5 1 rfl (by kernel_rfl) (Rd.num Try.underlying3)
  simp only [List.drop_succ_cons, List.drop_zero, List.take_succ_cons, List.take_zero, List.cons.injEq, and_true] at e5
  obtain ⟨f6, e6, w6⟩ := Rd.field Try.underlying54 h hf 6 6 1 rfl (by kernel_rfl) (Rd.num Try.underlying3)
  simp only [List.drop_succ_cons, List.drop_zero, List.take_succ_cons, List.take_zero, List.cons.injEq, and_true] at e6
  obtain ⟨f7, e7, w7⟩ := Rd.field Try.underlying54 h hf 7 7 1 rfl (by kernel_rfl) (Rd.num Try.underlying3)
  simp only [List.drop_succ_cons, List.drop_zero, List.take_succ_cons, List.take_zero, List.cons.injEq, and_true] at e7
  obtain ⟨f8, e8, w8⟩ := Rd.field Try.underlying54 h hf 8 8 1 rfl (by kernel_rfl) (Rd.num Try.underlying3)
  simp only [List.drop_succ_cons, List.drop_zero, List.take_succ_cons, List.take_zero, List.cons.injEq, and_true] at e8
  obtain ⟨f9, e9, w9⟩ := Rd.field Try.underlying54 h hf 9 9 1 rfl (by kernel_rfl) (Rd.num Try.underlying3)
  simp only [List.drop_succ_cons, List.drop_zero, List.take_succ_cons, List.take_zero, List.cons.injEq, and_true] at e9
  obtain ⟨f10, e10, w10⟩ := Rd.field Try.underlying54 h hf 10 10 1 rfl (by kernel_rfl) (Rd.num Try.underlying3)
  simp only [List.drop_succ_cons, List.drop_zero, List.take_succ_cons, List.take_zero, List.cons.injEq, and_true] at e10
  obtain ⟨f11, e11, w11⟩ := Rd.field Try.underlying54 h hf 11 11 1 rfl (by kernel_rfl) (Rd.num Try.underlying3)
  simp only [List.drop_succ_cons, List.drop_zero, List.take_succ_cons, List.take_zero, List.cons.injEq, and_true] at e11
  obtain ⟨f12, e12, w12⟩ := Rd.field Try.underlying54 h hf 12 12 1 rfl (by kernel_rfl) (Rd.num Try.underlying3)
  simp only [List.drop_succ_cons, List.drop_zero, List.take_succ_cons, List.take_zero, List.cons.injEq, and_true] at e12
  obtain ⟨f13, e13, w13⟩ := Rd.field Try.underlying54 h hf 13 13 1 rfl (by kernel_rfl) (Rd.num Try.underlying3)
  simp only [List.drop_succ_cons, List.drop_zero, List.take_succ_cons, List.take_zero, List.cons.injEq, and_true] at e13
  obtain ⟨f14, e14, w14⟩ := Rd.field Try.underlying54 h hf 14 14 1 rfl (by kernel_rfl) (Rd.num Try.underlying3)
  simp only [List.drop_succ_cons, List.drop_zero, List.take_succ_cons, List.take_zero, List.cons.injEq, and_true] at e14
  obtain ⟨f15, e15, w15⟩ := Rd.field Try.underlying54 h hf 15 15 1 rfl (by kernel_rfl) (Rd.num Try.underlying28)
  simp only [List.drop_succ_cons, List.drop_zero, List.take_succ_cons, List.take_zero, List.cons.injEq, and_true] at e15
  obtain ⟨nm, e16, w16⟩ := Rd.field Try.underlying54 h hf 16 16 1 rfl (by kernel_rfl) (Rd.text Try.underlying9)
  simp only [List.drop_succ_cons, List.drop_zero, List.take_succ_cons, List.take_zero, List.cons.injEq, and_true] at e16
  obtain ⟨tx, e17, w17⟩ := Rd.field Try.underlying54 h hf 17 17 1 rfl (by kernel_rfl) (Rd.text Try.underlying9)
  simp only [List.drop_succ_cons, List.drop_zero, List.take_succ_cons, List.take_zero, List.cons.injEq, and_true] at e17
  obtain ⟨⟨ba, bc, bl⟩, e18, hr1, hg1, hb1, _, _⟩ := Rd.field Try.underlying54 h hf 18 18 1 rfl (by kernel_rfl) (Rd.slice (s := 6) (by_ := 64) Try.underlying51 (by kernel_rfl) (by decide) (by kernel_rfl) BatM.cells_len BatM.cells_ones rd27)
  simp only [List.drop_succ_cons, List.drop_zero, List.take_succ_cons, List.take_zero, List.cons.injEq, and_true] at e18
  obtain ⟨⟨ea, ec, el⟩, e19, hr2, hg2, hb2, _, _⟩ := Rd.field Try.underlying54 h hf 19 19 1 rfl (by kernel_rfl) (Rd.slice (s := 3) (by_ := 32) Try.underlying52 (by kernel_rfl) (by decide) (by kernel_rfl) Ent.cells_len Ent.cells_ones rd86)
  simp only [List.drop_succ_cons, List.drop_zero, List.take_succ_cons, List.take_zero, List.cons.injEq, and_true] at e19
  obtain ⟨⟨ia, ic, il⟩, e20, hr3, hg3, hb3, _, _⟩ := Rd.field Try.underlying54 h hf 20 20 1 rfl (by kernel_rfl) (Rd.slice (s := 1) (by_ := 8) Try.underlying37 (by kernel_rfl) (by decide) (by kernel_rfl) icell_len icell_ones (Rd.num Try.underlying3))
  simp only [List.drop_succ_cons, List.drop_zero, List.take_succ_cons, List.take_zero, List.cons.injEq, and_true] at e20
  subst e0
  subst e1
  subst e2
  subst e3
  subst e4
  subst e5
  subst e6
  subst e7
  subst e8
  subst e9
  subst e10
  subst e11
  subst e12
  subst e13
  subst e14
  subst e15
  subst e16
  subst e17
  subst e18
  subst e19
  subst e20
  exact ⟨⟨f0, f1, f2, f3, f4, f5, f6, f7, f8, f9, f10, f11, f12, f13, f14, f15, nm, tx, ba, bc, bl, ea, ec, el, ia, ic, il⟩, rfl, ⟨hr1, fun y hy => (hg1 y hy).1, hr2, hr3⟩, ⟨w0, (by intro n hn; simp only [MsgM.nums, List.mem_cons, List.not_mem_nil, or_false] at hn; rcases hn with rfl | rfl | rfl | rfl | rfl | rfl | rfl | rfl | rfl | rfl | rfl | rfl | rfl | rfl <;> assumption), w15, w16, w17, fun y hy => (hg1 y hy).2, hb1, hg2, hb2, hg3, hb3⟩⟩

end Go.Proofs.Ytllpkagplfmlbaa


namespace Go.Proofs.Ytllpkagplfmlbaa
open Go Go.Sp

set_option linter.unusedVariables false

namespace wire20
theorem bld65_0_2 (x0 : ByteArray) (x1 : Int) (w : World) : (Instr.build 65 (([0, 2] : List Nat).zip [.string x0, .int .i64 x1]).toArray).run Try.prog w = .ok (.agg #[.string x0, .string ⟨#[]⟩, .int .i64 x1]) w := by kernel_rfl
theorem ti65 : TI Try.prog 65 3 40 (.agg #[.string ⟨#[]⟩, .string ⟨#[]⟩, .int .i64 0]) := .of (by kernel_rfl)
theorem bld27_0_5 (x0 : Int) (x1a : Option Addr) (x1n : Nat) (x1c : Nat) (w : World) : (Instr.build 27 (([0, 5] : List Nat).zip [.int .i64 x0, .slice x1a x1n x1c]).toArray).run Try.prog w = .ok (.agg #[.int .i64 x0, .int .i64 0, .int .i64 0, .int .i64 0, .int .i64 0, .slice x1a x1n x1c]) w := by kernel_rfl
theorem ti27 : TI Try.prog 27 6 64 (.agg #[.int .i64 0, .int .i64 0, .int .i64 0, .int .i64 0, .int .i64 0, .slice none 0 0]) := .of (by kernel_rfl)
theorem ts27 : TS Try.prog 27 6 := .of (by kernel_rfl)
theorem fd27_0 : FD Try.prog 27 0 0 := .of Try.underlying27 (by kernel_rfl)
theorem na3 : NotAgg Try.prog 3 := ⟨_, Try.underlying3, trivial⟩
theorem fd27_5 : FD Try.prog 27 5 5 := .of Try.underlying27 (by kernel_rfl)
theorem na25 : NotAgg Try.prog 25 := ⟨_, Try.underlying25, trivial⟩
end wire20
open wire20

def EB : Bat := ⟨5, 0, 0, 0, 0, [⟨[107], [], 3⟩]⟩
theorem EB_fits : EB.fits := by
  refine ⟨⟨by decide, by decide⟩, ⟨by decide, by decide⟩, ⟨by decide, by decide⟩, ⟨by decide, by decide⟩, ⟨by decide, by decide⟩, ?_, ?_, ?_, by decide⟩
  all_goals (intro r hr; simp only [EB, List.mem_cons, List.not_mem_nil, or_false] at hr; subst hr)
  · exact ⟨by decide, by decide⟩
  · decide
  · decide
theorem EB_body : body EB = [10, 0, 0, 0, 0, 2, 6, 2, 107, 0] := by
  have h : ∀ z : Nat, z < 128 → vint z = [UInt8.ofNat z] := fun z h => vint_small h
  simp only [body, EB, recBody, eint, List.flatMap_cons, List.flatMap_nil, List.length_cons, List.length_nil]
  rw [h (zig 5) (by decide), h (zig 0) (by decide), h (zig 3) (by decide), h (zig ((0 + 1 : Nat) : Int)) (by decide), h (zig ((0 : Nat) : Int)) (by decide)]
  rfl
theorem EB_right : right EB = 0 := by
  unfold right
  rw [EB_body]
  rw [if_neg (by decide), if_neg (by rintro ⟨r, hr, h⟩; simp only [EB, List.mem_cons, List.not_mem_nil, or_false] at hr; subst hr; exact h ⟨by decide, by decide⟩), if_neg (by decide), if_neg (by rintro ⟨r, hr, h⟩; simp only [EB, List.mem_cons, List.not_mem_nil, or_false] at hr; subst hr; exact absurd h (by decide)), if_neg (by decide), if_neg (by decide)]
theorem EB_len : (wbatch EB).1.length = 18 := by rw [wbatch_len EB_right, EB_body]; rfl
theorem EB_drop : (wbatch EB).1.drop 8 = [10, 0, 0, 0, 0, 2, 6, 2, 107, 0] := by
  rw [wbatch_yes EB_right]
  show (fours (body EB).length ++ fours (crc (body EB)).toNat ++ body EB).drop 8 = _
  rw [List.drop_left' (by rfl), EB_body]
theorem EB_two : (wbatch EB).2 = 0 := by rw [wbatch_yes EB_right]
theorem EB_read : readBatch ((wbatch EB).1 ++ [109, 111, 114, 101]) = (EB, 18, 0) := by rw [read_write EB_fits EB_right, EB_len]; rfl
theorem ex_int1 : rint [128, 1, 9] = (64, 2, 0) := by decide +kernel
theorem ex_int2 : rint [128, 0] = (0, 0, 4) := by decide +kernel
theorem ex_crc : (crc [49, 50, 51, 52, 53, 54, 55, 56, 57]).toNat = 3808858755 := by decide +kernel
theorem ex_eint : eint (-65) = [129, 1] := by
  unfold eint
  rw [vint_big (by decide), vint_small (by decide)]; rfl

set_option maxHeartbeats 1000000 in
set_option maxRecDepth 20000 in
theorem shown_ok : Cn Try.prog 13 [] (fun _ => True) [] fun v G => v = .bool true ∧ G = [] := by
  refine .enter Try.func13 rfl (by kernel_rfl) rfl fun R k => ?_
  refine .seq ?_
  refine .region ?_
  refine .rd (.assign rfl) ?_
  refine .nil ?_
  refine .seq ?_
  refine .region ?_
  refine .fn rfl rfl .nil (fun _ _ _ => trivial) (ReadInt_ok [128, 1, 9] (by decide)) (fun v G1 hq => ?_)
  obtain ⟨rfl, rfl⟩ := hq
  simp only [List.nil_append]
  rw [ex_int1]
  refine .rd (.move rfl) ?_
  refine .rd (.extract rfl rfl) ?_
  refine .rd (.extract rfl rfl) ?_
  refine .rd (.extract rfl rfl) ?_
  refine .rd (.assign rfl) ?_
  refine .rd (.assign rfl) ?_
  refine .rd (.assign rfl) ?_
  refine .nil ?_
  refine .seq ?_
  refine .region ?_
  refine .fn rfl rfl .nil (fun _ _ _ => trivial) (ReadInt_ok [128, 0] (by decide)) (fun v G1 hq => ?_)
  obtain ⟨rfl, rfl⟩ := hq
  simp only [List.nil_append]
  rw [ex_int2]
  refine .rd (.move rfl) ?_
  refine .rd (.extract rfl rfl) ?_
  refine .rd (.extract rfl rfl) ?_
  refine .rd (.extract rfl rfl) ?_
  refine .rd (.assign rfl) ?_
  refine .rd (.assign rfl) ?_
  refine .rd (.assign rfl) ?_
  refine .nil ?_
  refine .seq ?_
  refine .region ?_
  refine .rd (.build rfl (bld65_0_2 _ _)) ?_
  refine .ef (.buildOne (cs := Rec.cells ⟨[107], [], 3⟩) Try.underlying25 ti65 (by decide) rfl rfl rfl (ones.of rfl)) ?_
  rintro _ _ ⟨bs, rfl, rfl⟩
  refine .rd (.build rfl (bld27_0_5 _ _ _ _)) ?_
  refine .fn rfl rfl .nil ((Knows.blk .head).mono fun _ h => .inr ⟨bs, 0, rfl, h⟩) (Batch_ok EB (some ⟨bs, 0, none⟩) 1 EB_fits) (fun v G1 hq => ?_)
  obtain ⟨rfl, rfl⟩ := hq
  simp only [List.nil_append]
  refine .rd (.move rfl) ?_
  refine .rd (.extract rfl rfl) ?_
  refine .rd (.extract rfl rfl) ?_
  refine .rd (.assign rfl) ?_
  refine .rd (.assign rfl) ?_
  refine .nil ?_
  refine .seq ?_
  have hl := EB_len
  have hd := EB_drop
  have hr := EB_read
  have h2 := EB_two
  generalize hw : wbatch EB = W at hl hd hr h2 ⊢
  obtain ⟨s, e⟩ := W
  dsimp only at hl hd hr h2 ⊢
  subst h2
  refine .region ?_
  refine .rd (.move rfl) ?_
  refine .rd (.catT (m := [109, 111, 114, 101]) rfl rfl (by rw [hl]; decide)) ?_
  refine .fn rfl rfl .nil (fun _ _ _ => trivial) (ReadBatch_ok (s ++ [109, 111, 114, 101]) (by rw [List.length_append, hl]; decide)) (fun v G1 hq => ?_)
  obtain ⟨a', c', rfl, rfl⟩ := hq
  simp only [List.cons_append, List.nil_append]
  rw [hr]
  refine .rd (.move rfl) ?_
  refine .rd (.extract rfl rfl) ?_
  refine .rd (.extract rfl rfl) ?_
  refine .rd (.extract rfl rfl) ?_
  refine .ef (.alloc ti27 rfl (ones.of rfl)) ?_
  rintro _ _ ⟨b9, rfl, rfl⟩
  refine .ef0 (.storeAll (vs := EB.cells a' c') ts27 rfl rfl rfl .head rfl (ones.of rfl)) ?_
  rintro _ _ rfl
  refine .rd (.assign rfl) ?_
  refine .rd (.assign rfl) ?_
  refine .nil ?_
  refine .seq ?_
  refine .region ?_
  refine .fn rfl rfl .nil (fun _ _ _ => trivial) (Crc_ok [49, 50, 51, 52, 53, 54, 55, 56, 57] (by decide)) (fun v G1 hq => ?_)
  obtain ⟨rfl, rfl⟩ := hq
  simp only [List.nil_append]
  rw [ex_crc]
  refine .rd (.eqI rfl rfl) ?_
  refine .alter (t := 37) (v' := .bool true) rfl (congrArg Value.bool (decide_eq_true (by first | rfl | decide))) ?_
  refine .rd (.move rfl) ?_
  refine .on (t := 38) rfl rfl ?_
  refine .fn rfl rfl .nil (fun _ _ _ => trivial) (Int_ok (-65) ⟨by decide, by decide⟩) (fun v G1 hq => ?_)
  obtain ⟨rfl, rfl⟩ := hq
  simp only [List.nil_append]
  rw [ex_eint]
  refine .on (t := 38) rfl rfl ?_
  refine .rd (.eqT (m := [129, 1]) rfl rfl) ?_
  refine .alter (t := 40) (v' := .bool true) rfl (congrArg Value.bool (decide_eq_true (by first | rfl | decide))) ?_
  refine .rd (.pickT rfl rfl) ?_
  refine .rd (.move rfl) ?_
  refine .on (t := 42) rfl rfl ?_
  refine .rd (.move rfl) ?_
  refine .on (t := 42) rfl rfl ?_
  refine .rd (.eqI rfl rfl) ?_
  refine .alter (t := 44) (v' := .bool true) rfl (congrArg Value.bool (decide_eq_true (by first | rfl | decide))) ?_
  refine .rd (.pickT rfl rfl) ?_
  refine .rd (.move rfl) ?_
  refine .on (t := 46) rfl rfl ?_
  refine .rd (.move rfl) ?_
  refine .on (t := 46) rfl rfl ?_
  refine .rd (.eqI rfl rfl) ?_
  refine .alter (t := 48) (v' := .bool true) rfl (congrArg Value.bool (decide_eq_true (by first | rfl | decide))) ?_
  refine .rd (.pickT rfl rfl) ?_
  refine .rd (.move rfl) ?_
  refine .on (t := 50) rfl rfl ?_
  refine .rd (.move rfl) ?_
  refine .on (t := 50) rfl rfl ?_
  refine .rd (.eqI rfl rfl) ?_
  refine .alter (t := 52) (v' := .bool true) rfl (congrArg Value.bool (decide_eq_true (by first | rfl | decide))) ?_
  refine .rd (.pickT rfl rfl) ?_
  refine .rd (.move rfl) ?_
  refine .on (t := 54) rfl rfl ?_
  refine .rd (.move rfl) ?_
  refine .on (t := 54) rfl rfl ?_
  refine .rd (.eqI rfl rfl) ?_
  refine .alter (t := 56) (v' := .bool true) rfl (congrArg Value.bool (decide_eq_true (by first | rfl | decide))) ?_
  refine .rd (.pickT rfl rfl) ?_
  refine .rd (.move rfl) ?_
  refine .on (t := 58) rfl rfl ?_
  refine .rd (.move rfl) ?_
  refine .on (t := 58) rfl rfl ?_
  refine .rd (.eqI rfl rfl) ?_
  refine .alter (t := 60) (v' := .bool true) rfl (congrArg Value.bool (decide_eq_true (by first | rfl | decide))) ?_
  refine .rd (.pickT rfl rfl) ?_
  refine .rd (.move rfl) ?_
  refine .on (t := 62) rfl rfl ?_
  refine .rd (.move rfl) ?_
  refine .on (t := 62) rfl rfl ?_
  refine .rd (.lenT rfl rfl Try.underlying9 rfl) ?_
  refine .on (t := 62) rfl rfl ?_
  refine .rd (.eqI rfl rfl) ?_
  refine .alter (t := 65) (v' := .bool true) rfl (by rw [decide_eq_true (by omega)]) ?_
  refine .rd (.pickT rfl rfl) ?_
  refine .rd (.move rfl) ?_
  refine .on (t := 67) rfl rfl ?_
  refine .rd (.move rfl) ?_
  refine .on (t := 67) rfl rfl ?_
  refine .rd (.sliceT (l := s) (a := 8) (h := s.length) Try.underlying9 rfl ⟨_, rfl⟩ rfl (by omega) (by omega)) ?_
  refine .alter (t := 69) (v' := .string (str [10, 0, 0, 0, 0, 2, 6, 2, 107, 0])) rfl (by rw [List.take_of_length_le (by rw [List.length_drop]; exact Nat.le_refl _), hd]) ?_
  refine .on (t := 67) rfl rfl ?_
  refine .rd (.eqT (m := [10, 0, 0, 0, 0, 2, 6, 2, 107, 0]) rfl rfl) ?_
  refine .alter (t := 70) (v' := .bool true) rfl (congrArg Value.bool (decide_eq_true (by first | rfl | decide))) ?_
  refine .rd (.pickT rfl rfl) ?_
  refine .rd (.move rfl) ?_
  refine .on (t := 72) rfl rfl ?_
  refine .rd (.move rfl) ?_
  refine .on (t := 72) rfl rfl ?_
  refine .rd (.eqI rfl rfl) ?_
  refine .alter (t := 74) (v' := .bool true) rfl (congrArg Value.bool (decide_eq_true (by first | rfl | decide))) ?_
  refine .rd (.pickT rfl rfl) ?_
  refine .rd (.move rfl) ?_
  refine .on (t := 76) rfl rfl ?_
  refine .rd (.move rfl) ?_
  refine .on (t := 76) rfl rfl ?_
  refine .rd (.eqI rfl rfl) ?_
  refine .alter (t := 78) (v' := .bool true) rfl (congrArg Value.bool (decide_eq_true (by first | rfl | decide))) ?_
  refine .rd (.pickT rfl rfl) ?_
  refine .rd (.move rfl) ?_
  refine .on (t := 80) rfl rfl ?_
  refine .rd (.fieldAddr fd27_0 rfl) ?_
  refine .on (t := 80) rfl rfl ?_
  refine .rd (.ld na3 rfl .head rfl) ?_
  refine .on (t := 80) rfl rfl ?_
  refine .rd (.eqI rfl rfl) ?_
  refine .alter (t := 83) (v' := .bool true) rfl (congrArg Value.bool (decide_eq_true (by first | rfl | decide))) ?_
  refine .rd (.pickT rfl rfl) ?_
  refine .rd (.move rfl) ?_
  refine .on (t := 85) rfl rfl ?_
  refine .rd (.fieldAddr fd27_5 rfl) ?_
  refine .on (t := 85) rfl rfl ?_
  refine .rd (.ld na25 rfl .head rfl) ?_
  refine .on (t := 85) rfl rfl ?_
  refine .rd (.lenL rfl rfl Try.underlying25 rfl) ?_
  refine .on (t := 85) rfl rfl ?_
  refine .rd (.eqI rfl rfl) ?_
  refine .alter (t := 89) (v' := .bool true) rfl (congrArg Value.bool (decide_eq_true (by first | rfl | decide))) ?_
  refine .rd (.pickT rfl rfl) ?_
  refine .rd (.assign rfl) ?_
  refine .nil ?_
  refine .retP Try.func13 (.cons (.tmp rfl) .nil) (.cons (.tail (.tail (.tail .head))) .nil) ?_
  exact ⟨[], ⟨rfl, rfl⟩, rfl⟩

end Go.Proofs.Ytllpkagplfmlbaa


namespace Go.Proofs.Ytllpkagplfmlbaa
open Go Go.Sp

set_option linter.unusedVariables false

namespace wire22
theorem ia27 : IsAgg Try.prog 27 := ⟨_, Try.underlying27, trivial⟩
theorem ts27 : TS Try.prog 27 6 := .of (by kernel_rfl)
theorem ti27 : TI Try.prog 27 6 64 (.agg #[.int .i64 0, .int .i64 0, .int .i64 0, .int .i64 0, .int .i64 0, .slice none 0 0]) := .of (by kernel_rfl)
theorem ts5 : TS Try.prog 5 1 := .of (by kernel_rfl)
theorem na5 : NotAgg Try.prog 5 := ⟨_, Try.underlying5, trivial⟩
theorem fd27_5 : FD Try.prog 27 5 5 := .of Try.underlying27 (by kernel_rfl)
theorem na25 : NotAgg Try.prog 25 := ⟨_, Try.underlying25, trivial⟩
end wire22
open wire22

theorem bcs_set (l : List UInt8) (j : Nat) (y : UInt8) : (bcs l).set j (Value.int .u8 (y.toNat : Int)) = bcs (l.set j y) := by unfold bcs; rw [List.map_set]
theorem bcs_at {l : List UInt8} {j : Nat} {x : UInt8} (h : l[j]? = some x) : (bcs l)[j]? = some (.int .u8 (x.toNat : Int)) := by unfold bcs; rw [List.getElem?_map, h]; rfl
theorem RowAt.one {b o : Nat} {cs : List Value} {w : World} (h : RowAt (some ⟨b, o, none⟩) cs w) {i : Nat} {v : Value} (hv : cs[i]? = some v) : CellsAt b (o + i) [v] w := by
  rcases h with rfl | ⟨b', o', e, h⟩
  · simp at hv
  · cases e; exact h.one hv

set_option maxHeartbeats 1000000 in
set_option maxRecDepth 20000 in
theorem WireTorn_ok (b : Bat) (a : Option Addr) (c : Nat) (at_ : Int) (by_ : UInt8) (hf : b.fits) (hat : i64 at_) : Cn Try.prog 4 [.agg (b.cells a c).toArray, .int .i64 at_, .int .u8 (by_.toNat : Int)] (RowAt a (b.recs.flatMap Rec.cells)) [] fun v G => v = .bool true ∧ G = [] := by
  refine .enter Try.func4 rfl (by kernel_rfl) rfl fun R k => ?_
  refine .seq ?_
  refine .region ?_
  refine .ef (.box (l := b.cells a c) rfl rfl (ones.of rfl)) ?_
  rintro _ _ ⟨b3, rfl, rfl⟩
  refine .rd (.assign rfl) ?_
  refine .nil ?_
  refine .seq ?_
  refine .region ?_
  refine .fn rfl rfl .nil (fun _ _ _ => trivial) (shown_ok) (fun v G1 hq => ?_)
  obtain ⟨rfl, rfl⟩ := hq
  simp only [List.nil_append]
  refine .rd (.assign rfl) ?_
  refine .nil ?_
  refine .seq ?_
  refine .region ?_
  refine .rd (.ldN ia27 ts27 rfl .head rfl) ?_
  refine .fn rfl rfl .nil (Knows.pick (.tail .head) k) (Batch_ok b a c hf) (fun v G1 hq => ?_)
  obtain ⟨rfl, rfl⟩ := hq
  simp only [List.nil_append]
  refine .rd (.move rfl) ?_
  refine .rd (.extract rfl rfl) ?_
  refine .rd (.extract rfl rfl) ?_
  refine .rd (.assign rfl) ?_
  refine .rd (.assign rfl) ?_
  refine .nil ?_
  refine .seq ?_
  refine .seq ?_
  refine .region ?_
  refine .rd (.move rfl) ?_
  refine .rd (.not rfl) ?_
  refine .rd (.move rfl) ?_
  refine .on (t := 27) rfl rfl ?_
  refine .rd (.move rfl) ?_
  refine .on (t := 27) rfl rfl ?_
  refine .rd (.neI rfl rfl) ?_
  refine .rd (.pickF rfl rfl) ?_
  refine .nil ?_
  refine .condN rfl (fun h3 => ?_) (fun h3 => ?_)
  · refine .seq ?_
    refine .region ?_
    refine .rd (.move rfl) ?_
    refine .rd (.move rfl) ?_
    refine .on (t := 32) rfl rfl ?_
    refine .rd (.move rfl) ?_
    refine .on (t := 32) rfl rfl ?_
    refine .rd (.eqT (m := []) rfl rfl) ?_
    refine .alter (t := 34) (v' := .bool true) rfl (congrArg Value.bool (decide_eq_true (wbatch_not h3))) ?_
    refine .rd (.pickT rfl rfl) ?_
    refine .rd (.assign rfl) ?_
    refine .nil ?_
    refine .retP Try.func4 (.cons (.tmp rfl) .nil) (.cons (.tail .head) .nil) ?_
    exact ⟨[], ⟨rfl, rfl⟩, rfl⟩
  · have hr : right b = 0 := by rw [← wbatch_err]; exact h3
    obtain ⟨hl1, hl2, hl3, hl4, hl5⟩ := wbatch_is hr
    have hrw := read_write hf hr []
    rw [List.append_nil] at hrw
    have hcut := fun k hk => torn_cut hr (k := k) hk
    have hset := fun k x hk h4 hx => torn_set hr (k := k) (x := x) hk h4 hx
    rw [h3]
    generalize (wbatch b).1 = s at hl1 hl2 hl3 hl4 hrw hcut hset ⊢
    obtain ⟨k1, hk1⟩ : ∃ k : Nat, pickN at_ (s.length : Int) = k := ⟨(pickN at_ (s.length : Int)).toNat, by have := pickN_nn (c := at_) (n := (s.length : Int)) (by omega); omega⟩
    have hk1l : k1 < s.length := by have := pickN_lt (c := at_) (n := (s.length : Int)) (by omega); omega
    obtain ⟨j, hj⟩ : ∃ j : Nat, 4 + pickN at_ ((s.length : Int) - 4) = j := ⟨(4 + pickN at_ ((s.length : Int) - 4)).toNat, by have := pickN_nn (c := at_) (n := (s.length : Int) - 4) (by omega); omega⟩
    have hj4 : 4 ≤ j := by have := pickN_nn (c := at_) (n := (s.length : Int) - 4) (by omega); omega
    have hjl : j < s.length := by have := pickN_lt (c := at_) (n := (s.length : Int) - 4) (by omega); omega
    obtain ⟨x, hx⟩ : ∃ x, s[j]? = some x := ⟨_, List.getElem?_eq_getElem hjl⟩
    refine .skip ?_
    refine .seq ?_
    refine .region ?_
    refine .rd (.move rfl) ?_
    refine .rd (.move rfl) ?_
    refine .rd (.move rfl) ?_
    refine .rd (.lenT rfl rfl Try.underlying9 rfl) ?_
    refine .fn rfl rfl .nil (fun _ _ _ => trivial) (pick_ok at_ (s.length : Int) hat (by omega)) (fun v G1 hq => ?_)
    obtain ⟨rfl, rfl⟩ := hq
    simp only [List.nil_append]
    refine .alter (t := 41) (v' := .int .i64 (k1 : Nat)) rfl (by rw [hk1]) ?_
    refine .rd (.sliceT (l := s) (a := 0) (h := k1) Try.underlying9 rfl rfl ⟨_, rfl⟩ (by omega) (by omega)) ?_
    refine .alter (t := 42) (v' := .string (str (s.take k1))) rfl (by rw [List.drop_zero, Nat.sub_zero]) ?_
    refine .fn rfl rfl .nil (fun _ _ _ => trivial) (ReadBatch_ok (s.take k1) (by rw [List.length_take]; omega)) (fun v G1 hq => ?_)
    obtain ⟨a1, c1, rfl, rfl⟩ := hq
    simp only [List.cons_append, List.nil_append]
    rw [hcut k1 hk1l]
    refine .rd (.move rfl) ?_
    refine .rd (.extract rfl rfl) ?_
    refine .rd (.extract rfl rfl) ?_
    refine .rd (.extract rfl rfl) ?_
    refine .ef (.alloc ti27 rfl (ones.of rfl)) ?_
    rintro _ _ ⟨b10, rfl, rfl⟩
    refine .ef0 (.storeAll (vs := zeroB.cells a1 c1) ts27 rfl rfl rfl .head rfl (ones.of rfl)) ?_
    rintro _ _ rfl
    refine .rd (.assign rfl) ?_
    refine .rd (.assign rfl) ?_
    refine .nil ?_
    refine .seq ?_
    refine .seq ?_
    refine .region ?_
    refine .rd (.move rfl) ?_
    refine .rd (.neI rfl rfl) ?_
    refine .alter (t := 48) (v' := .bool false) rfl (congrArg Value.bool (by first | rfl | decide)) ?_
    refine .rd (.move rfl) ?_
    refine .on (t := 49) rfl rfl ?_
    refine .rd (.move rfl) ?_
    refine .on (t := 49) rfl rfl ?_
    refine .rd (.neI rfl rfl) ?_
    refine .alter (t := 51) (v' := .bool false) rfl (congrArg Value.bool (by first | rfl | decide)) ?_
    refine .rd (.pickF rfl rfl) ?_
    refine .nil ?_
    refine .condF rfl ?_
    refine .skip ?_
    refine .seq ?_
    refine .region ?_
    refine .rd (.move rfl) ?_
    refine .rd (.move rfl) ?_
    refine .rd (.lenT rfl rfl Try.underlying9 rfl) ?_
    refine .rd (.sub rfl rfl (by omega) (by omega)) ?_
    refine .fn rfl rfl .nil (fun _ _ _ => trivial) (pick_ok at_ ((s.length : Int) - 4) hat (by omega)) (fun v G1 hq => ?_)
    obtain ⟨rfl, rfl⟩ := hq
    simp only [List.nil_append]
    refine .rd (.add rfl rfl (by omega) (by omega)) ?_
    refine .alter (t := 58) (v' := .int .i64 (j : Nat)) rfl (by rw [hj]) ?_
    refine .rd (.assign rfl) ?_
    refine .nil ?_
    refine .seq ?_
    refine .region ?_
    refine .rd (.move rfl) ?_
    refine .ef (.strToBytes Try.underlying9 Try.underlying34 Try.underlying5 rfl) ?_
    rintro _ _ ⟨lb, lc, rfl, rfl⟩
    refine .rd (.assign rfl) ?_
    refine .nil ?_
    refine .seq ?_
    refine .region ?_
    refine .rd (.move rfl) ?_
    refine .rd (.move rfl) ?_
    refine .rd (.move rfl) ?_
    refine .rd (.move rfl) ?_
    refine .rd (.indexAddr Try.underlying34 ts5 rfl rfl (by omega) (by omega)) ?_
    refine .alter (t := 65) (v' := .pointer (some ⟨lb, 0 + j, none⟩)) rfl (by rw [Int.toNat_natCast, Nat.mul_one]) ?_
    refine .rd (.load na5 rfl ((Knows.arr .head).mono fun _ h => RowAt.one h (bcs_at hx))) ?_
    refine .rd (.move rfl) ?_
    refine .rd (.xorU (k := .u8) (a := x.toBitVec) (b := by_.toBitVec) rfl rfl rfl) ?_
    refine .alter (t := 68) (v' := .int .u8 ((x ^^^ by_).toNat : Int)) rfl (rfl) ?_
    refine .rd (.indexAddr Try.underlying34 ts5 rfl rfl (by omega) (by omega)) ?_
    refine .alter (t := 69) (v' := .pointer (some ⟨lb, 0 + j, none⟩)) rfl (by rw [Int.toNat_natCast, Nat.mul_one]) ?_
    refine .ef0 (.storeArr (o := 0) (k := j) ts5 rfl rfl .head (by rw [bcs_len]; exact hjl)) ?_
    rintro _ _ rfl
    refine .nil ?_
    refine .cast (X' := arr 5 1 (some ⟨lb, 0, none⟩) lc (bcs (s.set j (x ^^^ by_)))) (by rw [bcs_set]) ?_
    refine .seq ?_
    refine .region ?_
    refine .rd (.move rfl) ?_
    refine .rd (.bytesToStr (l := s.set j (x ^^^ by_)) Try.underlying34 Try.underlying5 Try.underlying9 rfl (by rw [List.length_set]) (Knows.arr .head)) ?_
    refine .fn rfl rfl .nil (fun _ _ _ => trivial) (ReadBatch_ok (s.set j (x ^^^ by_)) (by rw [List.length_set]; omega)) (fun v G1 hq => ?_)
    obtain ⟨a2, c2, rfl, rfl⟩ := hq
    simp only [List.cons_append, List.nil_append]
    refine .rd (.move rfl) ?_
    refine .rd (.extract rfl rfl) ?_
    refine .rd (.extract rfl rfl) ?_
    refine .rd (.extract rfl rfl) ?_
    refine .ef (.alloc ti27 rfl (ones.of rfl)) ?_
    rintro _ _ ⟨b15, rfl, rfl⟩
    refine .ef0 (.storeAll (vs := Bat.cells (readBatch (s.set j (x ^^^ by_))).1 a2 c2) ts27 rfl rfl rfl .head rfl (ones.of rfl)) ?_
    rintro _ _ rfl
    refine .rd (.assign rfl) ?_
    refine .rd (.assign rfl) ?_
    refine .nil ?_
    refine .seq ?_
    refine .seq ?_
    refine .region ?_
    refine .rd (.move rfl) ?_
    refine .rd (.eqI rfl rfl) ?_
    refine .nil ?_
    refine .condP rfl (fun h12 => ?_) (fun h12 => ?_)
    · obtain rfl : by_ = 0 := UInt8.toNat_inj.1 (by show by_.toNat = 0; omega)
      have he : readBatch (s.set j (x ^^^ 0)) = (b, (s.length : Int), 0) := by
        rw [UInt8.xor_zero, show s.set j x = s from by rw [List.getElem?_eq_getElem hjl] at hx; cases hx; exact List.set_getElem_self hjl]; exact hrw
      rw [he]
      refine .seq ?_
      refine .region ?_
      refine .rd (.ldN ia27 ts27 rfl .head rfl) ?_
      refine .rd (.ldN ia27 ts27 rfl (.tail (.tail (.tail (.tail (.tail .head))))) rfl) ?_
      refine .fn rfl rfl .nil (fun A w h => ⟨(Knows.arr (.tail .head)) A w h, (Knows.pick (.tail (.tail (.tail (.tail (.tail (.tail .head)))))) k) A w h⟩) (same_ok b b a2 a c2 c (by have := hf.len; omega) (by have := hf.len; omega)) (fun v G1 hq => ?_)
      obtain ⟨r, rfl, hr, rfl⟩ := hq
      simp only [List.nil_append]
      obtain rfl : r = true := hr.2 rfl
      refine .rd (.assign rfl) ?_
      refine .nil ?_
      refine .seq ?_
      refine .region ?_
      refine .rd (.move rfl) ?_
      refine .rd (.move rfl) ?_
      refine .on (t := 83) rfl rfl ?_
      refine .rd (.move rfl) ?_
      refine .on (t := 83) rfl rfl ?_
      refine .rd (.move rfl) ?_
      refine .on (t := 83) rfl rfl ?_
      refine .rd (.lenT rfl rfl Try.underlying9 rfl) ?_
      refine .on (t := 83) rfl rfl ?_
      refine .rd (.eqI rfl rfl) ?_
      refine .alter (t := 87) (v' := .bool true) rfl (congrArg Value.bool (decide_eq_true (by first | rfl | decide))) ?_
      refine .rd (.pickT rfl rfl) ?_
      refine .rd (.move rfl) ?_
      refine .on (t := 89) rfl rfl ?_
      refine .rd (.move rfl) ?_
      refine .on (t := 89) rfl rfl ?_
      refine .rd (.eqI rfl rfl) ?_
      refine .alter (t := 91) (v' := .bool true) rfl (congrArg Value.bool (decide_eq_true (by first | rfl | decide))) ?_
      refine .rd (.pickT rfl rfl) ?_
      refine .rd (.assign rfl) ?_
      refine .nil ?_
      refine .retP Try.func4 (.cons (.tmp rfl) .nil) (.cons (.tail (.tail (.tail (.tail (.tail (.tail .head)))))) .nil) ?_
      exact ⟨[], ⟨rfl, rfl⟩, rfl⟩
    · have hb0 : by_ ≠ 0 := fun e => h12 (by rw [e]; rfl)
      have he : readBatch (s.set j (x ^^^ by_)) = (zeroB, 0, 6) := hset j _ hjl hj4 (by rw [List.getElem?_eq_getElem hjl] at hx; cases hx; exact xor_byte hb0)
      rw [he]
      refine .skip ?_
      refine .seq ?_
      refine .region ?_
      refine .rd (.fieldAddr fd27_5 rfl) ?_
      refine .rd (.ld na25 rfl .head rfl) ?_
      refine .rd (.lenL rfl rfl Try.underlying25 rfl) ?_
      refine .rd (.eqI rfl rfl) ?_
      refine .alter (t := 96) (v' := .bool true) rfl (congrArg Value.bool (decide_eq_true (by first | rfl | decide))) ?_
      refine .rd (.move rfl) ?_
      refine .on (t := 97) rfl rfl ?_
      refine .rd (.move rfl) ?_
      refine .on (t := 97) rfl rfl ?_
      refine .rd (.eqI rfl rfl) ?_
      refine .alter (t := 99) (v' := .bool true) rfl (congrArg Value.bool (decide_eq_true (by first | rfl | decide))) ?_
      refine .rd (.pickT rfl rfl) ?_
      refine .rd (.move rfl) ?_
      refine .on (t := 101) rfl rfl ?_
      refine .rd (.move rfl) ?_
      refine .on (t := 101) rfl rfl ?_
      refine .rd (.eqI rfl rfl) ?_
      refine .alter (t := 103) (v' := .bool true) rfl (congrArg Value.bool (decide_eq_true (by first | rfl | decide))) ?_
      refine .rd (.pickT rfl rfl) ?_
      refine .rd (.assign rfl) ?_
      refine .nil ?_
      refine .retP Try.func4 (.cons (.tmp rfl) .nil) (.cons (.tail (.tail (.tail (.tail (.tail (.tail .head)))))) .nil) ?_
      exact ⟨[], ⟨rfl, rfl⟩, rfl⟩

end Go.Proofs.Ytllpkagplfmlbaa


namespace Go.Proofs.Ytllpkagplfmlbaa
open Go Go.Sp

set_option linter.unusedVariables false

namespace rpc15
theorem ia54 : IsAgg Try.prog 54 := ⟨_, Try.underlying54, trivial⟩
theorem ts54 : TS Try.prog 54 21 := .of (by kernel_rfl)
theorem ti54 : TI Try.prog 54 21 232 (.agg #[.int .i64 0, .int .i64 0, .int .i64 0, .int .i64 0, .int .i64 0, .int .i64 0, .int .i64 0, .int .i64 0, .int .i64 0, .int .i64 0, .int .i64 0, .int .i64 0, .int .i64 0, .int .i64 0, .int .i64 0, .int .i64 0, .string ⟨#[]⟩, .string ⟨#[]⟩, .slice none 0 0, .slice none 0 0, .slice none 0 0]) := .of (by kernel_rfl)
theorem ts5 : TS Try.prog 5 1 := .of (by kernel_rfl)
theorem na5 : NotAgg Try.prog 5 := ⟨_, Try.underlying5, trivial⟩
theorem fd54_0 : FD Try.prog 54 0 0 := .of Try.underlying54 (by kernel_rfl)
theorem na3 : NotAgg Try.prog 3 := ⟨_, Try.underlying3, trivial⟩
end rpc15
open rpc15



set_option maxHeartbeats 1000000 in
set_option maxRecDepth 20000 in
theorem RpcTorn_ok (m : MsgM) (at_ : Int) (by_ : UInt8) (more : List UInt8) (hf : m.fits) (hat : i64 at_) (hmore : more.length ≤ 140737488351232) : Cn Try.prog 12 [.agg m.cells.toArray, .int .i64 at_, .int .u8 (by_.toNat : Int), .string (str more)] (fun w => m.at_ w) [] fun v G => v = .bool true ∧ G = [] := by
  refine .enter Try.func12 rfl (by kernel_rfl) rfl fun R k => ?_
  refine .seq ?_
  refine .region ?_
  refine .ef (.box (l := m.cells) rfl rfl (ones.of rfl)) ?_
  rintro _ _ ⟨b4, rfl, rfl⟩
  refine .rd (.assign rfl) ?_
  refine .nil ?_
  refine .seq ?_
  refine .region ?_
  refine .fn rfl rfl .nil (fun _ _ _ => trivial) (shown4_ok) (fun v G1 hq => ?_)
  obtain ⟨rfl, rfl⟩ := hq
  simp only [List.nil_append]
  refine .rd (.assign rfl) ?_
  refine .nil ?_
  refine .seq ?_
  refine .region ?_
  refine .rd (.ldN ia54 ts54 rfl .head rfl) ?_
  refine .fn rfl rfl .nil (Knows.pick (.tail .head) k) (Encode_ok m hf) (fun v G1 hq => ?_)
  obtain ⟨rfl, rfl⟩ := hq
  simp only [List.nil_append]
  refine .rd (.move rfl) ?_
  refine .rd (.extract rfl rfl) ?_
  refine .rd (.extract rfl rfl) ?_
  refine .rd (.assign rfl) ?_
  refine .rd (.assign rfl) ?_
  refine .nil ?_
  refine .seq ?_
  refine .seq ?_
  refine .region ?_
  refine .rd (.move rfl) ?_
  refine .rd (.not rfl) ?_
  refine .rd (.move rfl) ?_
  refine .on (t := 28) rfl rfl ?_
  refine .rd (.move rfl) ?_
  refine .on (t := 28) rfl rfl ?_
  refine .rd (.neI rfl rfl) ?_
  refine .rd (.pickF rfl rfl) ?_
  refine .nil ?_
  refine .condN rfl (fun h3 => ?_) (fun h3 => ?_)
  · refine .seq ?_
    refine .region ?_
    refine .rd (.move rfl) ?_
    refine .rd (.move rfl) ?_
    refine .on (t := 33) rfl rfl ?_
    refine .rd (.move rfl) ?_
    refine .on (t := 33) rfl rfl ?_
    refine .rd (.eqT (m := []) rfl rfl) ?_
    refine .alter (t := 35) (v' := .bool true) rfl (congrArg Value.bool (decide_eq_true (wmsg_not h3))) ?_
    refine .rd (.pickT rfl rfl) ?_
    refine .rd (.assign rfl) ?_
    refine .nil ?_
    refine .retP Try.func12 (.cons (.tmp rfl) .nil) (.cons (.tail .head) .nil) ?_
    exact ⟨[], ⟨rfl, rfl⟩, rfl⟩
  · have hr : right4 m.msg = 0 := by rw [← wmsg_err]; exact h3
    obtain ⟨hl1, hl2, hl3, hl4, hl5⟩ := wmsg_is hr
    have hrw := decode_write hf.msg hr
    have hcut := fun k hk => torn4_cut hr (k := k) hk
    have hmo := fun (mo : List UInt8) h => torn4_more hr (more := mo) h
    have hset := fun k x hk h4 hx => torn4_set hr (k := k) (x := x) hk h4 hx
    rw [h3]
    generalize (wmsg m.msg).1 = s at hl1 hl2 hl3 hl4 hrw hcut hmo hset ⊢
    obtain ⟨k1, hk1⟩ : ∃ k : Nat, pickN at_ (s.length : Int) = k := ⟨(pickN at_ (s.length : Int)).toNat, by have := pickN_nn (c := at_) (n := (s.length : Int)) (by omega); omega⟩
    have hk1l : k1 < s.length := by have := pickN_lt (c := at_) (n := (s.length : Int)) (by omega); omega
    obtain ⟨j, hj⟩ : ∃ j : Nat, 4 + pickN at_ ((s.length : Int) - 4) = j := ⟨(4 + pickN at_ ((s.length : Int) - 4)).toNat, by have := pickN_nn (c := at_) (n := (s.length : Int) - 4) (by omega); omega⟩
    have hj4 : 4 ≤ j := by have := pickN_nn (c := at_) (n := (s.length : Int) - 4) (by omega); omega
    have hjl : j < s.length := by have := pickN_lt (c := at_) (n := (s.length : Int) - 4) (by omega); omega
    obtain ⟨x, hx⟩ : ∃ x, s[j]? = some x := ⟨_, List.getElem?_eq_getElem hjl⟩
    refine .skip ?_
    refine .seq ?_
    refine .region ?_
    refine .rd (.move rfl) ?_
    refine .rd (.move rfl) ?_
    refine .rd (.move rfl) ?_
    refine .rd (.lenT rfl rfl Try.underlying9 rfl) ?_
    refine .fn rfl rfl .nil (fun _ _ _ => trivial) (pick4_ok at_ (s.length : Int) hat (by omega)) (fun v G1 hq => ?_)
    obtain ⟨rfl, rfl⟩ := hq
    simp only [List.nil_append]
    refine .alter (t := 42) (v' := .int .i64 (k1 : Nat)) rfl (by rw [hk1]) ?_
    refine .rd (.sliceT (l := s) (a := 0) (h := k1) Try.underlying9 rfl rfl ⟨_, rfl⟩ (by omega) (by omega)) ?_
    refine .alter (t := 43) (v' := .string (str (s.take k1))) rfl (by rw [List.drop_zero, Nat.sub_zero]) ?_
    refine .fn rfl rfl .nil (fun _ _ _ => trivial) (Decode_ok (s.take k1) (by rw [List.length_take]; omega)) (fun v G1 hq => ?_)
    obtain ⟨ma, rfl, hma, rfl⟩ := hq
    simp only [List.cons_append, List.nil_append]
    rw [hcut k1 hk1l]
    refine .rd (.move rfl) ?_
    refine .rd (.extract rfl rfl) ?_
    refine .rd (.extract rfl rfl) ?_
    refine .ef (.alloc ti54 rfl (ones.of rfl)) ?_
    rintro _ _ ⟨b12, rfl, rfl⟩
    refine .ef0 (.storeAll (vs := ma.cells) ts54 rfl rfl rfl .head rfl (ones.of rfl)) ?_
    rintro _ _ rfl
    refine .rd (.assign rfl) ?_
    refine .nil ?_
    refine .seq ?_
    refine .region ?_
    refine .rd (.move rfl) ?_
    refine .rd (.move rfl) ?_
    refine .rd (.catT rfl rfl (by omega)) ?_
    refine .fn rfl rfl .nil (fun _ _ _ => trivial) (Decode_ok (s ++ more) (by rw [List.length_append]; omega)) (fun v G1 hq => ?_)
    obtain ⟨mb, rfl, hmb, rfl⟩ := hq
    simp only [List.cons_append, List.nil_append]
    refine .rd (.move rfl) ?_
    refine .rd (.extract rfl rfl) ?_
    refine .rd (.extract rfl rfl) ?_
    refine .ef (.alloc ti54 rfl (ones.of rfl)) ?_
    rintro _ _ ⟨b14, rfl, rfl⟩
    refine .ef0 (.storeAll (vs := mb.cells) ts54 rfl rfl rfl .head rfl (ones.of rfl)) ?_
    rintro _ _ rfl
    refine .rd (.assign rfl) ?_
    refine .nil ?_
    refine .seq ?_
    refine .region ?_
    refine .rd (.move rfl) ?_
    refine .rd (.move rfl) ?_
    refine .rd (.lenT rfl rfl Try.underlying9 rfl) ?_
    refine .rd (.sub rfl rfl (by omega) (by omega)) ?_
    refine .fn rfl rfl .nil (fun _ _ _ => trivial) (pick4_ok at_ ((s.length : Int) - 4) hat (by omega)) (fun v G1 hq => ?_)
    obtain ⟨rfl, rfl⟩ := hq
    simp only [List.nil_append]
    refine .rd (.add rfl rfl (by omega) (by omega)) ?_
    refine .alter (t := 59) (v' := .int .i64 (j : Nat)) rfl (by rw [hj]) ?_
    refine .rd (.assign rfl) ?_
    refine .nil ?_
    refine .seq ?_
    refine .region ?_
    refine .rd (.move rfl) ?_
    refine .ef (.strToBytes Try.underlying9 Try.underlying34 Try.underlying5 rfl) ?_
    rintro _ _ ⟨lb, lc, rfl, rfl⟩
    refine .rd (.assign rfl) ?_
    refine .nil ?_
    refine .seq ?_
    refine .region ?_
    refine .rd (.move rfl) ?_
    refine .rd (.move rfl) ?_
    refine .rd (.move rfl) ?_
    refine .rd (.move rfl) ?_
    refine .rd (.indexAddr Try.underlying34 ts5 rfl rfl (by omega) (by omega)) ?_
    refine .alter (t := 66) (v' := .pointer (some ⟨lb, 0 + j, none⟩)) rfl (by rw [Int.toNat_natCast, Nat.mul_one]) ?_
    refine .rd (.load na5 rfl ((Knows.arr .head).mono fun _ h => RowAt.one h (bcs_at hx))) ?_
    refine .rd (.move rfl) ?_
    refine .rd (.xorU (k := .u8) (a := x.toBitVec) (b := by_.toBitVec) rfl rfl rfl) ?_
    refine .alter (t := 69) (v' := .int .u8 ((x ^^^ by_).toNat : Int)) rfl (rfl) ?_
    refine .rd (.indexAddr Try.underlying34 ts5 rfl rfl (by omega) (by omega)) ?_
    refine .alter (t := 70) (v' := .pointer (some ⟨lb, 0 + j, none⟩)) rfl (by rw [Int.toNat_natCast, Nat.mul_one]) ?_
    refine .ef0 (.storeArr (o := 0) (k := j) ts5 rfl rfl .head (by rw [bcs_len]; exact hjl)) ?_
    rintro _ _ rfl
    refine .nil ?_
    refine .cast (X' := arr 5 1 (some ⟨lb, 0, none⟩) lc (bcs (s.set j (x ^^^ by_)))) (by rw [bcs_set]) ?_
    refine .seq ?_
    refine .region ?_
    refine .rd (.move rfl) ?_
    refine .rd (.bytesToStr (l := s.set j (x ^^^ by_)) Try.underlying34 Try.underlying5 Try.underlying9 rfl (by rw [List.length_set]) (Knows.arr .head)) ?_
    refine .fn rfl rfl .nil (fun _ _ _ => trivial) (Decode_ok (s.set j (x ^^^ by_)) (by rw [List.length_set]; omega)) (fun v G1 hq => ?_)
    obtain ⟨mc, rfl, hmc, rfl⟩ := hq
    simp only [List.cons_append, List.nil_append]
    refine .rd (.move rfl) ?_
    refine .rd (.extract rfl rfl) ?_
    refine .rd (.extract rfl rfl) ?_
    refine .ef (.alloc ti54 rfl (ones.of rfl)) ?_
    rintro _ _ ⟨b18, rfl, rfl⟩
    refine .ef0 (.storeAll (vs := mc.cells) ts54 rfl rfl rfl .head rfl (ones.of rfl)) ?_
    rintro _ _ rfl
    refine .rd (.assign rfl) ?_
    refine .nil ?_
    refine .seq ?_
    refine .seq ?_
    refine .region ?_
    refine RunO.join 10 86 (false) ?_ ?_
    · refine .rd (.move rfl) ?_
      refine .rd (.neI rfl rfl) ?_
      refine .alter (t := 78) (v' := .bool false) rfl (congrArg Value.bool (by first | rfl | decide)) ?_
      refine .rd (.move rfl) ?_
      refine .on (t := 79) rfl rfl ?_
      refine .rd (.move rfl) ?_
      refine .on (t := 79) rfl rfl ?_
      refine .rd (.neT (m := []) rfl rfl) ?_
      refine .on (t := 79) rfl rfl ?_
      refine .rd (.move rfl) ?_
      refine .split (t := 82) rfl (fun g11 => ?_) (fun g11 => ?_)
      · refine .on (t := 82) rfl rfl ?_
        refine .rd (.move rfl) ?_
        refine .on (t := 82) rfl rfl ?_
        refine .rd (.neI rfl rfl) ?_
        refine .alter (t := 84) (v' := .bool false) rfl (by rw [hmo more (by simpa using g11)]; rfl) ?_
        refine .on (t := 79) rfl rfl ?_
        refine .rd (.pickT rfl rfl) ?_
        refine .rd (.pickF rfl rfl) ?_
        refine .nil ⟨rfl, ?_, by repeat (first | exact Le.refl _ | refine Le.skip rfl ?_)⟩
        exact congrArg (fun x => some (Value.bool x)) (rfl)
      · simp at g11
        refine .off (t := 82) rfl rfl rfl ?_
        refine .off (t := 82) rfl rfl rfl ?_
        refine .on (t := 79) rfl rfl ?_
        refine .rd (.pickF rfl rfl) ?_
        refine .rd (.pickF rfl rfl) ?_
        refine .nil ⟨rfl, ?_, by repeat (first | exact Le.refl _ | refine Le.skip rfl ?_)⟩
        exact congrArg (fun x => some (Value.bool x)) (rfl)
    refine .nil ?_
    refine .condF rfl ?_
    refine .skip ?_
    refine .seq ?_
    refine .seq ?_
    refine .region ?_
    refine .rd (.move rfl) ?_
    refine .rd (.eqI rfl rfl) ?_
    refine .nil ?_
    refine .condP rfl (fun h13 => ?_) (fun h13 => ?_)
    · obtain rfl : by_ = 0 := UInt8.toNat_inj.1 (by show by_.toNat = 0; omega)
      have he : decode4 (s.set j (x ^^^ 0)) = (m.msg, 0) := by
        rw [UInt8.xor_zero, show s.set j x = s from by rw [List.getElem?_eq_getElem hjl] at hx; cases hx; exact List.set_getElem_self hjl]; exact hrw
      rw [he]
      refine .seq ?_
      refine .region ?_
      refine .rd (.move rfl) ?_
      refine .rd (.eqI rfl rfl) ?_
      refine .alter (t := 90) (v' := .bool true) rfl (congrArg Value.bool (decide_eq_true (by first | rfl | decide))) ?_
      refine .rd (.assign rfl) ?_
      refine .nil ?_
      refine .retP Try.func12 (.cons (.tmp rfl) .nil) (.cons (.tail (.tail (.tail (.tail (.tail (.tail (.tail (.tail .head)))))))) .nil) ?_
      exact ⟨[], ⟨rfl, rfl⟩, rfl⟩
    · have hb0 : by_ ≠ 0 := fun e => h13 (by rw [e]; rfl)
      have he : decode4 (s.set j (x ^^^ by_)) = (zero4, 6) := hset j _ hjl hj4 (by rw [List.getElem?_eq_getElem hjl] at hx; cases hx; exact xor_byte hb0)
      rw [he] at hmc
      rw [he]
      refine .skip ?_
      refine .seq ?_
      refine .region ?_
      refine .rd (.move rfl) ?_
      refine .rd (.eqI rfl rfl) ?_
      refine .alter (t := 92) (v' := .bool true) rfl (congrArg Value.bool (decide_eq_true (by first | rfl | decide))) ?_
      refine .rd (.move rfl) ?_
      refine .on (t := 93) rfl rfl ?_
      refine .rd (.fieldAddr fd54_0 rfl) ?_
      refine .on (t := 93) rfl rfl ?_
      refine .rd (.ld na3 rfl .head rfl) ?_
      refine .on (t := 93) rfl rfl ?_
      refine .rd (.eqI rfl rfl) ?_
      refine .alter (t := 96) (v' := .bool true) rfl (by rw [show mc.kind = 0 from congrArg Msg.kind hmc]; rfl) ?_
      refine .rd (.pickT rfl rfl) ?_
      refine .rd (.assign rfl) ?_
      refine .nil ?_
      refine .retP Try.func12 (.cons (.tmp rfl) .nil) (.cons (.tail (.tail (.tail (.tail (.tail (.tail (.tail (.tail .head)))))))) .nil) ?_
      exact ⟨[], ⟨rfl, rfl⟩, rfl⟩

end Go.Proofs.Ytllpkagplfmlbaa

