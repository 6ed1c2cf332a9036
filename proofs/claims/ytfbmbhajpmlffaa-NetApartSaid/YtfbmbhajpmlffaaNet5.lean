/- Steps through functions of the program, under conditions that each theorem states (part net5 of a claim). -/
import Derived.Test.YtfbmbhajpmlffaaProg
import Derived.Test.YtfbmbhajpmlffaaL9
import Derived.Test.YtfbmbhajpmlffaaDefs
import Derived.Test.YtfbmbhajpmlffaaNet4
import Derived.Test.YtfbmbhajpmlffaaNet3
import Derived.Test.YtfbmbhajpmlffaaNet1
namespace Go.Proofs.Ytfbmbhajpmlffaa
open Go Go.Sp

set_option linter.unusedVariables false

namespace net5
theorem ti32 : TI Try.prog 32 21 232 (.agg #[.int .i64 0, .int .i64 0, .int .i64 0, .int .i64 0, .int .i64 0, .int .i64 0, .int .i64 0, .int .i64 0, .int .i64 0, .int .i64 0, .int .i64 0, .int .i64 0, .int .i64 0, .int .i64 0, .int .i64 0, .int .i64 0, .string ⟨#[]⟩, .string ⟨#[]⟩, .slice none 0 0, .slice none 0 0, .slice none 0 0]) := .of (by kernel_rfl)
theorem ia32 : IsAgg Try.prog 32 := ⟨_, Try.underlying32, trivial⟩
theorem ts32 : TS Try.prog 32 21 := .of (by kernel_rfl)
theorem fd55_0 : FD Try.prog 55 0 0 := .of Try.underlying55 (by kernel_rfl)
theorem na42 : NotAgg Try.prog 42 := ⟨_, Try.underlying42, trivial⟩
theorem ts42 : TS Try.prog 42 1 := .of (by kernel_rfl)
theorem fd57_0 : FD Try.prog 57 0 0 := .of Try.underlying57 (by kernel_rfl)
end net5
open net5

theorem owms_out {ps : List Pm} {j : Nat} {p : Pm} (h : ps[j]? = some p) : ∀ k, sat (owms ps) k → ∃ _ : Unit, True ∧ sat [owm p.1 p.2, sat (owms (ps.eraseIdx j))] k :=
  fun _ H => ⟨(), trivial, sat.out (fun p : Pm => owm p.1 p.2) ps j p h H⟩
theorem arr_len_knows {Γ Γ' : List SProp} {e s a cap cs} (p : Pick (arr e s a cap cs) Γ Γ') : Knows Γ fun _ => cs.length ≤ cap * s := fun A w h => (h.map fun _ => p.sat).arr_len.1
def zeroM : Msg := ⟨toS 0 0 0, [], [], []⟩
def zeroP : Pm := (zeroM, ⟨none, 0, none, 0, none, 0, []⟩)
theorem sat.emb_cons {X : SProp} {Γ h} (hx : X fun _ => none) (H : sat Γ h) : sat (X :: Γ) h := ⟨fun _ => none, h, fun _ => .inl rfl, fun _ _ e => by simp at e, .refl _, hx, H⟩
theorem owm_zero (h : Hp) : owm zeroP.1 zeroP.2 h :=
  sat.emb_cons rfl (sat.emb_cons (.inl ⟨rfl, rfl⟩) (sat.emb_cons (.inl ⟨rfl, rfl⟩) (sat.emb_cons (.inl ⟨rfl, rfl⟩) trivial)))
def TakeR (ps : List Pm) (i : Int) (ps' : List Pm) (p : Pm) (ok : Bool) : Prop :=
  (ok = true ∧ ∃ j : Nat, i = j ∧ ps[j]? = some p ∧ ps' = ps.eraseIdx j) ∨ (ok = false ∧ (i < 0 ∨ ps.length ≤ i) ∧ ps' = ps ∧ p = zeroP)
def Taken (n : Nat) (ps : List Pm) (pt : Pt) (i : Int) (v : Value) (G : List SProp) : Prop :=
  ∃ ps' p ok, TakeR ps i ps' p ok ∧ v = .tuple #[.agg (mval p.1 p.2).toArray, .bool ok] ∧ G = [net n ps' pt, owm p.1 p.2]

theorem take_ok (n ps pt) (i : Int) (hps : ps.length ≤ 500) : Cn Try.prog 31 [.pointer (some ⟨n, 0, none⟩), .int .i64 i] (fun _ => True) [net n ps pt] fun v G => Taken n ps pt i v G := by
  refine .enter Try.func31 rfl (by kernel_rfl) rfl fun R k => ?_
  refine .open_ .head net_open (fun x _ => ?_)
  obtain ⟨sa, sc, mb⟩ := x
  simp only [List.cons_append, List.nil_append]
  refine .seq ?_
  refine .region ?_   -- R0 network.go:18
  refine .ef (.alloc ti32 rfl (ones.of rfl)) ?_
  rintro _ _ ⟨b4, rfl, rfl⟩
  refine .rd (.assign rfl) ?_
  refine .nil ?_
  refine .seq ?_
  refine .region ?_   -- R1 network.go:19
  refine .ef (.alloc ti32 rfl (ones.of rfl)) ?_
  rintro _ _ ⟨b6, rfl, rfl⟩
  refine .nil ?_
  refine .seq ?_
  refine .seq ?_
  refine .region ?_   -- R2 network.go:20
  refine .rd (.move rfl) ?_
  refine .rd (.lt rfl rfl) ?_
  refine .rd (.move rfl) ?_
  refine .split (t := 10) rfl (fun g2_2 => ?_) (fun g2_2 => ?_)
  · replace g2_2 := of_decide_eq_true g2_2
    refine .off (t := 10) rfl rfl rfl ?_
    refine .off (t := 10) rfl rfl rfl ?_
    refine .off (t := 10) rfl rfl rfl ?_
    refine .off (t := 10) rfl rfl rfl ?_
    refine .off (t := 10) rfl rfl rfl ?_
    refine .off (t := 10) rfl rfl rfl ?_
    refine .off (t := 10) rfl rfl rfl ?_
    refine .rd (.pickT rfl rfl) ?_
    refine .nil ?_
    refine .condT rfl ?_
    refine .seq ?_
    refine .region ?_   -- R3 network.go:21
    refine .rd (.ldN ia32 ts32 rfl .head rfl) ?_
    refine .ef0 (.storeAll ts32 rfl rfl rfl (.tail .head) rfl (ones.of rfl)) ?_
    rintro _ _ rfl
    refine .rd (.assign rfl) ?_
    refine .nil ?_
    refine .close (.cons (.tail (.tail .head)) (.cons (.tail (.tail .head)) (.cons (.tail (.tail .head)) (.cons (.tail (.tail .head)) .nil)))) (net_close _ _ _) ?_
    refine .nothing ?_
    refine .close (.cons .head .nil) (fun h _ => owm_zero h) ?_
    refine .retP Try.func31 (.cons (.blkN ia32 ts32 rfl (.tail (.tail .head)) rfl) (.cons (.tmp rfl) .nil)) (.cons (.tail .head) (.cons .head (.cons (.tail (.tail .head)) .nil))) ?_
    exact ⟨[_, _], ⟨ps, zeroP, false, .inr ⟨rfl, by omega, rfl, rfl⟩, rfl, rfl⟩, rfl⟩
  · replace g2_2 := of_decide_eq_false g2_2
    refine .on (t := 10) rfl rfl ?_
    refine .rd (.move rfl) ?_
    refine .on (t := 10) rfl rfl ?_
    refine .rd (.move rfl) ?_
    refine .on (t := 10) rfl rfl ?_
    refine .rd (.nilCheck rfl) ?_
    refine .on (t := 10) rfl rfl ?_
    refine .rd (.fieldAddr fd55_0 rfl) ?_
    refine .on (t := 10) rfl rfl ?_
    refine .rd (.ld na42 rfl (.tail (.tail .head)) rfl) ?_
    refine .on (t := 10) rfl rfl ?_
    refine .rd (.lenL rfl rfl Try.underlying42 rfl) ?_
    refine .on (t := 10) rfl rfl ?_
    refine .rd (.ge rfl rfl) ?_
    refine .rd (.pickF rfl rfl) ?_
    refine .nil ?_
    refine .condP rfl (fun c2 => ?_) (fun c2 => ?_)
    · refine .seq ?_
      refine .region ?_   -- R3 network.go:21
      refine .rd (.ldN ia32 ts32 rfl .head rfl) ?_
      refine .ef0 (.storeAll ts32 rfl rfl rfl (.tail .head) rfl (ones.of rfl)) ?_
      rintro _ _ rfl
      refine .rd (.assign rfl) ?_
      refine .nil ?_
      refine .close (.cons (.tail (.tail .head)) (.cons (.tail (.tail .head)) (.cons (.tail (.tail .head)) (.cons (.tail (.tail .head)) .nil)))) (net_close _ _ _) ?_
      refine .nothing ?_
      refine .close (.cons .head .nil) (fun h _ => owm_zero h) ?_
      refine .retP Try.func31 (.cons (.blkN ia32 ts32 rfl (.tail (.tail .head)) rfl) (.cons (.tmp rfl) .nil)) (.cons (.tail .head) (.cons .head (.cons (.tail (.tail .head)) .nil))) ?_
      exact ⟨[_, _], ⟨ps, zeroP, false, .inr ⟨rfl, by omega, rfl, rfl⟩, rfl, rfl⟩, rfl⟩
    · refine .skip ?_
      refine .seq ?_
      obtain ⟨j, rfl⟩ : ∃ j : Nat, i = j := ⟨i.toNat, by omega⟩
      have hj : j < ps.length := by omega
      obtain ⟨p, hp⟩ : ∃ p, ps[j]? = some p := ⟨_, List.getElem?_eq_getElem hj⟩
      have hfl : (ps.flatMap pcell).length = ps.length * 21 := flat_length pcell_len ps
      refine .tell (φ := ∃ b o, sa = some ⟨b, o, none⟩) ((Knows.arr (.tail (.tail (.tail .head)))).mono fun _ h => h.addr (by omega)) (fun hx => ?_)
      obtain ⟨bb, oo, rfl⟩ := hx
      refine .tell (arr_len_knows (.tail (.tail (.tail .head)))) (fun hcap => ?_)
      refine .region ?_   -- R4 network.go:23
      refine .rd (.move rfl) ?_
      refine .rd (.nilCheck rfl) ?_
      refine .rd (.fieldAddr fd55_0 rfl) ?_
      refine .rd (.ld na42 rfl (.tail (.tail .head)) rfl) ?_
      refine .rd (.move rfl) ?_
      refine .rd (.indexAddr Try.underlying42 ts32 rfl rfl (by omega) (by omega)) ?_
      refine .rd (.loadN ia32 ts32 rfl rfl (Knows.elem pcell_len (by decide) (Knows.arr (.tail (.tail (.tail .head)))) hp)) ?_
      refine .ef (.alloc ti32 rfl (ones.of rfl)) ?_
      rintro _ _ ⟨b7, rfl, rfl⟩
      refine .ef0 (.storeAll (vs := mval p.1 p.2) ts32 rfl rfl rfl .head rfl (ones.of rfl)) ?_
      rintro _ _ rfl
      refine .nil ?_
      refine .seq ?_
      refine .region ?_   -- R5 network.go:24
      refine .rd (.move rfl) ?_
      refine .rd (.move rfl) ?_
      refine .rd (.nilCheck rfl) ?_
      refine .rd (.fieldAddr fd55_0 rfl) ?_
      refine .rd (.ld na42 rfl (.tail (.tail (.tail .head))) rfl) ?_
      refine .rd (.move rfl) ?_
      refine .rd (.move rfl) ?_
      refine .rd (.add rfl rfl (by omega) (by omega)) ?_
      refine .fn rfl rfl (.cons (.tail (.tail (.tail (.tail .head)))) .nil) (fun _ _ _ => trivial) (Delete_ok (some ⟨bb, oo, none⟩) sc ps j hj (by omega) (by omega)) (fun v G1 hq => ?_)
      obtain ⟨rfl, rfl⟩ := hq
      simp only [List.cons_append, List.nil_append]
      refine .rd (.nilCheck rfl) ?_
      refine .rd (.fieldAddr fd55_0 rfl) ?_
      refine .ef0 (.store ts42 rfl rfl (.tail (.tail (.tail (.tail .head)))) rfl (Nat.le_of_ble_eq_true rfl)) ?_
      rintro _ _ rfl
      refine .nil ?_
      refine .open_ (.tail (.tail (.tail (.tail (.tail .head))))) (owms_out hp) (fun _ _ => ?_)
      simp only [List.cons_append, List.nil_append]
      refine .close (X := net n (ps.eraseIdx j) pt) (.cons (.tail (.tail .head)) (.cons (.tail (.tail .head)) (.cons (.tail .head) (.cons (.tail (.tail (.tail (.tail .head)))) .nil)))) (fun h H => net_close (ps := ps.eraseIdx j) (some ⟨bb, oo, none⟩) sc mb h (by rw [List.length_eraseIdx_of_lt hj]; exact H)) ?_
      refine .seq ?_
      refine .region ?_   -- R6 network.go:25
      refine .rd (.ldN ia32 ts32 rfl (.tail (.tail .head)) rfl) ?_
      refine .ef0 (.storeAll (vs := mval p.1 p.2) ts32 rfl rfl rfl (.tail (.tail (.tail (.tail .head)))) rfl (ones.of rfl)) ?_
      rintro _ _ rfl
      refine .rd (.assign rfl) ?_
      refine .nil ?_
      refine .retP Try.func31 (.cons (.blkN ia32 ts32 rfl .head rfl) (.cons (.tmp rfl) .nil)) (.cons (.tail .head) (.cons (.tail .head) (.cons (.tail (.tail (.tail .head))) .nil))) ?_
      exact ⟨[_, _], ⟨_, p, true, .inl ⟨rfl, j, rfl, hp, rfl⟩, rfl, rfl⟩, rfl⟩

theorem Take_ok (n ps pt) (i : Int) (hps : ps.length ≤ 500) : Cn Try.prog 13 [.pointer (some ⟨n, 0, none⟩), .int .i64 i] (fun _ => True) [net n ps pt] fun v G => Taken n ps pt i v G := by
  refine .enter Try.func13 rfl (by kernel_rfl) rfl fun R k => ?_
  refine .seq ?_
  refine .region ?_   -- R0 network.go:67
  refine .ef (.alloc ti32 rfl (ones.of rfl)) ?_
  rintro _ _ ⟨b4, rfl, rfl⟩
  refine .rd (.assign rfl) ?_
  refine .nil ?_
  refine .seq ?_
  refine .region ?_   -- R1 network.go:67
  refine .rd (.move rfl) ?_
  refine .rd (.nilCheck rfl) ?_
  refine .rd (.fieldAddr fd57_0 rfl) ?_
  refine .rd (.move rfl) ?_
  refine .fn rfl rfl (.cons (.tail .head) .nil) (fun _ _ _ => trivial) (take_ok n ps pt i hps) (fun v G1 hq => ?_)
  obtain ⟨ps', p, ok, hT, rfl, rfl⟩ := hq
  simp only [List.cons_append, List.nil_append]
  refine .rd (.extract rfl rfl) ?_
  refine .rd (.extract rfl rfl) ?_
  refine .ef0 (.storeAll (vs := mval p.1 p.2) ts32 rfl rfl rfl (.tail (.tail .head)) rfl (ones.of rfl)) ?_
  rintro _ _ rfl
  refine .rd (.assign rfl) ?_
  refine .nil ?_
  refine .retP Try.func13 (.cons (.blkN ia32 ts32 rfl .head rfl) (.cons (.tmp rfl) .nil)) (.cons (.tail .head) (.cons (.tail .head) (.cons (.tail .head) .nil))) ?_
  exact ⟨[_, _], ⟨ps', p, ok, hT, rfl, rfl⟩, rfl⟩

end Go.Proofs.Ytfbmbhajpmlffaa

