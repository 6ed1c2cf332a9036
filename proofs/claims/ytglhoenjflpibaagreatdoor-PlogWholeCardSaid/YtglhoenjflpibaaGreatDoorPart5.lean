/- Part 5 of a claim's texts: rules for the machine's steps, and steps through functions of the program, under the conditions that each theorem states. -/
import Derived.WalkKit
import Derived.ProofKit
import Derived.OpenShut
import Derived.ShutString
import Derived.ChangeOld
import Derived.Below
import Derived.SizedLaws
import Derived.Carry
import Derived.LaidLaws
import Derived.Lib.LaidTab
import Derived.Stop.LaidErr
import Derived.MakeChecks
import Derived.Shelf.Vars
import Derived.FnData
import Derived.Test.YtglhoenjflpibaaGreatDoorPart0
import Derived.Test.YtglhoenjflpibaaGreatDoorPart1
set_option linter.unusedVariables false
/- A separation logic over the given machine. Part 10: what a statement's arguments are, and a law's row out of its contract. -/
namespace Go.Sp
open Go Go.ChangeShapes Go.WideShapes Go.ChangeAt Go.RowKit

section
variable {H : Type} {enc : TypeId × Value → H} {P : Program} {W : World} {spare : Nat → Bool} {held : Bool}

/-- Every string, slice and map of a reading fits into memory. -/
def Fits (P : Program) (t : TypeId) (d : DataW H) : Prop := ∀ n ∈ d.weights P t, n ≤ 140737488351232

/-- What a reading of type t tells: its cells are those of one of α. -/
def Rd {α : Type} (enc : TypeId × Value → H) (P : Program) (W : World) (spare : Nat → Bool) (held : Bool) (t : TypeId) (cells : α → List Value) (good : α → Prop) : Prop :=
  ∀ (n : Nat) (cs : List Value) (x : DataW H × List MemPlace), DataW.trod enc P W 0 spare held n t cs = some x → Fits P t x.1 → ∃ a, cs = cells a ∧ good a

theorem Rd.int {t} {k : IntKind} (ht : P.underlying t = some (.int k)) : Rd enc P W spare held t (fun n : Int => [.int k n]) (fun n => (Lit.int k n).wf = true) := fun n cs x h _ => by
  obtain ⟨m, rfl, _, hw⟩ := DataW.trod_int ht h
  exact ⟨m, rfl, hw⟩
theorem Rd.bool {t} (ht : P.underlying t = some .bool) : Rd enc P W spare held t (fun b : Bool => [.bool b]) (fun _ => True) := fun n cs x h _ => by
  obtain ⟨m, rfl, _⟩ := DataW.trod_bool ht h
  exact ⟨m, rfl, trivial⟩
theorem Rd.string {t} (ht : P.underlying t = some .string) : Rd enc P W spare held t (fun s : ByteArray => [.string s]) (fun s => s.size ≤ 140737488351232) := fun n cs x h hf => by
  obtain ⟨s, rfl, rfl, _⟩ := DataW.trod_string ht h
  refine ⟨s, rfl, ?_⟩
  have := hf s.data.toList.length (by simp [DataW.weights])
  simpa using this

theorem weightsAll_mem {e : TypeId} {l : List (DataW H)} {d : DataW H} (hd : d ∈ l) {n : Nat} (hn : n ∈ d.weights P e) : n ∈ DataW.weightsAll P e l := by
  induction l with
  | nil => cases hd
  | cons y l ih =>
    rw [DataW.weightsAll, List.mem_append]
    rcases List.mem_cons.1 hd with rfl | h
    · exact .inl hn
    · exact .inr (ih h)
theorem weightsEach_mem {n : Nat} {t : TypeId} {d : DataW H} (hn : n ∈ d.weights P t) : ∀ {ts : List TypeId} {l : List (DataW H)} {i : Nat}, ts[i]? = some t → l[i]? = some d → n ∈ DataW.weightsEach P ts l
  | [], _, _, h, _ => by simp at h
  | _ :: _, [], _, _, h => by simp at h
  | u :: ts, y :: l, 0, h, k => by
    simp at h k; subst h k
    rw [DataW.weightsEach.eq_def]; simp only [List.mem_append]; exact .inl hn
  | u :: ts, y :: l, i + 1, h, k => by
    rw [DataW.weightsEach.eq_def]; simp only [List.mem_append]
    exact .inr (weightsEach_mem hn (ts := ts) (l := l) (i := i) (by simpa using h) (by simpa using k))

/-- One field of a struct. -/
theorem Rd.field {α : Type} {t ft : TypeId} {cells : α → List Value} {good : α → Prop} {fs : Array Field} {n : Nat} {cs : List Value} {x : DataW H × List MemPlace} (ht : P.underlying t = some (.struct fs))
    (h : DataW.trod enc P W 0 spare held n t cs = some x) (hf : Fits P t x.1) (i off sz : Nat) (hi : (fs[i]?).map (fun d => (d.type, d.offset)) = some (ft, off)) (hc : P.cellsOf ft = sz) (r : Rd enc P W spare held ft cells good) :
    ∃ a, (cs.drop off).take sz = cells a ∧ good a := by
  obtain ⟨xs, m, rfl, rfl, hl, hx, hall⟩ := DataW.trod_struct ht h
  cases hfi : fs[i]? with
  | none => simp [hfi] at hi
  | some f =>
    simp [hfi] at hi
    obtain ⟨rfl, rfl⟩ := hi
    have h1 := hall i f hfi
    rw [hc] at h1
    have hlt : i < xs.length := by rw [hx]; exact (Array.getElem?_eq_some_iff.1 hfi).1
    have h2 : xs[i]? = some xs[i] := List.getElem?_eq_getElem hlt
    rw [h2] at h1
    refine r m _ _ h1 fun w hw => hf w ?_
    rw [DataW.weights.eq_def]
    simp only [ht]
    exact weightsEach_mem hw (i := i) (by simp [hfi]) (by simp [h2])

theorem Rd.structLen {t : TypeId} {fs : Array Field} {n : Nat} {cs : List Value} {x : DataW H × List MemPlace} (ht : P.underlying t = some (.struct fs)) (h : DataW.trod enc P W 0 spare held n t cs = some x) : cs.length = P.cellsOf t := by
  obtain ⟨xs, m, rfl, rfl, hl, hx, hall⟩ := DataW.trod_struct ht h
  exact hl

theorem cons_of_len {l : List Value} {n : Nat} (h : l.length = n + 1) : ∃ a t, l = a :: t ∧ t.length = n := by
  cases l with
  | nil => simp at h
  | cons a t => exact ⟨a, t, rfl, by simpa using h⟩

/-- A slice. -/
theorem Rd.slice {α : Type} {t e : TypeId} {s by_ : Nat} {cells : α → List Value} {good : α → Prop} (ht : P.underlying t = some (.slice e)) (hs : P.cellsOf e = s) (hs0 : 0 < s) (hby : P.bytesOf e = by_) (hlen : ∀ a, (cells a).length = s) (hone : ∀ a, ones (cells a))
    (r : Rd enc P W spare held e cells good) :
    Rd enc P W spare held t (fun y : Option Addr × Nat × List α => [.slice y.1 y.2.2.length y.2.1]) (fun y => RowAt y.1 (y.2.2.flatMap cells) W ∧ (∀ a ∈ y.2.2, good a) ∧ y.2.2.length * by_ ≤ 140737488351232 ∧ (y.1 = none → y.2.2 = []) ∧ y.2.2.length ≤ y.2.1) := by
  intro n cs x h hf
  rcases DataW.trod_slice ht h with ⟨rfl, _⟩ | ⟨a, len, cap, elems, rest, m, rfl, rfl, rfl, _, hlc, hcm, hel, heach, _, _⟩
  · exact ⟨(none, 0, []), rfl, .inl rfl, fun _ h => (by cases h), by show 0 * by_ ≤ _; omega, fun _ => rfl, Nat.le_refl _⟩
  · have hw : DataW.weights P t (.slice (elems.map (·.1)) (rest.map (·.1))) = (elems.length + rest.length) * by_ :: (DataW.weightsAll P e (elems.map (·.1)) ++ DataW.weightsAll P e (rest.map (·.1))) := by
      rw [DataW.weights.eq_def]; simp only [ht, hby, List.length_map]
    have hb : len * by_ ≤ 140737488351232 := by
      have h1 := hf _ (by rw [hw]; exact List.mem_cons_self)
      have h2 : len * by_ ≤ (elems.length + rest.length) * by_ := Nat.mul_le_mul_right _ (by omega)
      omega
    have each : ∀ i : Fin len, ∃ y : α, W.cells? 0 (a.add (i * s)) s = some (cells y) ∧ good y := fun i => by
      have h1 := heach i i.2
      rw [hs] at h1
      have hi : (i : Nat) < elems.length := by omega
      rw [List.getElem?_eq_getElem hi, Option.bind_eq_some_iff] at h1
      obtain ⟨cs', hc, hd⟩ := h1
      obtain ⟨y, rfl, hy⟩ := r _ _ _ hd fun w hw' => hf w (by
        rw [hw]
        exact List.mem_cons_of_mem _ (List.mem_append_left _ (weightsAll_mem (List.mem_map_of_mem (List.getElem_mem hi)) hw')))
      exact ⟨y, hc, hy⟩
    let f : Fin len → α := fun i => (each i).choose
    have hf1 : ∀ i : Fin len, W.cells? 0 (a.add (i * s)) s = some (cells (f i)) := fun i => (each i).choose_spec.1
    have hf2 : ∀ i : Fin len, good (f i) := fun i => (each i).choose_spec.2
    have hll : (List.ofFn f).length = len := List.length_ofFn
    refine ⟨(some a, cap, List.ofFn f), by show _ = [Value.slice (some a) (List.ofFn f).length cap]; rw [hll], ?_, ?_, by show (List.ofFn f).length * by_ ≤ _; rw [hll]; exact hb, fun h => (by cases h), by show (List.ofFn f).length ≤ cap; rw [hll]; exact hlc⟩
    · by_cases h0 : len = 0
      · left
        have : List.ofFn f = [] := List.eq_nil_of_length_eq_zero (by rw [hll, h0])
        rw [this]; rfl
      · right
        obtain ⟨_, _, hc0⟩ := World.cells?_some (hf1 ⟨0, by omega⟩)
        have hsp : a.spot = none := by
          have := hc0 0 hs0
          simp only [Nat.zero_mul] at this
          have hz : (cells (f ⟨0, by omega⟩))[0]? = some ((cells (f ⟨0, by omega⟩))[0]'(by rw [hlen]; exact hs0)) := List.getElem?_eq_getElem _
          rw [hz] at this
          simp only [Addr.add, if_true, World.cell?] at this
          split at this
          · split at this
            · cases this
            · simpa using ‹¬ a.spot.isSome = true›
          · cases this
        obtain ⟨b, o, sp⟩ := a
        cases hsp
        refine ⟨b, o, rfl, fun i v hv => ?_, ones.flatMap _ fun y _ => hone y⟩
        have hil : i < (List.ofFn f).length * s := by
          have := (List.getElem?_eq_some_iff.1 hv).1
          rwa [flat_length hlen] at this
        have hq : i / s < len := by rw [← hll]; exact Nat.div_lt_of_lt_mul (by rw [Nat.mul_comm]; exact hil)
        have hr : i % s < s := Nat.mod_lt _ hs0
        have hx : (List.ofFn f)[i / s]? = some (f ⟨i / s, hq⟩) := by rw [List.getElem?_ofFn]; simp [hq]
        obtain ⟨_, _, hc⟩ := World.cells?_some (hf1 ⟨i / s, hq⟩)
        have h1 := hc (i % s) hr
        have hv' : (cells (f ⟨i / s, hq⟩))[i % s]? = some v := by
          have hz : (cells (f ⟨i / s, hq⟩))[i % s]? = some ((cells (f ⟨i / s, hq⟩))[i % s]'(by rw [hlen]; exact hr)) := List.getElem?_eq_getElem _
          have h2 := flat_at hlen _ _ _ hx _ _ hz
          rw [show i / s * s + i % s = i by rw [Nat.mul_comm]; exact Nat.div_add_mod i s] at h2
          rw [h2] at hv
          rw [hz]; exact hv
        rw [hv'] at h1
        rw [Addr_add, Addr_add] at h1
        rw [← h1]
        congr 2
        have := Nat.div_add_mod i s
        rw [Nat.mul_comm] at this
        show o + i = o + i / s * s + i % s
        omega
    · intro y hy
      obtain ⟨i, rfl⟩ := List.mem_ofFn.1 hy
      exact hf2 i

end

theorem okWide_agg {P : Program} {w : World} {r : Reach} {b0 : Nat} {t : TypeId} {fs : Array Field} {v : Value} (ht : P.underlying t = some (.struct fs)) (h : Value.okWide P w r b0 t v) : ∃ cs, v = .agg cs := by
  unfold Value.okWide at h
  rw [ht] at h
  obtain ⟨cs, e, _⟩ := h
  exact ⟨cs, e⟩

/-! ### The row -/

theorem Sat.below {W w' : World} {Γ : List SProp} (h : Sat (amb W) w' (Sp.base W :: Γ)) : Below W.heap.size W w' := by
  have hb : ∀ (k : Nat) (o : Obj), W.heap[k]? = some o → w'.heap[k]? = some o := fun k o hk => h.base k o hk
  obtain ⟨ha, _⟩ := h
  refine ⟨congrArg Amb.os ha, congrArg Amb.tape ha, congrArg Amb.output ha, ?_, fun k hk => ?_⟩
  · by_cases h0 : W.heap.size = 0
    · omega
    · have hlt : W.heap.size - 1 < W.heap.size := by omega
      have h1 := hb (W.heap.size - 1) _ (Array.getElem?_eq_getElem hlt)
      have := (Array.getElem?_eq_some_iff.1 h1).1
      omega
  · have h1 : W.heap[k]? = some W.heap[k] := Array.getElem?_eq_getElem hk
    rw [hb k _ h1, h1]

/-- A law that is proved by a contract: from the memory at the start. -/
theorem Cn.law {P f} {args : List Value} {φ : World → Prop} {W : World} (h : Cn P f args φ [] fun v G => v = .bool true ∧ G = []) (hφ : ∀ w : World, (∀ (b : Nat) (o : Obj), W.heap[b]? = some o → w.heap[b]? = some o) → φ w) :
    Calls P f args.toArray W fun e w' => e = .returned (.bool true) ∧ Below W.heap.size W w' := by
  have h1 := (h (base W) fun A w s => hφ w fun b o hb => s.base b o hb).runs (amb W) [] W (by simpa using Sat.start W)
  refine h1.mono ?_
  rintro e w' ⟨v, Γ', rfl, ⟨Γ1, ⟨rfl, rfl⟩, rfl⟩, s⟩
  exact ⟨rfl, s.below⟩

/-- The same, with what the arguments tell known for good. -/
theorem Cn.lawK {P f} {args : List Value} {φ : World → Prop} {W : World} (h : Cn P f args (fun _ => True) [know φ] fun v G => v = .bool true ∧ G = []) (hφ : ∀ w : World, (∀ (b : Nat) (o : Obj), W.heap[b]? = some o → w.heap[b]? = some o) → φ w) :
    Calls P f args.toArray W fun e w' => e = .returned (.bool true) ∧ Below W.heap.size W w' := by
  have hs : Sat (amb W) W (([know φ] ++ [base W]) ++ []) := by
    have h1 : Sat (amb W) W ([base W] ++ [base W]) := (Sat.start W).map fun _ s => sat.base_dup s
    refine Sat.close (fun h s => ?_) h1
    obtain ⟨k, _, _, l, _, s, _⟩ := s
    obtain ⟨j, jl, jr, e⟩ := sat.base_know hφ s
    exact ⟨j, jl.trans l, jr, e⟩
  refine ((h (base W) fun _ _ _ => trivial).runs (amb W) [] W hs).mono ?_
  rintro e w' ⟨v, Γ', rfl, ⟨Γ1, ⟨rfl, rfl⟩, rfl⟩, s⟩
  exact ⟨rfl, s.below⟩

theorem RowAt.later {W w : World} (H : ∀ (b : Nat) (o : Obj), W.heap[b]? = some o → w.heap[b]? = some o) {a cs} (h : RowAt a cs W) : RowAt a cs w := by
  rcases h with h | ⟨b, o, e, h⟩
  · exact .inl h
  · refine .inr ⟨b, o, e, fun i v hv => ?_, h.2⟩
    have h1 := h.1 i v hv
    unfold World.cell? at h1 ⊢
    cases hb : W.heap[b]? with
    | none => simp [hb] at h1
    | some ob => rw [hb] at h1; rw [H b ob hb]; exact h1

end Go.Sp

/- Chapter 6: what the row's condition gives of the package variables (LV). -/
namespace Go.Proofs.YtglhoenjflpibaaGreatDoor
open Go Go.Sp Go.RowKit

theorem LV_of {W : World} (h : laidMetH Tryz.prog Go.Proofs.YtglhoenjflpibaaGreatDoor.Rows.plogWholeRow.laid W) (hs : W.ShapedOpen Tryz.prog) : LV W := by
  have hl : laidMet Tryz.prog Go.Proofs.YtglhoenjflpibaaGreatDoor.Rows.plogWholeRow.laid W := by
    rw [← MakeChecks.laidMetH_plain _ _ _ (by kernel_rfl)]; exact h
  have h2 := hl.tail.tail
  refine ⟨?_, ?_⟩
  · exact Go.Proofs.cell_of_shapedOpen_int (g := 2) (zero := #[.int .i64 0]) (t := 3) hs (of_decide_eq_true (by kernel_rfl)) (by kernel_rfl) rfl (by kernel_rfl) (by kernel_rfl) Tryz.underlying3
  · exact Lib.tabIs_of_head (g := 5) (t := 202) (e := 158) (n := 20) (by kernel_rfl) (by kernel_rfl) (by kernel_rfl) (by kernel_rfl) (by kernel_rfl) (by kernel_rfl) (rest := _) (by
      have e : (Go.Proofs.YtglhoenjflpibaaGreatDoor.Rows.laid_internal_strconv_uint64pow10 : DataW Unit) = Lib.tabData .u64 Lib.pow10Tab := by kernel_rfl
      exact e ▸ h2)
theorem LV.later {W w : World} (H : ∀ (b : Nat) (o : Obj), W.heap[b]? = some o → w.heap[b]? = some o) (h : LV W) : LV w := by
  have hc : ∀ b off v, W.cell? ⟨b, off, none⟩ = some v → w.cell? ⟨b, off, none⟩ = some v := fun b off v h1 => by
    unfold World.cell? at h1 ⊢
    cases hb : W.heap[b]? with
    | none => simp [hb] at h1
    | some ob => rw [hb] at h1; rw [H b ob hb]; exact h1
  obtain ⟨⟨m, h0⟩, h3⟩ := h
  refine ⟨⟨m, hc _ _ _ h0⟩, ?_⟩
  unfold Lib.TabIs World.var? at h3 ⊢
  cases hg : Tryz.prog.globalNamed powName with
  | none => simp [hg] at h3
  | some g =>
    rw [hg] at h3
    simp only [Option.bind_some] at h3 ⊢
    cases hb : W.heap[g]? with
    | none => simp [hb] at h3
    | some ob => rw [hb] at h3; rw [H g ob hb]; exact h3
/-- A row of numbers among the arguments. -/
theorem i64_wf {n : Int} (h : (Lit.int .i64 n).wf = true) : i64 n := by simpa [i64, Lit.wf, IntKind.min, IntKind.max, IntKind.signed, IntKind.bits] using h
theorem Rd.num {H : Type} {enc : TypeId × Value → H} {P : Program} {W : World} {spare : Nat → Bool} {held : Bool} {t} (ht : P.underlying t = some (.int .i64)) : Rd enc P W spare held t (fun n : Int => [.int .i64 n]) i64 := fun n cs x h hf => by
  obtain ⟨m, e, hm⟩ := Rd.int ht n cs x h hf
  exact ⟨m, e, i64_wf hm⟩
end Go.Proofs.YtglhoenjflpibaaGreatDoor
