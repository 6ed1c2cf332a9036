/- Part 1 of a claim's texts: rules for the machine's steps, and steps through functions of the program, under the conditions that each theorem states. -/
import Derived.Lib.UnsafeStr
import Derived.Lib.Builder
import Derived.LaidEqlPtr
import Derived.KernelRfl
import Derived.Test.YtglhoenjflpibaaGreatDoorProg
import Derived.Lib.ItoaMem
import Derived.Lib.AtoiAll
import Derived.Lib.Repeat
import Derived.Lib.SlTrimSet
import Derived.Shelf.LaysM
import Derived.Shelf.LaysC
import Derived.Shelf.Small.Wraps
import Derived.Shelf.Strconv.Itoa3
import Derived.Shelf.Strconv.AtoiAll
import Derived.Shelf.Strings.Cut
import Derived.Shelf.Strings.Repeat
import Derived.Shelf.Strings.SlTrimAscii
import Derived.Below
import Derived.Test.YtglhoenjflpibaaGreatDoorRows
import Derived.Lib.LaidTab
import Derived.Test.YtglhoenjflpibaaGreatDoorSav0
set_option linter.unusedVariables false
/- A separation logic over the given machine. Part 19: what strings.Builder does; arrays of pointers; slices of whole arrays. -/
namespace Go.Sp
open Go

section
variable {P : Program} {N : Nat} {E : Env} {Γ Γ' : List SProp} {dst : Option Tmp} {ty : TypeId} {pos : String} {after : Array Edge} {guard : Option (Nat × Bool)}

theorem shape_of {w : World} {b : Nat} {l : List Value} {e : TypeId} {fz : Nat × Nat} (h : w.heap[b]? = some (.cells l.toArray e fz)) : w.shape? b = some (e, l.length) := by
  simp [World.shape?, h]

/-- A pointer of one's own to unsafe.Pointer. -/
theorem Reads.toUnsafe {s d t e : TypeId} {n by_ : Nat} {z : Value} {xo : Operand} {b o : Nat} {l : List Value} (hs : P.underlying s = some (.pointer t)) (hd : P.underlying d = some .unsafePointer) (hi : TI P t n by_ z) (hn : n ≠ 0)
    (hx : ev E xo = some (.pointer (some ⟨b, o, none⟩))) (p : Pick (blk b l e) Γ Γ') (ho : o < l.length) :
    Reads P N E Γ ⟨dst, .convert s d xo, ty, pos, after, guard⟩ (.pointer (some ⟨b, o, none⟩)) := fun A w a hf hsat => by
  obtain ⟨_, fz, _, hh, _⟩ := (hsat.map fun _ => p.sat).blk
  obtain ⟨i, hinf, hsz, _, _⟩ := hi
  have := Go.Lib.run_to_unsafe (P := P) w ⟨b, o, none⟩ hs hd hinf (by omega) (shape_of hh) ho
  simp only [execOp, hf.eval hx]
  simp [this]

/-- .. and back. -/
theorem Reads.fromUnsafe {s d u e : TypeId} {n by_ : Nat} {z : Value} {xo : Operand} {b o : Nat} {l : List Value} (hs : P.underlying s = some .unsafePointer) (hd : P.underlying d = some (.pointer u)) (hi : TI P u n by_ z)
    (hx : ev E xo = some (.pointer (some ⟨b, o, none⟩))) (p : Pick (blk b l e) Γ Γ') (hl : liesAt P P.depth e (l.length / P.cellsOf e) o u 1 = true) :
    Reads P N E Γ ⟨dst, .convert s d xo, ty, pos, after, guard⟩ (.pointer (some ⟨b, o, none⟩)) := fun A w a hf hsat => by
  obtain ⟨_, fz, _, hh, _⟩ := (hsat.map fun _ => p.sat).blk
  obtain ⟨i, hinf, _, _, _⟩ := hi
  have := Go.Lib.run_from_unsafe (P := P) w ⟨b, o, none⟩ hs hd hinf (shape_of hh) hl
  simp only [execOp, hf.eval hx]
  simp [this]

/-- A function outside that gives back what it is given. -/
theorem Reads.same {fo : Operand} {args : Array Operand} {ts : Array TypeId} {f : FuncId} {fn : Func} {v : Value} (hfo : ev E fo = some (.func (.func f) #[] #[])) (ha : evs E args.toList = some [v]) (hf : P.funcs[f]? = some fn) (hname : (fn.name == "runtime.NumGoroutine") = false) (hb : fn.body.isNone = true)
    (hn : Extern.findNext fn = none) (he : Extern.find fn = some Extern.AbiNoEscape.same) : Reads P N E Γ ⟨dst, .call ⟨.value fo, args, ts⟩, ty, pos, after, guard⟩ v := fun A w a hfr _ => by
  have e1 : args.map a.eval = [v].toArray := by
    have := congrArg List.toArray (hfr.evals ha)
    rw [← this, ← Array.toList_map]
  have hname' : fn.name ≠ "runtime.NumGoroutine" := by simpa using hname
  have hb' : fn.body = none := by simpa using hb
  have hs : (Extern.AbiNoEscape.same [v].toArray).run P w = .ok v w := rfl
  simp [execOp, resolve, hfr.eval hfo, Deferred.ofValue, invoke, callFunc, hf, hname', hb', hn, he, e1]
  simp [hs]

theorem Reads.neqPSame {t x y t' te} {n by_ : Nat} {z : Value} {q : Addr} (hu : P.underlying t = some (.pointer te)) (hi : TI P te n by_ z) (hx : ev E x = some (.pointer (some q))) (hy : ev E y = some (.pointer (some q))) :
    Reads P N E Γ ⟨dst, .binOp .neq t x y t', ty, pos, after, guard⟩ (.bool false) := .bin hx hy (eqGuard_pointer P) fun w => by
  obtain ⟨i, hinf, _, _, _⟩ := hi
  exact Go.Lib.run_neq_ptr_same w q hu hinf

/-- unsafe.SliceData. -/
theorem Reads.sliceData {args : Array Operand} {ts : Array TypeId} {x : Operand} {a : Option Addr} {n c : Nat} (ha : args = #[x]) (hx : ev E x = some (.slice a n c)) (h : a = none ∨ c ≠ 0) :
    Reads P N E Γ ⟨dst, .call ⟨.builtin .unsafeSliceData, args, ts⟩, ty, pos, after, guard⟩ (.pointer a) := fun A w ac hf _ => by
  subst ha
  have : (Builtin.unsafeSliceData_ ts ty #[.slice a n c]).run P w = .ok (.pointer a) w := by
    cases a with
    | none => exact Go.Lib.run_unsafeSliceData_nil w ts ty n c
    | some q => exact Go.Lib.run_unsafeSliceData_row w ts ty q n c (by rcases h with h | h; cases h; exact h)
  simp [execOp, resolve, invoke, builtin, hf.eval hx, this]

theorem liesAt_bytes_off {e : TypeId} (hc : P.cellsOf e = 1) (count off n : Nat) (hn : off + n ≤ count) : liesAt P P.depth e count off e n = true := by
  have hd : P.depth = (2 * (P.types.size + Made.depth) + 1) + 1 := rfl
  rw [hd]
  simp only [liesAt, Bool.or_eq_true]
  left
  rw [hd]
  simp [rowAt, hc, hn, sameLayout, Nat.mod_one]

theorem bcs_at {l : List UInt8} {j : Nat} {x : UInt8} (h : l[j]? = some x) : (bcs l)[j]? = some (.int .u8 x.toNat) := by
  unfold bcs; rw [List.getElem?_map, h]; rfl

/-- unsafe.String of a row of bytes of one's own: the row is given up. -/
theorem Eff.unsafeString {args : Array Operand} {ts : Array TypeId} {pt it : TypeId} {x y : Operand} {e : TypeId} {a : Option Addr} {l : List UInt8} {cap : Nat} (ha : args = #[x, y]) (hts : ts = #[pt, it]) (hp : P.underlying pt = some (.pointer e)) (hc : P.cellsOf e = 1)
    (hx : ev E x = some (.pointer a)) (hy : ev E y = some (.int .i64 (l.length : Nat))) (p : Pick (arr e 1 a cap (bcs l)) Γ Γ') (h63 : l.length ≤ 9223372036854775807) :
    Eff P N E Γ ⟨dst, .call ⟨.builtin .unsafeString, args, ts⟩, ty, pos, after, guard⟩ fun v Γ'' => v = .string (str l) ∧ Γ'' = Γ' := by
  subst ha hts
  intro A F w ac nx Z hf hsat hn
  have hsat' : Sat A w (arr e 1 a cap (bcs l) :: (Γ' ++ F)) := hsat.map fun _ => (p.app F).sat
  have run_eq : ∀ v' w', (Builtin.unsafeString_ #[pt, it] ty #[.pointer a, .int .i64 (l.length : Nat)]).run P w = .ok v' w' → (execOp ac.eval ⟨dst, .call ⟨.builtin .unsafeString, #[x, y], #[pt, it]⟩, ty, pos, after, guard⟩).run P w = .ok (.value v') w' := fun v' w' h => by
    simp [execOp, resolve, invoke, builtin, hf.eval hx, hf.eval hy, h]
  unfold Oper.wp
  by_cases h0 : l = []
  · subst h0
    have hr : (Builtin.unsafeString_ #[pt, it] ty #[.pointer a, .int .i64 (([] : List UInt8).length : Nat)]).run P w = .ok (.string .empty) w := Go.Lib.run_unsafeString_none w pt it ty a
    rw [run_eq _ _ hr]
    exact hn _ Γ' w ⟨rfl, rfl⟩ hsat'.drop
  · obtain ⟨am, h, f, h1, h2, ok, l1, l2, H', tt⟩ := id hsat'
    rcases H' with ⟨e2, e3⟩ | ⟨b, pre, post, e1, e2, e3⟩
    · have : l.length = 0 := by have := congrArg List.length e3; simpa [bcs] using this
      exact absurd (List.eq_nil_of_length_eq_zero this) h0
    · subst e1
      have s2 : Sat A w (blk b (pre ++ (bcs l ++ post)) e :: (Γ' ++ F)) := ⟨am, h, f, h1, h2, ok, l1, l2, e3, tt⟩
      obtain ⟨ho, fz, hfz, hh, s3⟩ := s2.blk
      have hcell : ∀ j z, l[j]? = some z → w.cell? ((⟨b, pre.length, none⟩ : Addr).add j) = some (.int .u8 z.toNat) := fun j z hz => by
        rw [Addr_add, cell_of hh, List.getElem?_append_right (by omega)]
        rw [show pre.length + j - pre.length = j by omega, List.getElem?_append_left (by have := (List.getElem?_eq_some_iff.1 (bcs_at hz)).1; exact this)]
        exact bcs_at hz
      have hbl : (bcs l).length = l.length := by simp [bcs]
      have hlies := liesAt_bytes_off (P := P) hc (pre ++ (bcs l ++ post)).length pre.length l.length (by simp [hbl])
      have hlb := Go.Lib.run_loadBytes (P := P) w l ⟨b, pre.length, none⟩ .empty hcell
      have hmax : IntKind.i64.max = 9223372036854775807 := rfl
      have hl : l.length ≠ 0 := by simpa using h0
      have hr : (Builtin.unsafeString_ #[pt, it] ty #[.pointer (some ⟨b, pre.length, none⟩), .int .i64 (l.length : Nat)]).run P w = .ok (.string ⟨l.toArray⟩) (w.freeze ⟨b, pre.length, none⟩ l.length) := by
        have hdef : Builtin.unsafeString_ #[pt, it] ty #[.pointer (some ⟨b, pre.length, none⟩), .int .i64 (l.length : Nat)] =
            (do
              let n ← asInt (.int .i64 (l.length : Nat))
              if n < 0 then runtimePanic (.error "unsafe.String: len out of range")
              if n > IntKind.i64.max then unsupported (.unsafePointer "String: a length above the largest int")
              if n = 0 then pure (.string .empty)
              else if ← variablesAt ⟨b, pre.length, none⟩ (← elemOf pt) n.toNat then do
                let s ← loadBytes ⟨b, pre.length, none⟩ .empty n.toNat
                freeze ⟨b, pre.length, none⟩ n.toNat
                pure (.string s)
              else unsupported (.unsafePointer "String: not so many bytes at ptr")) := rfl
        rw [hdef]
        have h63' : ¬ (9223372036854775807 : Int) < (l.length : Int) := by omega
        have hneg : ¬ (l.length : Int) < 0 := by omega
        simp only [asInt, asIntOf]
        simp [hmax, h63', hneg, hl, variablesAt, shape_of hh, elemOf, underlying, hp, hlb]
        rw [hc, Nat.div_one]
        simpa using hlies
      rw [run_eq _ _ hr]
      refine hn _ Γ' _ ⟨rfl, rfl⟩ ?_
      have hfzw : (w.freeze ⟨b, pre.length, none⟩ l.length).heap[b]? = some (.cells (pre ++ (bcs l ++ post)).toArray e (if fz.1 == fz.2 then (pre.length, pre.length + l.length) else (min fz.1 pre.length, max fz.2 (pre.length + l.length)))) := by
        unfold World.freeze
        rw [if_neg hl]
        simp [Array.getElem?_modify, hh]
      exact (s3.update hfzw (fun c hc2 => by unfold World.freeze; rw [if_neg hl]; simp [Array.getElem?_modify, Ne.symm hc2]) (by unfold World.freeze; rw [if_neg hl]; rfl)).drop

/-- a[:] of an array. -/
theorem Reads.sliceWhole {t x e s b n} (hu : P.underlying t = some (.array n e)) (hs : TS P e s) (hx : ev E x = some (.pointer (some ⟨b, 0, none⟩))) :
    Reads P N E Γ ⟨dst, .slice t x none none none, ty, pos, after, guard⟩ (.slice (some ⟨b, 0, none⟩) n n) := fun _ w a hf _ => by
  have : (0 : Nat) * s = 0 := Nat.zero_mul s
  simp [execOp, Instr.sliceAt, Instr.sureAddr, Instr.sliceBounds, hf.eval hx, underlying, hu, hs.run, Addr_add]

/-- x[i] of an array's value, elements of one cell. -/
theorem Reads.indexV {t x i e} {n : Nat} {k : IntKind} {j : Nat} {cs : Array Value} {v : Value} (hu : P.underlying t = some (.array n e)) (hna : NotAgg P e) (hs : TS P e 1) (hx : ev E x = some (.agg cs)) (hi : ev E i = some (.int k (j : Int))) (hj : j < n) (hv : cs[j]? = some v) :
    Reads P N E Γ ⟨dst, .index t x i, ty, pos, after, guard⟩ v := fun _ w a hf _ => by
  have := part1 hna hv w
  simp [execOp, hf.eval hx, hf.eval hi, Instr.index, asIntOf, underlying, hu, hj, hs.run, this]
/-- 'append' onto a full row that is only read: a new row. -/
theorem Eff.appendFull {args : Array Operand} {ts : Array TypeId} {x y t tx e s by_ z} {b o n m : Nat} {cs ys : List Value} {src : Value} (ha : args = #[x, y]) (hts : ts = #[t, tx]) (hu : P.underlying t = some (.slice e)) (hi : TI P e s by_ z)
    (hz : z.cells.size = s) (hzo : ones z.cells.toList) (hb0 : 0 < by_) (hx : ev E x = some (.slice (some ⟨b, o, none⟩) n n)) (hy : ev E y = some src) (hk : Knows Γ (CellsAt b o cs)) (hn : cs.length = n * s) (hsrc : Knows Γ (SrcAt P s tx src m ys)) (hm : 0 < m)
    (hbound : (n + m) * by_ ≤ 140737488355328) :
    Eff P N E Γ ⟨dst, .call ⟨.builtin .append, args, ts⟩, ty, pos, after, guard⟩ fun u Γ'' => ∃ a' cap', u = .slice a' (n + m) cap' ∧ Γ'' = arr e s a' cap' (cs ++ ys) :: Γ := by
  subst ha hts
  intro A F w ac nx Z hf hsat hnext
  have hS := hsrc A w hsat.left
  have hK := hk A w hsat.left
  obtain ⟨i, hinf, hsz, hby, hzv⟩ := hi
  subst hsz hby
  have hyl := hS.src.newsLen
  have run_eq : ∀ v' w', (Builtin.append_ #[t, tx] ty #[.slice (some ⟨b, o, none⟩) n n, src]).run P w = .ok v' w' → (execOp ac.eval ⟨dst, .call ⟨.builtin .append, #[x, y], #[t, tx]⟩, ty, pos, after, guard⟩).run P w = .ok (.value v') w' := fun v' w' h => by
    simp [execOp, resolve, invoke, builtin, hf.eval hx, hf.eval hy, h]
  have h63 : (((n + m : Nat) : Int)) ≤ 9223372036854775807 := by
    have : n + m ≤ (n + m) * i.bytes := Nat.le_mul_of_pos_right _ hb0
    omega
  unfold Oper.wp
  have hg : n < n + m := by omega
  have hold : (Builtin.firstCells i.size n (.slice (some ⟨b, o, none⟩) n n)).run P w.drew = .ok cs.toArray w.drew :=
    run_firstCells_some (P := P) w.drew i.size n ⟨b, o, none⟩ n n cs hn (fun j v hv => by rw [Addr_add, World.cell?_drew]; exact hK.1 j v hv)
  have hr := run_append_grow_src (P := P) w t tx ty e i z hu hinf hzv (some ⟨b, o, none⟩) n n cs hold src m ys hS.src hg h63 (growslice_fits hg hbound)
  have e5 : ((cs ++ ys).toArray ++ Builtin.zeroCells z.cells (grownCap w (n + m) n e - (n + m))) = ((cs ++ ys) ++ (Builtin.zeroCells z.cells (grownCap w (n + m) n e - (n + m))).toList).toArray := by
    apply Array.ext'; simp
  rw [e5] at hr
  rw [run_eq _ _ hr]
  refine hnext _ _ _ ⟨_, _, rfl, rfl⟩ ?_
  have hge := grownCap_ge w (n + m) n e
  have s4 := Sat.blk_of (fz := (0, 0)) ((hsat.drew (w := w)).alloc (.cells ((cs ++ ys) ++ (Builtin.zeroCells z.cells (grownCap w (n + m) n e - (n + m))).toList).toArray e)) ((hK.2.append hS.src.one).append (zeroCells_ones hzo _)) (.inl rfl)
  show Sat A _ (_ :: (Γ ++ F))
  refine Sat.close (Γ := Γ ++ F) (B := [blk w.heap.size ([] ++ ((cs ++ ys) ++ (Builtin.zeroCells z.cells (grownCap w (n + m) n e - (n + m))).toList)) e]) (fun h' H => ?_) (by rw [List.nil_append]; exact s4)
  refine sat.arr_close (pre := []) ?_ H
  simp [size_zeroCells, hz, hn, hyl]
  rw [← Nat.add_mul, ← Nat.add_mul]; congr 1; omega
end
end Go.Sp

/- A separation logic over the given machine. Part 20: ways that come together; what is known for good. -/
namespace Go.Sp
open Go

theorem Run.joinEx {C : Cx} {k : List Item} {c : Code} {Q : Value → List SProp → Prop} {E : Env} {Γ : List SProp} {σ : Type} {φ : σ → Prop} {E' : σ → Env} {Γ' : σ → List SProp} (tail : ∀ s, φ s → Run C k (E' s) (Γ' s) Q)
    (next : (∀ s, φ s → ∀ {E1 : Env} {Γ1 Δ : List SProp}, Le (E' s) E1 → Picks (Γ' s) Γ1 Δ → Run C k E1 Γ1 Q) → Run C (.code c :: k) E Γ Q) : Run C (.code c :: k) E Γ Q :=
  next fun s hs _ _ _ l p => (tail s hs).to l p

theorem Sat.knowT {A w Γ} {φ : World → Prop} (H : ∀ w, φ w) (s : Sat A w Γ) : Sat A w (know φ :: Γ) := by
  obtain ⟨a, h, f, t⟩ := s
  exact ⟨a, h, f, fun _ => none, h, fun _ => .inl rfl, fun _ _ e => by simp at e, .refl _, ⟨fun _ => none, .refl _, fun _ _ e => by simp at e, fun w _ => H w⟩, t⟩

section
variable {C : Cx} {k : List Item} {E : Env} {Γ Γ' : List SProp} {Q : Value → List SProp → Prop} {P : Program} {N : Nat} {ops : Array Oper} {os : List Oper} {K : Env → List SProp → Prop}

theorem Run.knowT (φ : World → Prop) (H : ∀ w, φ w) (n : Run C k E (know φ :: Γ) Q) : Run C k E Γ Q := fun A F w a hf hs => n A F w a hf (Sat.knowT H hs)
theorem RunO.knowT (φ : World → Prop) (H : ∀ w, φ w) (n : RunO P N ops os E (know φ :: Γ) K) : RunO P N ops os E Γ K := fun A F w a Z hf hs hz => n A F w a Z hf (Sat.knowT H hs) hz
theorem Run.knowAnd {φ ψ : World → Prop} (χ : World → Prop) (p : Picks [know φ, know ψ] Γ Γ') (H : ∀ w, φ w → ψ w → χ w) (n : Run C k E (know χ :: Γ') Q) : Run C k E Γ Q :=
  .close p (fun _ s => by
    obtain ⟨j, jl, jr, e⟩ := sat.know_and s
    exact ⟨j, jl, jr, fun w f => H w (e w f).1 (e w f).2⟩) n
theorem RunO.knowAnd {φ ψ : World → Prop} (χ : World → Prop) (p : Picks [know φ, know ψ] Γ Γ') (H : ∀ w, φ w → ψ w → χ w) (n : RunO P N ops os E (know χ :: Γ') K) : RunO P N ops os E Γ K :=
  .close p (fun _ s => by
    obtain ⟨j, jl, jr, e⟩ := sat.know_and s
    exact ⟨j, jl, jr, fun w f => H w (e w f).1 (e w f).2⟩) n
theorem Run.knowMono {φ : World → Prop} (χ : World → Prop) (p : Pick (know φ) Γ Γ') (H : ∀ w, φ w → χ w) (n : Run C k E (know χ :: Γ') Q) : Run C k E Γ Q :=
  .close (.cons p .nil) (fun _ s => sat.know_mono H s) n
theorem RunO.knowMono {φ : World → Prop} (χ : World → Prop) (p : Pick (know φ) Γ Γ') (H : ∀ w, φ w → χ w) (n : RunO P N ops os E (know χ :: Γ') K) : RunO P N ops os E Γ K :=
  .close (.cons p .nil) (fun _ s => sat.know_mono H s) n
/-- The first n operations come to one truth value in one slot; one more slot is kept. -/
theorem RunO.join2 (n : Nat) (t : Nat) (b : Bool) (t2 : Nat) (v2 : Value) (h1 : RunO P N ops (os.take n) E Γ fun E' Γ' => Γ' = Γ ∧ lk E' t = some (.bool b) ∧ lk E' t2 = some v2 ∧ Le E E')
    (h2 : RunO P N ops (os.drop n) ((t, .bool b) :: (t2, v2) :: E) Γ K) : RunO P N ops os E Γ K :=
  RunO.cut n h1 fun _ _ ⟨hΓ, ht, ht2, hl⟩ => by subst hΓ; exact h2.weak (Le.cons ht (Le.cons ht2 hl))
end
end Go.Sp

/- A separation logic over the given machine. Part 21: blocks whose address may be compared; maps cleared; packed resources; regions whose ends come together. -/
namespace Go.Sp
open Go

/-- A block of which no text was ever made. -/
def blk0 (b : Nat) (l : List Value) (e : TypeId) : SProp := fun h => ones l ∧ h b = some (false, .cells l.toArray e (0, 0))
def Clean (b : Nat) (w : World) : Prop := ∃ cs e, w.heap[b]? = some (.cells cs e (0, 0))

theorem Sat.blk0 {A w b l e Γ} (s : Sat A w (Sp.blk0 b l e :: Γ)) : ones l ∧ w.heap[b]? = some (.cells l.toArray e (0, 0)) ∧ Sat A w (Sp.own b (.cells l.toArray e (0, 0)) :: Γ) := by
  obtain ⟨a, h, f, h1, h2, ok, l1, l2, ⟨ho, e0⟩, t⟩ := s
  exact ⟨ho, f b _ (l1 b _ e0), a, h, f, h1, h2, ok, l1, l2, e0, t⟩
theorem Sat.blk0_of {A w b l e Γ} (s : Sat A w (Sp.own b (.cells l.toArray e (0, 0)) :: Γ)) (ho : ones l) : Sat A w (Sp.blk0 b l e :: Γ) := by
  obtain ⟨a, h, f, h1, h2, ok, l1, l2, e0, t⟩ := s
  exact ⟨a, h, f, h1, h2, ok, l1, l2, ⟨ho, e0⟩, t⟩
theorem Knows.blk0 {Γ Γ' b l e} (p : Pick (Sp.blk0 b l e) Γ Γ') : Knows Γ (CellsAt b 0 l) := fun _ _ s => by
  obtain ⟨ho, hh, _⟩ := (s.map fun _ => p.sat).blk0
  exact ⟨fun i v hv => by rw [Nat.zero_add, cell_of hh]; exact hv, ho⟩
theorem Knows.clean {Γ Γ' b l e} (p : Pick (Sp.blk0 b l e) Γ Γ') : Knows Γ (Clean b) := fun _ _ s => ⟨_, _, (s.map fun _ => p.sat).blk0.2.1⟩
/-- A new block is none of those that one has. -/
theorem Knows.fresh {α : Type} {g : α → Nat} {c : α → List Value} {e e' : TypeId} {b : Nat} {l : List Value} {xs : List α} {Γ Γ' : List SProp} (p : Picks [Sp.blk0 b l e, Sp.bag (fun y => Sp.blk0 (g y) (c y) e') xs] Γ Γ') :
    Knows Γ fun _ => ∀ y ∈ xs, g y ≠ b := fun A w s y hy hb => by
  obtain ⟨m, hm⟩ : ∃ m, xs.Perm (y :: m) := by
    obtain ⟨a, c, rfl⟩ := List.append_of_mem hy
    exact ⟨a ++ c, List.perm_middle⟩
  have h1 : Sat A w ([Sp.blk0 b l e, Sp.bag (fun y => Sp.blk0 (g y) (c y) e') xs] ++ Γ') := s.map fun _ => p.sat
  obtain ⟨_, h, _, h1, h2, ok, l1, l2, ⟨_, e0⟩, h3, h4, _, m1, _, hb', _⟩ := h1
  obtain ⟨k1, _, _, n1, _, ⟨_, e1⟩, _⟩ := bag.take hm hb'
  have x1 : h2 b = some (false, .cells (c y).toArray e' (0, 0)) := m1 _ _ (n1 _ _ (hb ▸ e1))
  rcases ok b with x | x | ⟨_, _, x⟩
  · rw [e0] at x; cases x
  · rw [x1] at x; cases x
  · rw [e0] at x; cases x

section
variable {P : Program} {N : Nat} {E : Env} {Γ Γ' : List SProp} {dst : Option Tmp} {ty : TypeId} {pos : String} {after : Array Edge} {guard : Option (Nat × Bool)}

theorem Eff.box0 {e x v} {l : List Value} (hx : ev E x = some v) (hc : v.cells.toList = l) (hl : ones l) : Eff P N E Γ ⟨dst, .box e x, ty, pos, after, guard⟩ fun u Γ'' => ∃ b, u = .pointer (some ⟨b, 0, none⟩) ∧ Γ'' = blk0 b l e :: Γ := by
  intro A F w a nx Z hf hsat hn
  unfold Oper.wp
  have hc' : v.cells = l.toArray := by rw [← hc]
  simp [execOp, Instr.box, hf.eval hx, newVar, newRow, Oper.upon, hc']
  refine hn _ _ _ ⟨w.heap.size, rfl, rfl⟩ ?_
  exact Sat.blk0_of (hsat.alloc _) hl
theorem Eff.store0 {t x y v} {b o : Nat} {l : List Value} {e : TypeId} (hs : TS P t 1) (hx : ev E x = some (.pointer (some ⟨b, o, none⟩))) (hy : ev E y = some v) (p : Pick (blk0 b l e) Γ Γ')
    (hv : v.oneCell' = true) (hl : o < l.length) : Eff P N E Γ ⟨dst, .store t x y, ty, pos, after, guard⟩ fun _ Γ'' => Γ'' = blk0 b (l.set o v) e :: Γ' := by
  intro A F w a nx Z hf hsat hn
  have hsat' : Sat A w (blk0 b l e :: (Γ' ++ F)) := hsat.map fun _ => (p.app F).sat
  obtain ⟨ho, hh, s'⟩ := hsat'.blk0
  have hr := run_storeCells_cells (P := P) b o [v] 0 w (fun j hj => by rw [cell_of hh]; simp at hj; subst hj; simp; omega)
    (fun j hj => by simp [World.frozen?, hh]) (fun u hu => by rcases List.mem_singleton.1 hu with rfl; exact hv)
  simp only [Nat.add_zero] at hr
  obtain ⟨a1, a2⟩ := heap_setCells b [v] o w l e (0, 0) hh (by simp; omega)
  rw [splice_one hl] at a1
  have hsz : v.cells.size = 1 := by rw [← Array.length_toList, cells_one hv]; rfl
  unfold Oper.wp
  simp [execOp, hf.eval hx, hf.eval hy, Instr.storeAt, Instr.sureAddr, storeVar, hs.run, hsz, cells_one hv, hr]
  refine hn _ _ _ rfl (Sat.blk0_of (s'.update a1 a2 (amb_setCells b [v] o w)) ?_)
  exact fun u hu => by
    rcases List.mem_or_eq_of_mem_set hu with h | h
    · exact ho u h
    · rw [h]; exact hv

theorem Reads.eqPSame {t x y t' te} {n by_ : Nat} {z : Value} {q : Addr} (hu : P.underlying t = some (.pointer te)) (hi : TI P te n by_ z) (hx : ev E x = some (.pointer (some q))) (hy : ev E y = some (.pointer (some q))) :
    Reads P N E Γ ⟨dst, .binOp .eql t x y t', ty, pos, after, guard⟩ (.bool true) := .bin hx hy (eqGuard_pointer P) fun w => by
  obtain ⟨i, hinf, _, _, _⟩ := hi
  exact run_eql_ptr_same w q hu hinf
theorem Reads.eqPOther {t x y t' te} {n by_ : Nat} {z : Value} {a b : Nat} (hu : P.underlying t = some (.pointer te)) (hi : TI P te n by_ z) (hn : n ≠ 0) (hx : ev E x = some (.pointer (some ⟨a, 0, none⟩))) (hy : ev E y = some (.pointer (some ⟨b, 0, none⟩)))
    (hne : a ≠ b) (ka : Knows Γ (Clean a)) (kb : Knows Γ (Clean b)) : Reads P N E Γ ⟨dst, .binOp .eql t x y t', ty, pos, after, guard⟩ (.bool false) := fun A w ac hf hs => by
  obtain ⟨i, hinf, hsz, _, _⟩ := hi
  obtain ⟨ca, ta, ha⟩ := ka A w hs
  obtain ⟨cb, tb, hb⟩ := kb A w hs
  have := run_eql_ptr_other (P := P) w (a := ⟨a, 0, none⟩) (b := ⟨b, 0, none⟩) hu hinf (by omega) (fun e => hne (by cases e; rfl)) ha hb
  simp [execOp, hf.eval hx, hf.eval hy, eqGuard_pointer, this]

theorem Eff.mapClear {κ ν : Type} [DecidableEq κ] {enc : κ → Value} {venc : ν → Value} {args : Array Operand} {ts : Array TypeId} {x : Operand} {t k e : TypeId} {b : Nat} {l : List (κ × ν)} (ha : args = #[x]) (hts : ts = #[t]) (hu : P.underlying t = some (.map k e))
    (hx : ev E x = some (.map (some b))) (p : Pick (mp enc venc b l) Γ Γ') : Eff P N E Γ ⟨dst, .call ⟨.builtin .clear, args, ts⟩, ty, pos, after, guard⟩ fun _ Γ'' => Γ'' = mp enc venc b [] :: Γ' := by
  subst ha hts
  intro A F w ac nx Z hf hsat hnext
  have hsat' : Sat A w (mp enc venc b l :: (Γ' ++ F)) := hsat.map fun _ => (p.app F).sat
  obtain ⟨es, clock, hh, e1, e2, e3, e4, s'⟩ := hsat'.mp_own
  have hg : (getObj b).run P w = .ok (.map es clock) w := by simp [getObj, Sem.run, hh]
  obtain ⟨h1, h2⟩ := Sat.setObj (P := P) (o' := .map #[] clock) s' (fun c e f h => by cases h)
  unfold Oper.wp
  simp [execOp, resolve, invoke, builtin, hf.eval hx, Builtin.clear_, underlying, hu, hg, h1, Oper.upon]
  exact hnext _ _ _ rfl (Sat.mp_of h2 rfl (by simp) (by simp) (by simp))
end

/-- Several resources in one. -/
def pk (L : List SProp) : SProp := fun h => sat L h
theorem sat.pk {L : List SProp} {h : Hp} (s : sat L h) : sat [Sp.pk L] h := sat.one s
section
variable {P : Program} {N : Nat} {ops : Array Oper} {os : List Oper} {E : Env} {Γ Γ' L : List SProp} {K : Env → List SProp → Prop} {C : Cx} {k : List Item} {Q : Value → List SProp → Prop}
theorem Run.unpack (p : Pick (pk L) Γ Γ') (n : Run C k E (L ++ Γ') Q) : Run C k E Γ Q := .open_ (σ := Unit) (φ := fun _ => True) (B := fun _ => L) p (fun _ h => ⟨(), trivial, h⟩) fun _ _ => n
theorem RunO.unpack (p : Pick (pk L) Γ Γ') (n : RunO P N ops os E (L ++ Γ') K) : RunO P N ops os E Γ K := .open_ (σ := Unit) (φ := fun _ => True) (B := fun _ => L) p (fun _ h => ⟨(), trivial, h⟩) fun _ _ => n
theorem Run.pack (p : Picks L Γ Γ') (n : Run C k E (pk L :: Γ') Q) : Run C k E Γ Q := .close p (fun _ s => s) n
theorem RunO.pack (p : Picks L Γ Γ') (n : RunO P N ops os E (pk L :: Γ') K) : RunO P N ops os E Γ K := .close p (fun _ s => s) n

theorem Cn.pack {f args φ} (h : Cn P f args φ L Q) : Cn P f args φ [pk L] fun v G => ∃ G', Q v G' ∧ G = [pk G'] := fun R kR => by
  have h1 := h R kR
  refine ⟨h1.able, fun A F w s => ?_⟩
  have s1 : Sat A w ((L ++ [R]) ++ F) := by
    rw [List.append_assoc]
    exact s.map fun _ t => sat.unfold (Γ := L) t
  refine (h1.runs A F w s1).mono ?_
  rintro e w' ⟨v, _, he, ⟨G', hq, rfl⟩, s'⟩
  refine ⟨v, [pk G'] ++ [R], he, ⟨_, ⟨G', hq, rfl⟩, rfl⟩, ?_⟩
  rw [List.append_assoc] at s'
  exact s'.map fun _ t => sat.fold t

theorem Run.drawsTo {id} (L1 : List Nat) (ΓS : List SProp) (E2 : Env) (Γ2 : List SProp) (hm : C.P.follows .mixedOrders = true)
    (h : RunD C.P C.fn.ntmps ops L1 ΓS ops.size (Array.replicate ops.size false) E Γ fun E' Γ' => Le E2 E' ∧ ∃ Δ, Picks Γ2 Γ' Δ) (n : Run C k E2 Γ2 Q) : Run C (.code (.region id ops true) :: k) E Γ Q :=
  Run.draws L1 ΓS hm (h.mono fun _ _ ⟨l, _, p⟩ => n.to l p)
end
end Go.Sp

/- Chapter 3: checksums, in plain Lean. -/
namespace Go.Proofs.YtglhoenjflpibaaGreatDoor
open Go Go.Sp

/-- One bit of a checksum. -/
def crc1 (c : BitVec 32) : BitVec 32 := (c >>> 1) ^^^ (2197175160#32 &&& -(c &&& 1#32))
def crcN : Nat → BitVec 32 → BitVec 32
  | 0, c => c
  | n + 1, c => crcN n (crc1 c)
def crcB (c : BitVec 32) (b : UInt8) : BitVec 32 := crcN 8 (c ^^^ BitVec.ofNat 32 b.toNat)
def crcS (l : List UInt8) : BitVec 32 := l.foldl crcB 4294967295#32
def crc (l : List UInt8) : BitVec 32 := ~~~ crcS l

theorem and_one (c : BitVec 32) : c &&& 1#32 = BitVec.ofNat 32 (c.toNat % 2) := by
  apply BitVec.eq_of_toNat_eq
  rw [BitVec.toNat_and]
  show c.toNat &&& 1 = _
  rw [Nat.and_one_is_mod, BitVec.toNat_ofNat]; omega

/-- The same, as the document reckons it. -/
theorem crc1_odd {c : BitVec 32} (h : c.toNat % 2 = 1) : crc1 c = (c >>> 1) ^^^ 2197175160#32 := by
  unfold crc1; rw [and_one, h]; rfl
theorem crc1_even {c : BitVec 32} (h : c.toNat % 2 = 0) : crc1 c = c >>> 1 := by
  unfold crc1; rw [and_one, h]
  show (c >>> 1) ^^^ (2197175160#32 &&& 0#32) = _
  simp

theorem crcS_snoc (l : List UInt8) (i : Nat) {b : UInt8} (h : l[i]? = some b) : crcS (l.take (i + 1)) = crcB (crcS (l.take i)) b := by
  unfold crcS; rw [List.take_add_one, h, List.foldl_append]; rfl

theorem u8_u32 (b : UInt8) : IntKind.u32.wrap (b.toNat : Int) = ((BitVec.ofNat 32 b.toNat).toNat : Int) := by
  rw [wrap_un rfl]; rfl
end Go.Proofs.YtglhoenjflpibaaGreatDoor

/- Chapter 3: ints as bytes, in plain Lean. -/
namespace Go.Proofs.YtglhoenjflpibaaGreatDoor
open Go Go.Sp

def i64 (n : Int) : Prop := -9223372036854775808 ≤ n ∧ n ≤ 9223372036854775807

/-- An int as a number from 0 on, and back. -/
def zig (n : Int) : Nat := if n < 0 then (2 * (-(n + 1)) + 1).toNat else (2 * n).toNat
def zag (z : Nat) : Int := if z % 2 = 1 then -((z / 2 : Nat) : Int) - 1 else ((z / 2 : Nat) : Int)
theorem zag_zig (n : Int) : zag (zig n) = n := by unfold zag zig; split <;> split <;> omega
theorem zig_lt {n : Int} (h : i64 n) : zig n < 18446744073709551616 := by obtain ⟨h1, h2⟩ := h; unfold zig; split <;> omega
theorem zag_i64 {z : Nat} (h : z < 18446744073709551616) : i64 (zag z) := by unfold zag i64; split <;> omega

/-- A number by sevens. -/
def vint (z : Nat) : List UInt8 := if z < 128 then [UInt8.ofNat z] else UInt8.ofNat (z % 128 + 128) :: vint (z / 128)
termination_by z
theorem vint_small {z : Nat} (h : z < 128) : vint z = [UInt8.ofNat z] := by rw [vint, if_pos h]
theorem vint_big {z : Nat} (h : ¬ z < 128) : vint z = UInt8.ofNat (z % 128 + 128) :: vint (z / 128) := by rw [vint, if_neg h]
theorem vint_len (z : Nat) : ∀ k, z < 128 ^ (k + 1) → (vint z).length ≤ k + 1 := by
  induction z using Nat.strongRecOn with
  | _ z ih =>
    intro k hk
    by_cases h : z < 128
    · rw [vint_small h]; simp
    · rw [vint_big h]
      cases k with
      | zero => omega
      | succ k =>
        have := ih (z / 128) (by omega) k (by rw [Nat.pow_succ] at hk; omega)
        simp; omega
theorem vint_ten {z : Nat} (h : z < 18446744073709551616) : (vint z).length ≤ 10 := vint_len z 9 (by
  have : (128 : Nat) ^ 10 = 1180591620717411303424 := by decide
  show z < 128 ^ 10
  omega)
theorem vint_pos (z : Nat) : 0 < (vint z).length := by
  by_cases h : z < 128
  · rw [vint_small h]; simp
  · rw [vint_big h]; simp
def eint (n : Int) : List UInt8 := vint (zig n)
theorem eint_len {n : Int} (h : i64 n) : (eint n).length ≤ 10 := vint_ten (zig_lt h)

/-! ### What the program's operations yield -/

theorem wrap_u64 {n : Nat} (h : n < 18446744073709551616) : IntKind.u64.wrap (n : Int) = n := by
  unfold IntKind.wrap; simp [IntKind.signed, IntKind.bits]; omega
theorem wrap_u8 {n : Nat} (h : n < 256) : IntKind.u8.wrap (n : Int) = n := by
  unfold IntKind.wrap; simp [IntKind.signed, IntKind.bits]; omega
theorem u64_u8 (n : Nat) : IntKind.u8.wrap (n : Int) = ((n % 256 : Nat) : Int) := by
  unfold IntKind.wrap; simp [IntKind.signed, IntKind.bits]

theorem wrap_mod (n : Int) : IntKind.i64.wrap n % 18446744073709551616 = n % 18446744073709551616 := by
  unfold IntKind.wrap; simp [IntKind.signed, IntKind.bits]; split <;> omega
theorem u64_of (n : Int) : IntKind.u64.wrap n = n % 18446744073709551616 := by
  unfold IntKind.wrap; simp [IntKind.signed, IntKind.bits]
theorem ofInt_wrap (n : Int) : BitVec.ofInt 64 (IntKind.i64.wrap n) = BitVec.ofInt 64 n := by
  apply BitVec.eq_of_toNat_eq
  rw [BitVec.toNat_ofInt, BitVec.toNat_ofInt]
  show (IntKind.i64.wrap n % 18446744073709551616).toNat = (n % 18446744073709551616).toNat
  rw [wrap_mod]
theorem toNat_ofInt64 (n : Int) : (BitVec.ofInt 64 n).toNat = (n % 18446744073709551616).toNat := by
  rw [BitVec.toNat_ofInt]; rfl

/-- n<<1 ^ n>>63, as an unsigned number. -/
theorem zig_bits {n : Int} (h : i64 n) :
    IntKind.u64.wrap (IntKind.i64.wrap ((BitVec.ofInt 64 (IntKind.i64.wrap (n * 2 ^ (min 1 64))) ^^^ BitVec.ofInt 64 (n.fdiv (2 ^ (min 63 64)))).toNat : Int)) = (zig n : Int) := by
  obtain ⟨h1, h2⟩ := h
  rw [u64_of, wrap_mod, ofInt_wrap]
  have e1 : n * 2 ^ (min 1 64) = n * 2 := rfl
  have e2 : (2 : Int) ^ (min 63 64) = 9223372036854775808 := by decide
  rw [e1, e2]
  unfold zig
  by_cases hn : n < 0
  · have e3 : n.fdiv 9223372036854775808 = -1 := by rw [Int.fdiv_eq_ediv_of_nonneg _ (by omega)]; omega
    rw [e3, if_pos hn, show BitVec.ofInt 64 (-1) = BitVec.allOnes 64 from rfl, BitVec.xor_allOnes, BitVec.toNat_not, toNat_ofInt64]
    omega
  · have e3 : n.fdiv 9223372036854775808 = 0 := by rw [Int.fdiv_eq_ediv_of_nonneg _ (by omega)]; omega
    rw [e3, if_neg hn, show BitVec.ofInt 64 0 = 0#64 from rfl, BitVec.xor_zero, toNat_ofInt64]
    omega

end Go.Proofs.YtglhoenjflpibaaGreatDoor

/- Chapter 6: a disk, in plain Lean. -/
namespace Go.Proofs.YtglhoenjflpibaaGreatDoor
open Go Go.Sp

/-- A file: its bytes, how many of them are safe. -/
structure Fl where
  b : List UInt8
  safe : Nat
def Fl.val (f : Fl) : Value := .agg #[.string (str f.b), .int .i64 (f.safe : Int)]
def fl0 : Fl := ⟨[], 0⟩
abbrev Nm := List UInt8
def nmv (n : Nm) : Value := .string (str n)
theorem str_one : ∀ x y : Nm, str x = str y → x = y := fun _ _ => str_inj.1
abbrev Fs := List (Nm × Fl)
def total (fs : Fs) : Nat := (fs.map fun p => p.2.b.length).sum
structure Dk where
  size : Nat
  fs : Fs
def Dk.get (d : Dk) (n : Nm) : Option Fl := mget d.fs n
def Dk.file (d : Dk) (n : Nm) : Fl := (mget d.fs n).getD fl0
def Dk.put (d : Dk) (n : Nm) (f : Fl) : Dk := { d with fs := mset d.fs n f }
def Dk.del (d : Dk) (n : Nm) : Dk := { d with fs := mdel d.fs n }
def Dk.used (d : Dk) : Nat := total d.fs
structure Dk.ok (d : Dk) : Prop where
  nodup : (d.fs.map (·.1)).Nodup
  used : d.used ≤ d.size
  size : d.size ≤ 16777216
  safe : ∀ p ∈ d.fs, p.2.safe ≤ p.2.b.length

theorem total_cons (p : Nm × Fl) (fs : Fs) : total (p :: fs) = p.2.b.length + total fs := by simp [total]
theorem total_app (a b : Fs) : total (a ++ b) = total a + total b := by simp [total]
theorem total_mem {n : Nm} {f : Fl} : ∀ {fs : Fs}, (n, f) ∈ fs → f.b.length ≤ total fs
  | p :: fs, h => by
    rw [total_cons]
    rcases List.mem_cons.1 h with rfl | h
    · exact Nat.le_add_right ..
    · exact Nat.le_trans (total_mem h) (Nat.le_add_left ..)
theorem total_none {n : Nm} {f : Fl} : ∀ {fs : Fs}, n ∉ fs.map (·.1) → fs.map (fun p => if n = p.1 then (p.1, f) else p) = fs := fun {fs} h => by
  refine (List.map_congr_left (g := id) fun p hp => ?_).trans (List.map_id _)
  rw [if_neg (fun e : n = p.1 => h (by rw [e]; exact List.mem_map_of_mem hp))]; rfl
theorem mget_notin {fs : Fs} {n : Nm} (h : n ∉ fs.map (·.1)) : mget fs n = none := mget_none.2 (Bool.eq_false_iff.2 fun e => by
  obtain ⟨p, hp, hn⟩ := List.any_eq_true.1 e
  exact h (by rw [of_decide_eq_true hn]; exact List.mem_map_of_mem hp))
theorem mget_in {fs : Fs} {n : Nm} (h : n ∈ fs.map (·.1)) : (mget fs n).isSome = true := by
  cases e : mget fs n with
  | some _ => rfl
  | none =>
    obtain ⟨p, hp, rfl⟩ := List.mem_map.1 h
    have := mget_none.1 e
    exact absurd (List.any_eq_true.2 ⟨p, hp, by simp⟩) (Bool.eq_false_iff.1 this)
theorem mget_mem {fs : Fs} {n : Nm} {f : Fl} (h : mget fs n = some f) : (n, f) ∈ fs := by
  unfold mget at h
  obtain ⟨p, hp, rfl⟩ := Option.map_eq_some_iff.1 h
  have h1 := List.find?_some hp
  have h2 := List.mem_of_find?_eq_some hp
  rw [of_decide_eq_true h1]; exact h2
theorem total_mset (n : Nm) (f : Fl) : ∀ {fs : Fs}, (fs.map (·.1)).Nodup → total (mset fs n f) + ((mget fs n).getD fl0).b.length = total fs + f.b.length
  | [], _ => by simp [mset, total, mget, fl0]
  | p :: fs, h => by
    rw [List.map_cons, List.nodup_cons] at h
    by_cases hp : n = p.1
    · subst hp
      unfold mset
      rw [if_pos (by simp), List.map_cons, if_pos rfl, total_none h.1, total_cons, total_cons, mget_cons, if_pos rfl]
      show f.b.length + total fs + p.2.b.length = _
      omega
    · have ih := total_mset n f h.2
      have e : mset (p :: fs) n f = p :: mset fs n f := by
        unfold mset
        rw [List.any_cons, decide_eq_false hp, Bool.false_or, List.map_cons, if_neg hp]
        split <;> rfl
      rw [e, total_cons, total_cons, mget_cons, if_neg hp]; omega
theorem total_mdel (n : Nm) : ∀ {fs : Fs}, (fs.map (·.1)).Nodup → total (mdel fs n) + ((mget fs n).getD fl0).b.length = total fs
  | [], _ => rfl
  | p :: fs, h => by
    rw [List.map_cons, List.nodup_cons] at h
    unfold mdel
    rw [List.filter_cons]
    by_cases hp : n = p.1
    · subst hp
      have ih := total_mdel p.1 h.2
      rw [mget_notin h.1] at ih
      unfold mdel at ih
      rw [decide_eq_true rfl, mget_cons, if_pos rfl, total_cons]
      simp only [Bool.not_true, Bool.false_eq_true, if_false, Option.getD_some]
      have : (none : Option Fl).getD fl0 = fl0 := rfl
      rw [this] at ih
      have : fl0.b.length = 0 := rfl
      omega
    · have ih := total_mdel n h.2
      unfold mdel at ih
      rw [decide_eq_false hp, mget_cons, if_neg hp, total_cons]
      simp only [Bool.not_false, if_true, total_cons]
      omega
theorem Dk.file_le {d : Dk} (n : Nm) : (d.file n).b.length ≤ d.used := by
  unfold Dk.file
  cases h : mget d.fs n with
  | none => exact Nat.zero_le _
  | some f =>
    have := mget_mem h
    exact total_mem this
theorem Dk.file_of {d : Dk} {n : Nm} {f : Fl} (h : d.get n = some f) : d.file n = f := by unfold Dk.file; unfold Dk.get at h; rw [h]; rfl
theorem Dk.used_put {d : Dk} (h : d.ok) (n : Nm) (f : Fl) : (d.put n f).used + (d.file n).b.length = d.used + f.b.length := total_mset n f h.nodup
theorem Dk.used_del {d : Dk} (h : d.ok) (n : Nm) : (d.del n).used + (d.file n).b.length = d.used := total_mdel n h.nodup
theorem Dk.ok_put {d : Dk} (h : d.ok) {n : Nm} {f : Fl} (hu : d.used + f.b.length ≤ d.size + (d.file n).b.length) (hs : f.safe ≤ f.b.length) : (d.put n f).ok := by
  refine ⟨mset_nodup h.nodup _ _, ?_, h.size, fun p hp => ?_⟩
  · have := Dk.used_put h n f
    show _ ≤ d.size
    omega
  · have : p = (n, f) ∨ p ∈ d.fs := by
      unfold Dk.put mset at hp
      dsimp only at hp
      split at hp
      · obtain ⟨q, hq, e⟩ := List.mem_map.1 hp
        split at e
        · rename_i hn; exact .inl (by rw [← e, ← hn])
        · exact .inr (e ▸ hq)
      · rcases List.mem_append.1 hp with hp | hp
        · exact .inr hp
        · exact .inl (List.mem_singleton.1 hp)
    rcases this with rfl | hp
    · exact hs
    · exact h.safe p hp
theorem Dk.ok_del {d : Dk} (h : d.ok) (n : Nm) : (d.del n).ok :=
  ⟨mdel_nodup h.nodup _, by have := Dk.used_del h n; have := h.used; show _ ≤ d.size; omega, h.size, fun p hp => h.safe p (List.mem_filter.1 hp).1⟩
theorem Dk.get_put (d : Dk) (n m : Nm) (f : Fl) : (d.put n f).get m = if m = n then some f else d.get m := mget_mset _ _ _ _
theorem Dk.get_del (d : Dk) (n m : Nm) : (d.del n).get m = if m = n then none else d.get m := mget_mdel _ _ _
theorem Dk.safe_le {d : Dk} (h : d.ok) {n : Nm} {f : Fl} (hg : d.get n = some f) : f.safe ≤ f.b.length := h.safe _ (mget_mem hg)
def Dk.cells (d : Dk) (mb : Nat) : List Value := [.int .i64 (d.size : Int), .int .i64 (d.used : Int), .map (some mb)]
theorem lkNo (d : Dk) (n : Nm) : ((mget d.fs n).map Fl.val).getD (.agg #[.string ⟨#[]⟩, .int .i64 0]) = (d.file n).val := by
  unfold Dk.file; cases mget d.fs n <;> rfl
theorem lkOk (d : Dk) (n : Nm) : Value.tuple #[((mget d.fs n).map Fl.val).getD (.agg #[.string ⟨#[]⟩, .int .i64 0]), .bool (mget d.fs n).isSome] = .tuple #[(d.file n).val, .bool (d.get n).isSome] := by
  rw [lkNo]; rfl
theorem Dk.file_none {d : Dk} {n : Nm} (h : (d.get n).isSome = false) : d.file n = fl0 := by
  unfold Dk.get at h; unfold Dk.file; cases e : mget d.fs n with
  | none => rfl
  | some _ => rw [e] at h; cases h
theorem rdNo {d : Dk} {n : Nm} (h : (!(d.get n).isSome) = true) : d.file n = fl0 ∧ (if (d.get n).isSome = true then (0 : Int) else 8) = 8 := by
  have h0 : (d.get n).isSome = false := by simpa using h
  exact ⟨Dk.file_none h0, by rw [h0]; rfl⟩
theorem rdYes {d : Dk} {n : Nm} (h : (!(d.get n).isSome) = false) : (if (d.get n).isSome = true then (0 : Int) else 8) = 0 := by
  rw [if_pos (by simpa using h)]
theorem Dk.get_some {d : Dk} {n : Nm} : (d.get n).isSome = true ↔ d.get n = some (d.file n) := by
  unfold Dk.get Dk.file; cases mget d.fs n <;> simp
end Go.Proofs.YtglhoenjflpibaaGreatDoor

/- Chapter 3: bytes as ints, in plain Lean. -/
namespace Go.Proofs.YtglhoenjflpibaaGreatDoor
open Go Go.Sp

/-- The next int: its value, how many bytes, what was wrong. -/
def rintGo : Nat → Nat → Nat → List UInt8 → Int × Nat × Int
  | 0, _, _, _ => (0, 0, 4)
  | _ + 1, _, _, [] => (0, 0, 5)
  | f + 1, i, z, b :: l =>
    if i = 9 ∧ 1 < b.toNat then (0, 0, 4)
    else if 127 < b.toNat then rintGo f (i + 1) (z + b.toNat % 128 * 128 ^ i) l
    else if 0 < i ∧ b.toNat = 0 then (0, 0, 4)
    else (zag (z + b.toNat % 128 * 128 ^ i), i + 1, 0)
def rint (l : List UInt8) : Int × Nat × Int := rintGo 10 0 0 l

theorem pow7 (i : Nat) : 2 ^ (7 * i) = 128 ^ i := by rw [Nat.pow_mul]

/-- What is read so far fits. -/
theorem z_next {z i b : Nat} (hz : z < 128 ^ i) : z + b % 128 * 128 ^ i < 128 ^ (i + 1) := by
  have h1 : b % 128 * 128 ^ i ≤ 127 * 128 ^ i := Nat.mul_le_mul_right _ (by omega)
  rw [Nat.pow_succ]; omega
theorem z_fits {z i b : Nat} (hz : z < 128 ^ i) (hi : i ≤ 9) (h9 : ¬ (i = 9 ∧ 1 < b)) : z + b % 128 * 128 ^ i < 18446744073709551616 := by
  by_cases h : i = 9
  · subst h
    have : (128 : Nat) ^ 9 = 9223372036854775808 := by decide
    rw [this] at hz ⊢
    have : b % 128 ≤ 1 := by omega
    omega
  · have h1 := z_next (b := b) hz
    have h2 : 128 ^ (i + 1) ≤ 128 ^ 9 := Nat.pow_le_pow_right (by omega) (by omega)
    have : (128 : Nat) ^ 9 = 9223372036854775808 := by decide
    omega

theorem and127 (b : UInt8) : IntKind.u64.wrap (IntKind.u8.wrap ((BitVec.ofInt 8 (b.toNat : Int) &&& BitVec.ofInt 8 127).toNat : Int)) = ((b.toNat % 128 : Nat) : Int) := by
  have key : ∀ m : Fin 256, (BitVec.ofInt 8 ((m : Nat) : Int) &&& BitVec.ofInt 8 127).toNat = (m : Nat) % 128 := by decide +kernel
  have h := key ⟨b.toNat, b.toNat_lt⟩
  simp only at h
  rw [h, wrap_u8 (by omega), wrap_u64 (by omega)]

theorem or_shift {z i b : Nat} (hz : z < 128 ^ i) (hi : i ≤ 9) (h9 : ¬ (i = 9 ∧ 1 < b)) :
    IntKind.u64.wrap ((BitVec.ofInt 64 (z : Int) ||| BitVec.ofInt 64 (IntKind.u64.wrap (((b % 128 : Nat) : Int) * 2 ^ (min (7 * i) 64)))).toNat : Int) = ((z + b % 128 * 128 ^ i : Nat) : Int) := by
  have hf := z_fits hz hi h9
  have e1 : (((b % 128 : Nat) : Int) * 2 ^ (min (7 * i) 64)) = ((b % 128 * 128 ^ i : Nat) : Int) := by
    rw [Nat.min_eq_left (by omega), ← pow7]; push_cast; rfl
  rw [e1, wrap_u64 (n := b % 128 * 128 ^ i) (by omega), BitVec.toNat_or, toNat_ofInt64, toNat_ofInt64]
  have e2 : ((z : Int) % 18446744073709551616).toNat = z := by omega
  have e3 : (((b % 128 * 128 ^ i : Nat) : Int) % 18446744073709551616).toNat = b % 128 * 128 ^ i := by omega
  rw [e2, e3, wrap_u64]
  · have := Nat.shiftLeft_add_eq_or_of_lt (i := 7 * i) (b := z) (by rw [pow7]; exact hz) (b % 128)
    rw [Nat.shiftLeft_eq, pow7] at this
    rw [Nat.or_comm, ← this, Nat.add_comm]
  · have := Nat.shiftLeft_add_eq_or_of_lt (i := 7 * i) (b := z) (by rw [pow7]; exact hz) (b % 128)
    rw [Nat.shiftLeft_eq, pow7] at this
    rw [Nat.or_comm, ← this]; omega

/-- int(z>>1) ^ -int(z&1). -/
theorem zag_bits {z : Nat} (hz : z < 18446744073709551616) :
    IntKind.i64.wrap ((BitVec.ofInt 64 (IntKind.i64.wrap ((z : Int).fdiv (2 ^ (min 1 64)))) ^^^ BitVec.ofInt 64 (IntKind.i64.wrap (-(IntKind.i64.wrap (IntKind.u64.wrap ((BitVec.ofInt 64 (z : Int) &&& BitVec.ofInt 64 1).toNat : Int)))))).toNat : Int) = zag z := by
  have e0 : (z : Int).fdiv (2 ^ (min 1 64)) = ((z / 2 : Nat) : Int) := by
    show (z : Int).fdiv 2 = _
    rw [Int.fdiv_eq_ediv_of_nonneg _ (by omega)]; omega
  have e1 : (BitVec.ofInt 64 (z : Int) &&& BitVec.ofInt 64 1).toNat = z % 2 := by
    rw [BitVec.toNat_and, toNat_ofInt64, show ((z : Int) % 18446744073709551616).toNat = z by omega]
    show z &&& 1 = _
    rw [Nat.and_one_is_mod]
  rw [e0, e1, wrap_u64 (by omega), wrap_i64 (n := ((z % 2 : Nat) : Int)) (by omega) (by omega), ofInt_wrap, ofInt_wrap]
  unfold zag
  by_cases h : z % 2 = 1
  · rw [if_pos h, h, show BitVec.ofInt 64 (-((1 : Nat) : Int)) = BitVec.allOnes 64 from rfl, BitVec.xor_allOnes, BitVec.toNat_not, toNat_ofInt64]
    unfold IntKind.wrap; simp [IntKind.signed, IntKind.bits]; split <;> omega
  · rw [if_neg h, show z % 2 = 0 by omega, show BitVec.ofInt 64 (-((0 : Nat) : Int)) = 0#64 from rfl, BitVec.xor_zero, toNat_ofInt64]
    rw [wrap_i64 (by omega) (by omega)]; omega

end Go.Proofs.YtglhoenjflpibaaGreatDoor

/- Chapter 3: four bytes, in plain Lean. -/
namespace Go.Proofs.YtglhoenjflpibaaGreatDoor
open Go Go.Sp

def fours (n : Nat) : List UInt8 := [UInt8.ofNat (n / 16777216 % 256), UInt8.ofNat (n / 65536 % 256), UInt8.ofNat (n / 256 % 256), UInt8.ofNat (n % 256)]
def four : List UInt8 → Nat
  | a :: b :: c :: d :: _ => a.toNat * 16777216 + b.toNat * 65536 + c.toNat * 256 + d.toNat
  | _ => 0
theorem fours_len (n : Nat) : (fours n).length = 4 := rfl
theorem toNat_256 (n : Nat) : (UInt8.ofNat (n % 256)).toNat = n % 256 := by simp
theorem four_fours {n : Nat} (h : n < 4294967296) (l : List UInt8) : four (fours n ++ l) = n := by
  show (UInt8.ofNat (n / 16777216 % 256)).toNat * 16777216 + (UInt8.ofNat (n / 65536 % 256)).toNat * 65536 + (UInt8.ofNat (n / 256 % 256)).toNat * 256 + (UInt8.ofNat (n % 256)).toNat = n
  rw [toNat_256, toNat_256, toNat_256, toNat_256]; omega
theorem four_lt (l : List UInt8) : four l < 4294967296 := by
  unfold four
  split
  · rename_i a b c d _
    have := a.toNat_lt; have := b.toNat_lt; have := c.toNat_lt; have := d.toNat_lt; omega
  · omega
theorem fill4 (a b c d : Int) : Instr.fill (fun i => some (i * 1, 1)) (madeCells (Value.int .u8 0).cells (4 * 1)) [(0, .int .u8 a), (1, .int .u8 b), (2, .int .u8 c), (3, .int .u8 d)] = some ([.int .u8 a, .int .u8 b, .int .u8 c, .int .u8 d] : List Value).toArray := by kernel_rfl

theorem shr_byte (n k : Nat) (h : k ≤ 64) : (Value.int .u8 (IntKind.u8.wrap ((n : Int).fdiv (2 ^ (min k IntKind.i64.bits))))) = .int .u8 ((UInt8.ofNat (n / 2 ^ k % 256)).toNat : Int) := by
  have e : (n : Int).fdiv (2 ^ (min k IntKind.i64.bits)) = ((n / 2 ^ k : Nat) : Int) := by
    rw [show IntKind.i64.bits = 64 from rfl, Nat.min_eq_left h, Int.fdiv_eq_ediv_of_nonneg _ (by have : (0 : Int) < 2 ^ k := Int.pow_pos (by omega); omega)]; push_cast; rfl
  rw [e, u64_u8, toNat_256]
theorem low_byte (n : Nat) : (Value.int .u8 (IntKind.u8.wrap (n : Int))) = .int .u8 ((UInt8.ofNat (n % 256)).toNat : Int) := by rw [u64_u8, toNat_256]
end Go.Proofs.YtglhoenjflpibaaGreatDoor

/- Chapter 3: reading on, in plain Lean. -/
namespace Go.Proofs.YtglhoenjflpibaaGreatDoor
open Go Go.Sp

theorem rintGo_le : ∀ (f i z : Nat) (l : List UInt8), (rintGo f i z l).2.1 ≤ i + l.length
  | 0, _, _, _ => Nat.zero_le _
  | _ + 1, _, _, [] => Nat.zero_le _
  | f + 1, i, z, b :: l => by
    unfold rintGo
    split
    · exact Nat.zero_le _
    · split
      · have := rintGo_le f (i + 1) (z + b.toNat % 128 * 128 ^ i) l
        simp only [List.length_cons]; omega
      · split
        · exact Nat.zero_le _
        · simp only [List.length_cons]; omega
theorem rint_le (l : List UInt8) : (rint l).2.1 ≤ l.length := by have := rintGo_le 10 0 0 l; unfold rint; omega
theorem i64_zero : i64 0 := ⟨by decide, by decide⟩
theorem rintGo_i64 : ∀ (f i z : Nat) (l : List UInt8), z < 128 ^ i → i + f ≤ 10 → i64 (rintGo f i z l).1
  | 0, _, _, _, _, _ => i64_zero
  | _ + 1, _, _, [], _, _ => i64_zero
  | f + 1, i, z, b :: l, hz, hi => by
    unfold rintGo
    split
    · exact i64_zero
    · rename_i h9
      split
      · exact rintGo_i64 f (i + 1) _ l (z_next hz) (by omega)
      · split
        · exact i64_zero
        · exact zag_i64 (z_fits hz (by omega) h9)
theorem rint_i64 (l : List UInt8) : i64 (rint l).1 := rintGo_i64 10 0 0 l (by decide) (by omega)
theorem rintGo_err : ∀ (f i z : Nat) (l : List UInt8), (rintGo f i z l).2.2 ≠ 0 → (rintGo f i z l).1 = 0 ∧ (rintGo f i z l).2.1 = 0
  | 0, _, _, _, _ => ⟨rfl, rfl⟩
  | _ + 1, _, _, [], _ => ⟨rfl, rfl⟩
  | f + 1, i, z, b :: l, h => by
    unfold rintGo at h ⊢
    split
    · exact ⟨rfl, rfl⟩
    · rename_i h9
      rw [if_neg h9] at h
      split
      · rename_i h1
        rw [if_pos h1] at h
        exact rintGo_err f (i + 1) _ l h
      · rename_i h1
        rw [if_neg h1] at h
        split
        · exact ⟨rfl, rfl⟩
        · rename_i h2
          rw [if_neg h2] at h
          exact absurd rfl h
theorem rint_err {l : List UInt8} (h : (rint l).2.2 ≠ 0) : (rint l).1 = 0 ∧ (rint l).2.1 = 0 := rintGo_err 10 0 0 l h

/-- A reader: what is left, and whether all was well. -/
abbrev Rdr := List UInt8 × Bool
def rdI (r : Rdr) : Int × Rdr := ((rint r.1).1, r.1.drop (rint r.1).2.1, r.2 && decide ((rint r.1).2.2 = 0))
def rdT (most : Int) (r : Rdr) : List UInt8 × Rdr :=
  if 0 ≤ (rdI r).1 ∧ (rdI r).1 ≤ most ∧ (rdI r).1 ≤ (rdI r).2.1.length then ((rdI r).2.1.take (rdI r).1.toNat, (rdI r).2.1.drop (rdI r).1.toNat, (rdI r).2.2) else ([], (rdI r).2.1, false)
/-- The reference's: what is left, and whether anything was wrong. -/
def qdI (r : Rdr) : Int × Rdr := if (rint r.1).2.2 = 0 then ((rint r.1).1, r.1.drop (rint r.1).2.1, r.2) else (0, [], true)
def qdT (most : Int) (r : Rdr) : List UInt8 × Rdr :=
  if 0 ≤ (qdI r).1 ∧ (qdI r).1 ≤ most ∧ (qdI r).1 ≤ (qdI r).2.1.length then ((qdI r).2.1.take (qdI r).1.toNat, (qdI r).2.1.drop (qdI r).1.toNat, (qdI r).2.2) else ([], (qdI r).2.1, true)
theorem rdI_len (r : Rdr) : (rdI r).2.1.length ≤ r.1.length := by show (r.1.drop _).length ≤ _; rw [List.length_drop]; omega
theorem rdT_len (m : Int) (r : Rdr) : (rdT m r).2.1.length ≤ r.1.length := by
  unfold rdT; have := rdI_len r
  split
  · show ((rdI r).2.1.drop _).length ≤ _; rw [List.length_drop]; omega
  · exact this
end Go.Proofs.YtglhoenjflpibaaGreatDoor

/- Chapter 3: batches and records of metadata, in plain Lean. -/
namespace Go.Proofs.YtglhoenjflpibaaGreatDoor
open Go Go.Sp

structure Rec where
  key : List UInt8
  value : List UInt8
  time : Int
  deriving DecidableEq
structure Bat where
  base : Int
  epoch : Int
  pid : Int
  pidEpoch : Int
  seq : Int
  recs : List Rec
def Rec.cells (r : Rec) : List Value := [.string (str r.key), .string (str r.value), .int .i64 r.time]
theorem Rec.cells_len (r : Rec) : r.cells.length = 3 := rfl
theorem Rec.cells_ones (r : Rec) : ones r.cells := .of rfl
def Bat.cells (b : Bat) (a : Option Addr) (c : Nat) : List Value := [.int .i64 b.base, .int .i64 b.epoch, .int .i64 b.pid, .int .i64 b.pidEpoch, .int .i64 b.seq, .slice a b.recs.length c]
theorem Bat.cells_ones (b : Bat) (a c) : ones (b.cells a c) := .of rfl
/-- What fits. -/
structure Bat.fits (b : Bat) : Prop where
  base : i64 b.base
  epoch : i64 b.epoch
  pid : i64 b.pid
  pidEpoch : i64 b.pidEpoch
  seq : i64 b.seq
  time : ∀ r ∈ b.recs, i64 r.time
  key : ∀ r ∈ b.recs, r.key.length ≤ 140737488351232
  value : ∀ r ∈ b.recs, r.value.length ≤ 140737488351232
  len : b.recs.length * 40 ≤ 140737488351232

def recBody (r : Rec) : List UInt8 := eint r.time ++ eint (r.key.length : Int) ++ r.key ++ eint (r.value.length : Int) ++ r.value
def body (b : Bat) : List UInt8 := eint b.base ++ eint b.epoch ++ eint b.pid ++ eint b.pidEpoch ++ eint b.seq ++ eint (b.recs.length : Int) ++ b.recs.flatMap recBody
def wth (n m : Int) : Bool := decide (0 ≤ n ∧ n ≤ m)
/-- May it be? -/
def right (b : Bat) : Int :=
  if b.base < 0 ∨ ¬ (0 ≤ b.epoch ∧ b.epoch ≤ 1000000000) ∨ ¬ (0 ≤ b.pid ∧ b.pid ≤ 1000000000) ∨ ¬ (0 ≤ b.pidEpoch ∧ b.pidEpoch ≤ 1000000000) ∨ ¬ (0 ≤ b.seq ∧ b.seq ≤ 1000000000) ∨ (b.pid = 0 ∧ (b.pidEpoch ≠ 0 ∨ b.seq ≠ 0)) ∨ b.recs.length = 0 then 1
  else if ∃ r ∈ b.recs, ¬ (0 ≤ r.time ∧ r.time ≤ 1000000000) then 1
  else if 64 < b.recs.length then 3
  else if ∃ r ∈ b.recs, 1000 < r.key.length ∨ 1000 < r.value.length then 2
  else if 1000000000 - (b.recs.length : Int) + 1 < b.base ∨ 1000000 - (b.recs.length : Int) + 1 < b.seq then 20
  else if 4088 < (body b).length then 2
  else 0
def wbatch (b : Bat) : List UInt8 × Int := if right b = 0 then (fours (body b).length ++ fours (crc (body b)).toNat ++ body b, 0) else ([], right b)
end Go.Proofs.YtglhoenjflpibaaGreatDoor

/- Chapter 6: texts of chapter 3 (wire) under this seat's numbers. -/
namespace Go.Proofs.YtglhoenjflpibaaGreatDoor
open Go Go.Sp

set_option linter.unusedVariables false

namespace wire1
theorem ti5 : TI Tryz.prog 5 1 1 (.int .u8 0) := .of (by kernel_rfl)
end wire1
open wire1

theorem or128 (n : Nat) : (Value.int .u8 (IntKind.u8.wrap ((BitVec.ofInt 8 (IntKind.u8.wrap (n : Int)) ||| BitVec.ofInt 8 128).toNat : Int))) = .int .u8 ((UInt8.ofNat (n % 128 + 128)).toNat : Int) := by
  have key : ∀ m : Fin 256, (BitVec.ofInt 8 ((m : Nat) : Int) ||| BitVec.ofInt 8 128).toNat = (m : Nat) % 128 + 128 := by decide +kernel
  have h := key ⟨n % 256, by omega⟩
  rw [u64_u8 n]
  simp only at h
  rw [h, wrap_u8 (by omega)]
  have : (UInt8.ofNat (n % 128 + 128)).toNat = n % 128 + 128 := by simp; omega
  rw [this]; congr 2; omega
theorem u8_small {n : Nat} (h : n < 128) : (Value.int .u8 (IntKind.u8.wrap (n : Int))) = .int .u8 ((UInt8.ofNat n).toNat : Int) := by
  rw [wrap_u8 (by omega)]
  have : (UInt8.ofNat n).toNat = n := by simp; omega
  rw [this]
theorem shr7 (z : Nat) : (Value.int .u64 ((z : Int).fdiv (2 ^ (min 7 IntKind.u64.bits)))) = .int .u64 ((z / 128 : Nat) : Int) := by
  have : (2 : Int) ^ (min 7 IntKind.u64.bits) = 128 := by decide
  rw [this, Int.fdiv_eq_ediv_of_nonneg _ (by omega)]; rfl

set_option maxRecDepth 20000 in
theorem appendInt_ok (a : Option Addr) (c : Nat) (l : List UInt8) (n : Int) (hn : i64 n) (hl : l.length ≤ 1000000000000) : Cn Tryz.prog 105 [.slice a l.length c, .int .i64 n] (fun _ => True) [arr 5 1 a c (bcs l)] fun v G => ∃ a' c', v = .slice a' (l ++ eint n).length c' ∧ G = [arr 5 1 a' c' (bcs (l ++ eint n))] := by
  refine .enter Tryz.func105 rfl (by kernel_rfl) rfl fun R k => ?_
  refine .seq ?_
  refine .region ?_
  refine .rd (.assign rfl) ?_
  refine .nil ?_
  refine .seq ?_
  refine .region ?_
  refine .rd (.move rfl) ?_
  refine .rd (.shl (n := 1) rfl rfl) ?_
  refine .rd (.move rfl) ?_
  refine .rd (.shr (n := 63) rfl rfl) ?_
  refine .rd (.xor rfl rfl) ?_
  refine .rd (.convInt Tryz.underlying3 Tryz.underlying158 rfl) ?_
  refine .alter (t := 11) (v' := .int .u64 (zig n : Int)) rfl (by exact congrArg (Value.int .u64) (zig_bits hn)) ?_
  refine .rd (.assign rfl) ?_
  refine .nil ?_
  refine .seq ?_
  refine .block ?_
  refine .loop (σ := Nat × List UInt8 × Option Addr × Nat) (fun ⟨z, done, a', c'⟩ => done ++ vint z = l ++ eint n ∧ z < 18446744073709551616) (fun ⟨z, done, a', c'⟩ => z) (fun ⟨z, done, a', c'⟩ => [(0, .slice a' done.length c'), (5, .int .u64 (z : Int))]) (fun ⟨z, done, a', c'⟩ => [arr 5 1 a' c' (bcs done), R]) (zig n, l, a, c) ⟨rfl, zig_lt hn⟩ (.cons rfl (.cons rfl .nil)) (.cons .head (.cons .head .nil)) (fun s hI ih => ?_)
  obtain ⟨z, done, a', c'⟩ := s
  dsimp only at hI ih ⊢
  have hz := hI.2
  have hlen : done.length ≤ l.length + 10 := by have := congrArg List.length hI.1; simp only [List.length_append] at this; have := eint_len hn; omega
  refine .seq ?_
  refine .seq ?_
  refine .region ?_
  refine .rd (.move rfl) ?_
  refine .rd (.ge rfl rfl) ?_
  refine .nil ?_
  refine .condP rfl (fun h2 => ?_) (fun h2 => ?_)
  · refine .skip ?_
    refine .seq ?_
    refine .block ?_
    refine .region ?_
    refine .rd (.move rfl) ?_
    refine .rd (.move rfl) ?_
    refine .rd (.convInt Tryz.underlying158 Tryz.underlying5 rfl) ?_
    refine .rd (.or rfl rfl) ?_
    refine .alter (t := 19) (v' := .int .u8 ((UInt8.ofNat (z % 128 + 128)).toNat : Int)) rfl (by exact or128 z) ?_
    refine .ef (.buildOne (cs := bcs [UInt8.ofNat (z % 128 + 128)]) Tryz.underlying110 ti5 (by decide) rfl rfl rfl (ones.of rfl)) ?_
    rintro _ _ ⟨bs, rfl, rfl⟩
    refine .ef (.append rfl rfl Tryz.underlying110 ti5 rfl (ones.of rfl) (by decide) (by decide) rfl rfl (.tail .head) (n := done.length) (m := 1) (by rw [bcs_len, Nat.mul_one]) (.srcBlk .head Tryz.underlying110 rfl (by decide)) (by omega)) ?_
    rintro _ _ ⟨ra, rc, rfl, rn, rfl⟩
    refine .rd (.assign rfl) ?_
    refine .nil ?_
    refine .inBlock ?_
    refine .region ?_
    refine .rd (.move rfl) ?_
    refine .rd (.shr (n := 7) rfl rfl) ?_
    refine .alter (t := 15) (v' := .int .u64 ((z / 128 : Nat) : Int)) rfl (by exact shr7 z) ?_
    refine .rd (.assign rfl) ?_
    refine .nil ?_
    have hbig : ¬ z < 128 := by omega
    have hv := vint_big hbig
    rw [← bcs_append]
    exact (ih (z / 128, done ++ [UInt8.ofNat (z % 128 + 128)], ra, rc) ⟨by show done ++ [_] ++ vint (z / 128) = _; rw [List.append_assoc, ← hI.1, hv]; rfl, by show z / 128 < _; omega⟩ (by show z / 128 < z; omega)).to (.cons (by show _ = some (Value.slice ra (done ++ [UInt8.ofNat (z % 128 + 128)]).length rc); rw [List.length_append]; rfl) (.cons rfl .nil)) (.cons .head (.cons (.tail .head) .nil))
  · refine .exit rfl ?_
    refine .seq ?_
    refine .region ?_
    refine .rd (.move rfl) ?_
    refine .rd (.move rfl) ?_
    have hsm : z < 128 := by omega
    refine .rd (.convInt Tryz.underlying158 Tryz.underlying5 rfl) ?_
    refine .alter (t := 24) (v' := .int .u8 ((UInt8.ofNat z).toNat : Int)) rfl (by exact u8_small hsm) ?_
    refine .ef (.buildOne (cs := bcs [UInt8.ofNat z]) Tryz.underlying110 ti5 (by decide) rfl rfl rfl (ones.of rfl)) ?_
    rintro _ _ ⟨bs, rfl, rfl⟩
    refine .ef (.append rfl rfl Tryz.underlying110 ti5 rfl (ones.of rfl) (by decide) (by decide) rfl rfl (.tail .head) (n := done.length) (m := 1) (by rw [bcs_len, Nat.mul_one]) (.srcBlk .head Tryz.underlying110 rfl (by decide)) (by omega)) ?_
    rintro _ _ ⟨ra, rc, rfl, rn, rfl⟩
    refine .rd (.assign rfl) ?_
    refine .nil ?_
    rw [vint_small hsm] at hI
    rw [← bcs_append, hI.1]
    refine .retP Tryz.func105 (.cons (.tmp rfl) .nil) (.cons .head (.cons (.tail .head) .nil)) ?_
    exact ⟨[_], ⟨ra, rc, by simp only [resVal]; rw [← hI.1, List.length_append]; rfl, rfl⟩, rfl⟩

end Go.Proofs.YtglhoenjflpibaaGreatDoor


/- Chapter 6: texts of chapter 3 (wire) under this seat's numbers. -/
namespace Go.Proofs.YtglhoenjflpibaaGreatDoor
open Go Go.Sp

set_option linter.unusedVariables false

namespace wire3
theorem ti5 : TI Tryz.prog 5 1 1 (.int .u8 0) := .of (by kernel_rfl)
end wire3
open wire3



set_option maxRecDepth 20000 in
theorem appendText_ok (a : Option Addr) (c : Nat) (l s : List UInt8) (hs : s.length ≤ 100000000000000) (hl : l.length ≤ 1000000000000) : Cn Tryz.prog 106 [.slice a l.length c, .string (str s)] (fun _ => True) [arr 5 1 a c (bcs l)] fun v G => ∃ a' c', v = .slice a' (l ++ eint (s.length : Int) ++ s).length c' ∧ G = [arr 5 1 a' c' (bcs (l ++ eint (s.length : Int) ++ s))] := by
  refine .enter Tryz.func106 rfl (by kernel_rfl) rfl fun R k => ?_
  refine .seq ?_
  refine .region ?_
  refine .rd (.assign rfl) ?_
  refine .nil ?_
  refine .seq ?_
  refine .region ?_
  refine .rd (.move rfl) ?_
  refine .rd (.move rfl) ?_
  refine .rd (.lenT rfl rfl Tryz.underlying9 rfl) ?_
  refine .fn rfl rfl (.cons .head .nil) (fun _ _ _ => trivial) (appendInt_ok a c l (s.length : Int) (by unfold i64; omega) hl) (fun v G1 hq => ?_)
  obtain ⟨a', c', rfl, rfl⟩ := hq
  simp only [List.cons_append, List.nil_append]
  refine .rd (.move rfl) ?_
  refine .ef (.append rfl rfl Tryz.underlying110 ti5 rfl (ones.of rfl) (by decide) (by decide) rfl rfl .head (n := (l ++ eint (s.length : Int)).length) (m := s.length) (by rw [bcs_len, Nat.mul_one]) (.srcT Tryz.underlying9) (by rw [List.length_append]; have := eint_len (n := (s.length : Int)) (by unfold i64; omega); omega)) ?_
  rintro _ _ ⟨ra, rc, rfl, rn, rfl⟩
  refine .rd (.assign rfl) ?_
  refine .nil ?_
  rw [← bcs_append]
  refine .retP Tryz.func106 (.cons (.tmp rfl) .nil) (.cons .head (.cons .head .nil)) ?_
  exact ⟨[_], ⟨ra, rc, by simp only [resVal]; rw [← List.length_append], rfl⟩, rfl⟩

end Go.Proofs.YtglhoenjflpibaaGreatDoor


/- Chapter 6: texts of chapter 3 (wire) under this seat's numbers. -/
namespace Go.Proofs.YtglhoenjflpibaaGreatDoor
open Go Go.Sp

set_option linter.unusedVariables false

namespace wire9
theorem fd27_0 : FD Tryz.prog 34 0 0 := .of Tryz.underlying34 (by kernel_rfl)
theorem na3 : NotAgg Tryz.prog 3 := ⟨_, Tryz.underlying3, trivial⟩
theorem fd27_1 : FD Tryz.prog 34 1 1 := .of Tryz.underlying34 (by kernel_rfl)
theorem fd27_2 : FD Tryz.prog 34 2 2 := .of Tryz.underlying34 (by kernel_rfl)
theorem fd27_3 : FD Tryz.prog 34 3 3 := .of Tryz.underlying34 (by kernel_rfl)
theorem fd27_4 : FD Tryz.prog 34 4 4 := .of Tryz.underlying34 (by kernel_rfl)
theorem fd27_5 : FD Tryz.prog 34 5 5 := .of Tryz.underlying34 (by kernel_rfl)
theorem na25 : NotAgg Tryz.prog 32 := ⟨_, Tryz.underlying32, trivial⟩
theorem bld94_0_1_2_3_4_5 (x0 : Int) (x1 : Int) (x2 : Int) (x3 : Int) (x4 : Int) (x5 : Int) (w : World) : (Instr.build 141 (([0, 1, 2, 3, 4, 5] : List Nat).zip [.int .i64 x0, .int .i64 x1, .int .i64 x2, .int .i64 x3, .int .i64 x4, .int .i64 x5]).toArray).run Tryz.prog w = .ok (.agg #[.int .i64 x0, .int .i64 x1, .int .i64 x2, .int .i64 x3, .int .i64 x4, .int .i64 x5]) w := by kernel_rfl
theorem ts3 : TS Tryz.prog 3 1 := .of (by kernel_rfl)
theorem ts65 : TS Tryz.prog 66 3 := .of (by kernel_rfl)
theorem ia65 : IsAgg Tryz.prog 66 := ⟨_, Tryz.underlying66, trivial⟩
theorem ti65 : TI Tryz.prog 66 3 40 (.agg #[.string ⟨#[]⟩, .string ⟨#[]⟩, .int .i64 0]) := .of (by kernel_rfl)
theorem fd65_2 : FD Tryz.prog 66 2 2 := .of Tryz.underlying66 (by kernel_rfl)
theorem fd65_0 : FD Tryz.prog 66 0 0 := .of Tryz.underlying66 (by kernel_rfl)
theorem na9 : NotAgg Tryz.prog 9 := ⟨_, Tryz.underlying9, trivial⟩
theorem fd65_1 : FD Tryz.prog 66 1 1 := .of Tryz.underlying66 (by kernel_rfl)
end wire9
open wire9

def six (b : Bat) : List Int := [b.base, b.epoch, b.pid, b.pidEpoch, b.seq, (b.recs.length : Int)]
theorem six_ok {b : Bat} (h : b.fits) : ∀ n ∈ six b, i64 n := fun n hn => by
  have hl := h.len
  simp only [six, List.mem_cons, List.not_mem_nil, or_false] at hn
  rcases hn with rfl | rfl | rfl | rfl | rfl | rfl
  · exact h.base
  · exact h.epoch
  · exact h.pid
  · exact h.pidEpoch
  · exact h.seq
  · exact ⟨by omega, by omega⟩
theorem body_six (b : Bat) : body b = (six b).flatMap eint ++ b.recs.flatMap recBody := by simp [body, six]
theorem six_at {b : Bat} {i : Nat} {n : Int} (h : (six b)[i]? = some n) : (#[Value.int .i64 b.base, .int .i64 b.epoch, .int .i64 b.pid, .int .i64 b.pidEpoch, .int .i64 b.seq, .int .i64 (b.recs.length : Int)] : Array Value)[i]? = some (.int .i64 n) := by
  have : (#[Value.int .i64 b.base, .int .i64 b.epoch, .int .i64 b.pid, .int .i64 b.pidEpoch, .int .i64 b.seq, .int .i64 (b.recs.length : Int)] : Array Value) = ((six b).map (Value.int .i64)).toArray := rfl
  rw [this, List.getElem?_toArray, List.getElem?_map, h]; rfl
structure Bat.small (b : Bat) : Prop where
  n : b.recs.length ≤ 64
  k : ∀ r ∈ b.recs, r.key.length ≤ 1000 ∧ r.value.length ≤ 1000
theorem recBody_len {b : Bat} (hf : b.fits) (hs : b.small) {r : Rec} (hr : r ∈ b.recs) : (recBody r).length ≤ 2030 := by
  have h1 := eint_len (hf.time r hr)
  obtain ⟨h2, h3⟩ := hs.k r hr
  have h4 := eint_len (n := (r.key.length : Int)) ⟨by omega, by omega⟩
  have h5 := eint_len (n := (r.value.length : Int)) ⟨by omega, by omega⟩
  unfold recBody; simp only [List.length_append]; omega
theorem flat_le {α : Type} {f : α → List UInt8} {k : Nat} : ∀ (l : List α), (∀ x ∈ l, (f x).length ≤ k) → (l.flatMap f).length ≤ l.length * k
  | [], _ => by simp
  | x :: l, h => by
    have h1 := h x (by simp)
    have h2 := flat_le l fun y hy => h y (by simp [hy])
    rw [List.flatMap_cons, List.length_append, List.length_cons, Nat.succ_mul]; omega
theorem six_len {b : Bat} (hf : b.fits) (i : Nat) : (((six b).take i).flatMap eint).length ≤ 60 := by
  have h1 := flat_le (f := eint) (k := 10) ((six b).take i) fun n hn => eint_len (six_ok hf n (List.mem_of_mem_take hn))
  have h2 : ((six b).take i).length ≤ 6 := by rw [List.length_take]; exact Nat.min_le_right _ _
  omega
theorem take_flat {α : Type} {f : α → List UInt8} {l : List α} {i : Nat} {x : α} (h : l[i]? = some x) : (l.take (i + 1)).flatMap f = (l.take i).flatMap f ++ f x := by
  rw [List.take_add_one, h, List.flatMap_append]; simp

set_option maxRecDepth 20000 in
theorem body_ok (b : Bat) (a : Option Addr) (c : Nat) (hf : b.fits) (hs : b.small) : Cn Tryz.prog 71 [.agg (b.cells a c).toArray] (RowAt a (b.recs.flatMap Rec.cells)) [] fun v G => ∃ a' c', v = .slice a' (body b).length c' ∧ G = [arr 5 1 a' c' (bcs (body b))] := by
  refine .enter Tryz.func71 rfl (by kernel_rfl) rfl fun R k => ?_
  refine .seq ?_
  refine .region ?_
  refine .ef (.box (l := b.cells a c) rfl rfl (ones.of rfl)) ?_
  rintro _ _ ⟨b1, rfl, rfl⟩
  refine .rd (.assign rfl) ?_
  refine .nil ?_
  refine .seq ?_
  refine .region ?_
  refine .rd (.assign rfl) ?_
  refine .nil ?_
  refine .nilArr 5 1 none ?_
  refine .seq ?_
  refine .seq ?_
  refine .region ?_
  refine .rd (.fieldAddr fd27_0 rfl) ?_
  refine .rd (.ld na3 rfl (.tail .head) rfl) ?_
  refine .rd (.fieldAddr fd27_1 rfl) ?_
  refine .rd (.ld na3 rfl (.tail .head) rfl) ?_
  refine .rd (.fieldAddr fd27_2 rfl) ?_
  refine .rd (.ld na3 rfl (.tail .head) rfl) ?_
  refine .rd (.fieldAddr fd27_3 rfl) ?_
  refine .rd (.ld na3 rfl (.tail .head) rfl) ?_
  refine .rd (.fieldAddr fd27_4 rfl) ?_
  refine .rd (.ld na3 rfl (.tail .head) rfl) ?_
  refine .rd (.fieldAddr fd27_5 rfl) ?_
  refine .rd (.ld na25 rfl (.tail .head) rfl) ?_
  refine .rd (.lenL rfl rfl Tryz.underlying32 rfl) ?_
  refine .rd (.build rfl (bld94_0_1_2_3_4_5 _ _ _ _ _ _)) ?_
  refine .rd (.move rfl) ?_
  refine .nil ?_
  refine .block ?_
  refine .loop (σ := Nat × Option Addr × Nat) (fun ⟨i, a', c'⟩ => i ≤ 6) (fun ⟨i, a', c'⟩ => 6 - i) (fun ⟨i, a', c'⟩ => [(1, .pointer (some ⟨b1, 0, none⟩)), (3, .slice a' (((six b).take i).flatMap eint).length c'), (21, .agg #[.int .i64 b.base, .int .i64 b.epoch, .int .i64 b.pid, .int .i64 b.pidEpoch, .int .i64 b.seq, .int .i64 (b.recs.length : Int)]), (22, .int .i64 (i : Nat))]) (fun ⟨i, a', c'⟩ => [arr 5 1 a' c' (bcs (((six b).take i).flatMap eint)), blk b1 (b.cells a c) 34, R]) (0, none, 0) (Nat.zero_le _) (.cons rfl (.cons rfl (.cons rfl (.cons rfl .nil)))) (.cons .head (.cons .head (.cons .head .nil))) (fun s hI ih => ?_)
  obtain ⟨i, a', c'⟩ := s
  dsimp only at hI ih ⊢
  refine .seq ?_
  refine .region ?_
  refine .rd (.lt rfl rfl) ?_
  refine .nil ?_
  refine .seq ?_
  refine .condP rfl (fun h3 => ?_) (fun h3 => ?_)
  · refine .skip ?_
    refine .seq ?_
    refine .block ?_
    refine .seq ?_
    have hlt : i < (six b).length := by show i < 6; omega
    obtain ⟨n, hn⟩ : ∃ n, (six b)[i]? = some n := ⟨_, List.getElem?_eq_getElem hlt⟩
    have hdl := six_len hf i
    refine .region ?_
    refine .rd (.indexA1 Tryz.underlying141 na3 ts3 rfl rfl (by omega) (by omega) (by rw [Int.toNat_natCast, Nat.mul_one]; exact six_at hn)) ?_
    refine .rd (.assign rfl) ?_
    refine .nil ?_
    refine .region ?_
    refine .rd (.move rfl) ?_
    refine .rd (.move rfl) ?_
    refine .fn rfl rfl (.cons .head .nil) (fun _ _ _ => trivial) (appendInt_ok a' c' (((six b).take i).flatMap eint) n (six_ok hf n (List.mem_of_getElem? hn)) (by omega)) (fun v G1 hq => ?_)
    obtain ⟨a2, c2, rfl, rfl⟩ := hq
    simp only [List.cons_append, List.nil_append]
    refine .rd (.assign rfl) ?_
    refine .nil ?_
    refine .inBlock ?_
    refine .region ?_
    refine .rd (.add rfl rfl (by omega) (by omega)) ?_
    refine .rd (.move rfl) ?_
    refine .nil ?_
    rw [← take_flat hn]
    exact (ih (i + 1, a2, c2) (by show i + 1 ≤ 6; omega) (by show 6 - (i + 1) < 6 - i; omega)).to (.cons rfl (.cons (by show _ = some (Value.slice a2 (((six b).take (i + 1)).flatMap eint).length c2); rw [take_flat hn]; rfl) (.cons rfl (.cons rfl .nil)))) (.cons .head (.cons .head (.cons .head .nil)))
  · obtain rfl : i = 6 := by omega
    have h6 : (six b).take 6 = six b := rfl
    rw [h6]
    refine .alter (t := 3) (v' := .slice a' ((six b).flatMap eint ++ (b.recs.take 0).flatMap recBody).length c') rfl (by rw [List.take_zero, List.flatMap_nil, List.append_nil]) ?_
    have he0 : (six b).flatMap eint = (six b).flatMap eint ++ (b.recs.take 0).flatMap recBody := by rw [List.take_zero, List.flatMap_nil, List.append_nil]
    refine .exit rfl ?_
    refine .seq ?_
    refine .seq ?_
    refine .region ?_
    refine .rd (.fieldAddr fd27_5 rfl) ?_
    refine .rd (.ld na25 rfl (.tail .head) rfl) ?_
    refine .rd (.lenL rfl rfl Tryz.underlying32 rfl) ?_
    refine .rd (.move rfl) ?_
    refine .nil ?_
    refine .cast (X' := arr 5 1 a' c' (bcs ((six b).flatMap eint ++ (b.recs.take 0).flatMap recBody))) (by rw [← he0]) ?_
    refine .block ?_
    refine .loop (σ := Nat × Option Addr × Nat) (fun ⟨j, a', c'⟩ => j ≤ b.recs.length) (fun ⟨j, a', c'⟩ => b.recs.length - j) (fun ⟨j, a', c'⟩ => [(3, .slice a' ((six b).flatMap eint ++ (b.recs.take j).flatMap recBody).length c'), (30, .slice a b.recs.length c), (31, .int .i64 b.recs.length), (32, .int .i64 (j : Nat))]) (fun ⟨j, a', c'⟩ => [arr 5 1 a' c' (bcs ((six b).flatMap eint ++ (b.recs.take j).flatMap recBody)), R]) (0, a', c') (Nat.zero_le _) (.cons rfl (.cons rfl (.cons rfl (.cons rfl .nil)))) (.cons .head (.cons (.tail .head) .nil)) (fun s hI ih => ?_)
    obtain ⟨j, a', c'⟩ := s
    dsimp only at hI ih ⊢
    have hsn := hs.n
    refine .seq ?_
    refine .region ?_
    refine .rd (.lt rfl rfl) ?_
    refine .nil ?_
    refine .seq ?_
    refine .condP rfl (fun h8 => ?_) (fun h8 => ?_)
    · refine .skip ?_
      refine .seq ?_
      refine .block ?_
      refine .seq ?_
      have hjl : j < b.recs.length := by omega
      obtain ⟨r, hr⟩ : ∃ r, b.recs[j]? = some r := ⟨_, List.getElem?_eq_getElem hjl⟩
      have hrm := List.mem_of_getElem? hr
      obtain ⟨hk1, hk2⟩ := hs.k r hrm
      have hd1 := six_len hf 6
      rw [show (six b).take 6 = six b from rfl] at hd1
      have hd2 := flat_le (f := recBody) (k := 2030) (b.recs.take j) fun x hx => recBody_len hf hs (List.mem_of_mem_take hx)
      have hd3 : (b.recs.take j).length ≤ 64 := by rw [List.length_take]; have := hs.n; omega
      have hd4 : ((six b).flatMap eint ++ (b.recs.take j).flatMap recBody).length ≤ 200000 := by rw [List.length_append]; omega
      have he1 := eint_len (hf.time r hrm)
      have he2 := eint_len (n := (r.key.length : Int)) ⟨by omega, by omega⟩
      refine .tell (φ := ∃ b o, a = some ⟨b, o, none⟩) (Knows.pick (.tail .head) (k.mono fun _ h => h.addr (by rw [flat_length Rec.cells_len]; omega))) (fun hx => ?_)
      obtain ⟨bb, oo, rfl⟩ := hx
      refine .region ?_
      refine .rd (.indexAddr Tryz.underlying32 ts65 rfl rfl (by omega) (by omega)) ?_
      refine .rd (.loadN ia65 ts65 rfl rfl (Knows.elem Rec.cells_len (by decide) (Knows.pick (.tail .head) k) hr)) ?_
      refine .ef (.alloc ti65 rfl (ones.of rfl)) ?_
      rintro _ _ ⟨b7, rfl, rfl⟩
      refine .ef0 (.storeAll (vs := r.cells) ts65 rfl rfl rfl .head rfl (ones.of rfl)) ?_
      rintro _ _ rfl
      refine .nil ?_
      refine .draws [2, 5, 8] [blk b7 r.cells 66] (by kernel_rfl) ?_
      refine .rp 0 rfl (by kernel_rfl) (by kernel_rfl) (by kernel_rfl) (Reads.pure (.move rfl)) ?_
      refine .rp 1 rfl (by kernel_rfl) (by kernel_rfl) (by kernel_rfl) (Reads.pure (.fieldAddr fd65_2 rfl)) ?_
      refine .rd 2 rfl rfl (by kernel_rfl) (by kernel_rfl) (by kernel_rfl) (.ld na3 rfl .head rfl) (.cons .head .nil) ?_
      refine .rp 4 rfl (by kernel_rfl) (by kernel_rfl) (by kernel_rfl) (Reads.pure (.fieldAddr fd65_0 rfl)) ?_
      refine .rd 5 rfl rfl (by kernel_rfl) (by kernel_rfl) (by kernel_rfl) (.ld na9 rfl .head rfl) (.cons .head .nil) ?_
      refine .rp 7 rfl (by kernel_rfl) (by kernel_rfl) (by kernel_rfl) (Reads.pure (.fieldAddr fd65_1 rfl)) ?_
      refine .rd 8 rfl rfl (by kernel_rfl) (by kernel_rfl) (by kernel_rfl) (.ld na9 rfl .head rfl) (.cons .head .nil) ?_
      refine .ef 3 (by kernel_rfl) rfl (.fn rfl rfl (.cons (.tail .head) .nil) (fun _ _ _ => trivial) (appendInt_ok a' c' ((six b).flatMap eint ++ (b.recs.take j).flatMap recBody) r.time (hf.time r hrm) (by omega))) ?_
      rintro v _ ⟨G1, hq, rfl⟩
      obtain ⟨a2, c2, rfl, rfl⟩ := hq
      simp only [List.cons_append, List.nil_append]
      refine ⟨.inr ⟨_, (.cons (.tail .head) .nil)⟩, ?_⟩
      refine .ef 6 (by kernel_rfl) rfl (.fn rfl rfl (.cons .head .nil) (fun _ _ _ => trivial) (appendText_ok a2 c2 (((six b).flatMap eint ++ (b.recs.take j).flatMap recBody) ++ eint r.time) r.key (by omega) (by rw [List.length_append]; omega))) ?_
      rintro v _ ⟨G1, hq, rfl⟩
      obtain ⟨a3, c3, rfl, rfl⟩ := hq
      simp only [List.cons_append, List.nil_append]
      refine ⟨.inr ⟨_, (.cons (.tail .head) .nil)⟩, ?_⟩
      refine .ef 9 (by kernel_rfl) rfl (.fn rfl rfl (.cons .head .nil) (fun _ _ _ => trivial) (appendText_ok a3 c3 ((((six b).flatMap eint ++ (b.recs.take j).flatMap recBody) ++ eint r.time) ++ eint (r.key.length : Int) ++ r.key) r.value (by omega) (by simp only [List.length_append] at hd4 ⊢; omega))) ?_
      rintro v _ ⟨G1, hq, rfl⟩
      obtain ⟨a4, c4, rfl, rfl⟩ := hq
      simp only [List.cons_append, List.nil_append]
      refine ⟨.inl (by kernel_rfl), ?_⟩
      refine .rp 10 rfl (by kernel_rfl) (by kernel_rfl) (by kernel_rfl) (Reads.pure (.assign rfl)) ?_
      refine .done (by kernel_rfl) ?_
      refine .inBlock ?_
      refine .region ?_
      refine .rd (.add rfl rfl (by omega) (by omega)) ?_
      refine .rd (.move rfl) ?_
      refine .nil ?_
      have hfin : ((((six b).flatMap eint ++ (b.recs.take j).flatMap recBody) ++ eint r.time) ++ eint (r.key.length : Int) ++ r.key) ++ eint (r.value.length : Int) ++ r.value = (six b).flatMap eint ++ (b.recs.take (j + 1)).flatMap recBody := by rw [take_flat hr]; simp only [recBody, List.append_assoc]
      rw [hfin]
      exact (ih (j + 1, a4, c4) (by show j + 1 ≤ _; omega) (by show b.recs.length - (j + 1) < b.recs.length - j; omega)).to (.cons (by show _ = some (Value.slice a4 ((six b).flatMap eint ++ (b.recs.take (j + 1)).flatMap recBody).length c4); rw [← hfin]; rfl) (.cons rfl (.cons rfl (.cons rfl .nil)))) (.cons .head (.cons (.tail .head) .nil))
    · refine .exit rfl ?_
      refine .seq ?_
      refine .region ?_
      refine .rd (.move rfl) ?_
      refine .rd (.assign rfl) ?_
      refine .nil ?_
      obtain rfl : j = b.recs.length := by omega
      rw [List.take_length, ← body_six]
      refine .retP Tryz.func71 (.cons (.tmp rfl) .nil) (.cons .head (.cons .head .nil)) ?_
      exact ⟨[_], ⟨a', c', rfl, rfl⟩, rfl⟩

end Go.Proofs.YtglhoenjflpibaaGreatDoor


/- Chapter 3: may a batch be? In plain Lean. -/
namespace Go.Proofs.YtglhoenjflpibaaGreatDoor
open Go Go.Sp

def orI (x y : Int) : Int := IntKind.i64.wrap ((BitVec.ofInt 64 x ||| BitVec.ofInt 64 y).toNat : Int)
theorem ofInt_zero {x : Int} (h : i64 x) : BitVec.ofInt 64 x = 0#64 ↔ x = 0 := by
  obtain ⟨h1, h2⟩ := h
  constructor
  · intro e
    have := congrArg BitVec.toNat e
    rw [toNat_ofInt64] at this
    have h0 : (0#64).toNat = 0 := rfl
    omega
  · rintro rfl; rfl
theorem orI_zero {x y : Int} (hx : i64 x) (hy : i64 y) : orI x y = 0 ↔ x = 0 ∧ y = 0 := by
  have h1 : orI x y = 0 ↔ (BitVec.ofInt 64 x ||| BitVec.ofInt 64 y) = 0#64 := by
    unfold orI
    generalize BitVec.ofInt 64 x ||| BitVec.ofInt 64 y = v
    have hv := v.isLt
    constructor
    · intro e
      unfold IntKind.wrap at e; simp [IntKind.signed, IntKind.bits] at e
      apply BitVec.eq_of_toNat_eq
      have h0 : (0#64).toNat = 0 := rfl
      split at e <;> omega
    · rintro rfl; rfl
  rw [h1, BitVec.or_eq_zero_iff, ofInt_zero hx, ofInt_zero hy]
/-- Its numbers may not be. -/
def Bat.off (b : Bat) : Prop := b.base < 0 ∨ ¬ (0 ≤ b.epoch ∧ b.epoch ≤ 1000000000) ∨ ¬ (0 ≤ b.pid ∧ b.pid ≤ 1000000000) ∨ ¬ (0 ≤ b.pidEpoch ∧ b.pidEpoch ≤ 1000000000) ∨ ¬ (0 ≤ b.seq ∧ b.seq ≤ 1000000000) ∨ (b.pid = 0 ∧ (b.pidEpoch ≠ 0 ∨ b.seq ≠ 0)) ∨ b.recs.length = 0
def timely (r : Rec) : Prop := 0 ≤ r.time ∧ r.time ≤ 1000000000
def long (r : Rec) : Bool := decide (1000 < r.key.length) || decide (1000 < r.value.length)
theorem long_iff (r : Rec) : long r = true ↔ 1000 < r.key.length ∨ 1000 < r.value.length := by simp [long]
theorem long_r3 {r : Rec} (h : ¬ 1000 < r.key.length) : long r = decide (1000 < r.value.length) := by unfold long; rw [decide_eq_false h, Bool.false_or]
theorem right_off {b : Bat} (h : b.off) : right b = 1 := if_pos h
theorem right_time {b : Bat} {r : Rec} {j : Nat} (h : b.recs[j]? = some r) (ht : ¬ timely r) : right b = 1 := by
  unfold right
  split
  · rfl
  · rw [if_pos ⟨r, List.mem_of_getElem? h, ht⟩]
theorem right_on {b : Bat} (h : ¬ b.off) (ht : ∀ r ∈ b.recs, timely r) : right b = if 64 < b.recs.length then 3 else if b.recs.any long then 2 else if 1000000000 - (b.recs.length : Int) + 1 < b.base ∨ 1000000 - (b.recs.length : Int) + 1 < b.seq then 20 else if 4088 < (body b).length then 2 else 0 := by
  have h2 : ¬ ∃ r ∈ b.recs, ¬ (0 ≤ r.time ∧ r.time ≤ 1000000000) := fun ⟨r, hr, h⟩ => h (ht r hr)
  have h3 : (∃ r ∈ b.recs, 1000 < r.key.length ∨ 1000 < r.value.length) ↔ b.recs.any long = true := by
    rw [List.any_eq_true]
    exact ⟨fun ⟨r, hr, h⟩ => ⟨r, hr, (long_iff r).2 h⟩, fun ⟨r, hr, h⟩ => ⟨r, hr, (long_iff r).1 h⟩⟩
  unfold Bat.off at h
  unfold right
  rw [if_neg h, if_neg h2]
  simp only [h3]
theorem any_take {α : Type} {f : α → Bool} {l : List α} {j : Nat} {x : α} (h : l[j]? = some x) : (l.take (j + 1)).any f = ((l.take j).any f || f x) := by
  rw [List.take_add_one, h, List.any_append]; simp
theorem all_take {α : Type} {p : α → Prop} {l : List α} {j : Nat} {x : α} (h : l[j]? = some x) (hx : p x) (hj : ∀ y ∈ l.take j, p y) : ∀ y ∈ l.take (j + 1), p y := by
  rw [List.take_add_one, h]
  intro y hy
  rcases List.mem_append.1 hy with hy | hy
  · exact hj y hy
  · simp at hy; exact hy ▸ hx
theorem small_of {b : Bat} (hn : ¬ 64 < b.recs.length) (hl : ¬ b.recs.any long = true) : b.small := ⟨by omega, fun r hr => by
  have : ¬ long r = true := fun h => hl (List.any_eq_true.2 ⟨r, hr, h⟩)
  rw [long_iff] at this; omega⟩
theorem body_len {b : Bat} (hf : b.fits) (hs : b.small) : (body b).length ≤ 200000 := by
  have h1 := six_len hf 6
  rw [show (six b).take 6 = six b from rfl] at h1
  have h2 := flat_le (f := recBody) (k := 2030) b.recs fun r hr => recBody_len hf hs hr
  have h3 := hs.n
  rw [body_six, List.length_append]; omega
theorem right_zero {b : Bat} (h : right b = 0) : b.small ∧ (body b).length ≤ 4088 := by
  by_cases hno : b.off
  · rw [right_off hno] at h; cases h
  by_cases ht : ∀ r ∈ b.recs, timely r
  · rw [right_on hno ht] at h
    split at h
    · cases h
    · split at h
      · cases h
      · rename_i h1 h2
        refine ⟨small_of h1 h2, ?_⟩
        split at h
        · cases h
        · split at h
          · cases h
          · omega
  · have h2 : ∃ r, r ∈ b.recs ∧ ¬ timely r := Classical.byContradiction fun hx => ht fun r hr => Classical.byContradiction fun hy => hx ⟨r, hr, hy⟩
    obtain ⟨r, hr, h3⟩ := h2
    obtain ⟨j, hj⟩ := List.getElem?_of_mem hr
    rw [right_time hj h3] at h; cases h
theorem wbatch_no {b : Bat} (h : right b ≠ 0) : wbatch b = ([], right b) := if_neg h
theorem wbatch_yes {b : Bat} (h : right b = 0) : wbatch b = (fours (body b).length ++ fours (crc (body b)).toNat ++ body b, 0) := if_pos h
end Go.Proofs.YtglhoenjflpibaaGreatDoor

/- Chapter 3: bytes as batches and as records of metadata, in plain Lean. -/
namespace Go.Proofs.YtglhoenjflpibaaGreatDoor
open Go Go.Sp

abbrev Par (α : Type) := Option (α × List UInt8)
def pI (l : List UInt8) : Par Int := if (rint l).2.2 = 0 then some ((rint l).1, l.drop (rint l).2.1) else none
def pT (most : Int) (l : List UInt8) : Par (List UInt8) := (pI l).bind fun x => if 0 ≤ x.1 ∧ x.1 ≤ most ∧ x.1 ≤ x.2.length then some (x.2.take x.1.toNat, x.2.drop x.1.toNat) else none
def pMany {α : Type} (p : List UInt8 → Par α) : Nat → List UInt8 → Par (List α)
  | 0, l => some ([], l)
  | n + 1, l => (pMany p n l).bind fun x => (p x.2).map fun y => (x.1 ++ [y.1], y.2)

theorem pMany_none {α : Type} {p : List UInt8 → Par α} {l : List UInt8} {k : Nat} (h : pMany p k l = none) : ∀ m, k ≤ m → pMany p m l = none := by
  intro m hm
  induction m with
  | zero => obtain rfl : k = 0 := by omega
            exact h
  | succ m ih =>
    by_cases hk : k = m + 1
    · subst hk; exact h
    · rw [pMany, ih (by omega)]; rfl

/-- A reader has followed a reading: all was well, and this was read, or all was not. -/
def Fol {α : Type} (good : Bool) (l : List UInt8) (o : Par α) (x : α) : Prop := (good = true ∧ o = some (x, l)) ∨ (good = false ∧ o = none)

theorem Fol.rdI {α β : Type} {p : Rdr} {o : Par α} {x : α} (h : Fol p.2 p.1 o x) {f : α → Int → β} : Fol (rdI p).2.2 (rdI p).2.1 (o.bind fun y => (pI y.2).map fun z => (f y.1 z.1, z.2)) (f x (rdI p).1) := by
  rcases h with ⟨hg, rfl⟩ | ⟨hg, rfl⟩
  · by_cases he : (rint p.1).2.2 = 0
    · refine .inl ⟨by simp [Go.Proofs.YtglhoenjflpibaaGreatDoor.rdI, hg, he], ?_⟩
      simp [pI, he, Go.Proofs.YtglhoenjflpibaaGreatDoor.rdI]
    · refine .inr ⟨by simp [Go.Proofs.YtglhoenjflpibaaGreatDoor.rdI, he], ?_⟩
      simp [pI, he]
  · exact .inr ⟨by simp [Go.Proofs.YtglhoenjflpibaaGreatDoor.rdI, hg], rfl⟩
theorem Fol.rdT {α β : Type} {p : Rdr} {o : Par α} {x : α} (most : Int) (h : Fol p.2 p.1 o x) {f : α → List UInt8 → β} : Fol (rdT most p).2.2 (rdT most p).2.1 (o.bind fun y => (pT most y.2).map fun z => (f y.1 z.1, z.2)) (f x (rdT most p).1) := by
  rcases h with ⟨hg, rfl⟩ | ⟨hg, rfl⟩
  · by_cases he : (rint p.1).2.2 = 0
    · have h1 : pI p.1 = some ((Go.Proofs.YtglhoenjflpibaaGreatDoor.rdI p).1, (Go.Proofs.YtglhoenjflpibaaGreatDoor.rdI p).2.1) := by simp [pI, he, Go.Proofs.YtglhoenjflpibaaGreatDoor.rdI]
      have h2 : (Go.Proofs.YtglhoenjflpibaaGreatDoor.rdI p).2.2 = true := by simp [Go.Proofs.YtglhoenjflpibaaGreatDoor.rdI, hg, he]
      have h3 : pT most p.1 = if 0 ≤ (Go.Proofs.YtglhoenjflpibaaGreatDoor.rdI p).1 ∧ (Go.Proofs.YtglhoenjflpibaaGreatDoor.rdI p).1 ≤ most ∧ (Go.Proofs.YtglhoenjflpibaaGreatDoor.rdI p).1 ≤ (Go.Proofs.YtglhoenjflpibaaGreatDoor.rdI p).2.1.length then some ((Go.Proofs.YtglhoenjflpibaaGreatDoor.rdI p).2.1.take (Go.Proofs.YtglhoenjflpibaaGreatDoor.rdI p).1.toNat, (Go.Proofs.YtglhoenjflpibaaGreatDoor.rdI p).2.1.drop (Go.Proofs.YtglhoenjflpibaaGreatDoor.rdI p).1.toNat) else none := by simp [pT, h1]
      by_cases hc : 0 ≤ (Go.Proofs.YtglhoenjflpibaaGreatDoor.rdI p).1 ∧ (Go.Proofs.YtglhoenjflpibaaGreatDoor.rdI p).1 ≤ most ∧ (Go.Proofs.YtglhoenjflpibaaGreatDoor.rdI p).1 ≤ (Go.Proofs.YtglhoenjflpibaaGreatDoor.rdI p).2.1.length
      · refine .inl ⟨by simp [Go.Proofs.YtglhoenjflpibaaGreatDoor.rdT, hc, h2], ?_⟩
        simp [h3, hc, Go.Proofs.YtglhoenjflpibaaGreatDoor.rdT]
      · refine .inr ⟨by simp only [Go.Proofs.YtglhoenjflpibaaGreatDoor.rdT, if_neg hc], ?_⟩
        simp [h3, hc]
    · refine .inr ⟨?_, ?_⟩
      · have h2 : (Go.Proofs.YtglhoenjflpibaaGreatDoor.rdI p).2.2 = false := by simp [Go.Proofs.YtglhoenjflpibaaGreatDoor.rdI, he]
        unfold Go.Proofs.YtglhoenjflpibaaGreatDoor.rdT; split
        · exact h2
        · rfl
      · simp [pT, pI, he]
  · refine .inr ⟨?_, rfl⟩
    have h2 : (Go.Proofs.YtglhoenjflpibaaGreatDoor.rdI p).2.2 = false := by simp [Go.Proofs.YtglhoenjflpibaaGreatDoor.rdI, hg]
    unfold Go.Proofs.YtglhoenjflpibaaGreatDoor.rdT; split
    · exact h2
    · rfl
theorem Fol.qdI {α β : Type} {p : Rdr} {o : Par α} {x : α} (h : Fol (!p.2) p.1 o x) {f : α → Int → β} : Fol (!(qdI p).2.2) (qdI p).2.1 (o.bind fun y => (pI y.2).map fun z => (f y.1 z.1, z.2)) (f x (qdI p).1) := by
  rcases h with ⟨hg, rfl⟩ | ⟨hg, rfl⟩
  · have hg' : p.2 = false := by simpa using hg
    by_cases he : (rint p.1).2.2 = 0
    · refine .inl ⟨by simp [Go.Proofs.YtglhoenjflpibaaGreatDoor.qdI, hg', he], ?_⟩
      simp [pI, he, Go.Proofs.YtglhoenjflpibaaGreatDoor.qdI]
    · refine .inr ⟨by simp [Go.Proofs.YtglhoenjflpibaaGreatDoor.qdI, he], ?_⟩
      simp [pI, he]
  · have hg' : p.2 = true := by simpa using hg
    exact .inr ⟨by unfold Go.Proofs.YtglhoenjflpibaaGreatDoor.qdI; split <;> simp [hg'], rfl⟩
theorem Fol.qdT {α β : Type} {p : Rdr} {o : Par α} {x : α} (most : Int) (h : Fol (!p.2) p.1 o x) {f : α → List UInt8 → β} : Fol (!(qdT most p).2.2) (qdT most p).2.1 (o.bind fun y => (pT most y.2).map fun z => (f y.1 z.1, z.2)) (f x (qdT most p).1) := by
  have hqt : ∀ h2 : (Go.Proofs.YtglhoenjflpibaaGreatDoor.qdI p).2.2 = true, (Go.Proofs.YtglhoenjflpibaaGreatDoor.qdT most p).2.2 = true := by
    intro h2
    unfold Go.Proofs.YtglhoenjflpibaaGreatDoor.qdT; split
    · exact h2
    · rfl
  rcases h with ⟨hg, rfl⟩ | ⟨hg, rfl⟩
  · have hg' : p.2 = false := by simpa using hg
    by_cases he : (rint p.1).2.2 = 0
    · have h1 : pI p.1 = some ((Go.Proofs.YtglhoenjflpibaaGreatDoor.qdI p).1, (Go.Proofs.YtglhoenjflpibaaGreatDoor.qdI p).2.1) := by simp [pI, he, Go.Proofs.YtglhoenjflpibaaGreatDoor.qdI]
      have h2 : (Go.Proofs.YtglhoenjflpibaaGreatDoor.qdI p).2.2 = false := by simp [Go.Proofs.YtglhoenjflpibaaGreatDoor.qdI, hg', he]
      have h3 : pT most p.1 = if 0 ≤ (Go.Proofs.YtglhoenjflpibaaGreatDoor.qdI p).1 ∧ (Go.Proofs.YtglhoenjflpibaaGreatDoor.qdI p).1 ≤ most ∧ (Go.Proofs.YtglhoenjflpibaaGreatDoor.qdI p).1 ≤ (Go.Proofs.YtglhoenjflpibaaGreatDoor.qdI p).2.1.length then some ((Go.Proofs.YtglhoenjflpibaaGreatDoor.qdI p).2.1.take (Go.Proofs.YtglhoenjflpibaaGreatDoor.qdI p).1.toNat, (Go.Proofs.YtglhoenjflpibaaGreatDoor.qdI p).2.1.drop (Go.Proofs.YtglhoenjflpibaaGreatDoor.qdI p).1.toNat) else none := by simp [pT, h1]
      by_cases hc : 0 ≤ (Go.Proofs.YtglhoenjflpibaaGreatDoor.qdI p).1 ∧ (Go.Proofs.YtglhoenjflpibaaGreatDoor.qdI p).1 ≤ most ∧ (Go.Proofs.YtglhoenjflpibaaGreatDoor.qdI p).1 ≤ (Go.Proofs.YtglhoenjflpibaaGreatDoor.qdI p).2.1.length
      · refine .inl ⟨by simp [Go.Proofs.YtglhoenjflpibaaGreatDoor.qdT, hc, h2], ?_⟩
        simp [h3, hc, Go.Proofs.YtglhoenjflpibaaGreatDoor.qdT]
      · refine .inr ⟨by simp only [Go.Proofs.YtglhoenjflpibaaGreatDoor.qdT, if_neg hc, Bool.not_true], ?_⟩
        simp [h3, hc]
    · refine .inr ⟨?_, ?_⟩
      · rw [hqt (by simp [Go.Proofs.YtglhoenjflpibaaGreatDoor.qdI, he])]; rfl
      · simp [pT, pI, he]
  · have hg' : p.2 = true := by simpa using hg
    refine .inr ⟨?_, rfl⟩
    rw [hqt (by unfold Go.Proofs.YtglhoenjflpibaaGreatDoor.qdI; split <;> simp [hg'])]; rfl

theorem rdT_most {m : Int} (r : Rdr) (hm : 0 ≤ m) : ((rdT m r).1.length : Int) ≤ m := by
  unfold rdT
  split
  · rename_i h
    show (((rdI r).2.1.take _).length : Int) ≤ m
    rw [List.length_take]; omega
  · exact hm
theorem qdI_i64 (r : Rdr) : i64 (qdI r).1 := by
  unfold qdI; split
  · exact rint_i64 _
  · exact i64_zero
theorem qdI_len (r : Rdr) : (qdI r).2.1.length ≤ r.1.length := by
  unfold qdI; split
  · show (r.1.drop _).length ≤ _; rw [List.length_drop]; omega
  · exact Nat.zero_le _
theorem qdT_len (m : Int) (r : Rdr) : (qdT m r).2.1.length ≤ r.1.length := by
  unfold qdT; have := qdI_len r
  split
  · show ((qdI r).2.1.drop _).length ≤ _; rw [List.length_drop]; omega
  · exact this
theorem qdT_most {m : Int} (r : Rdr) (hm : 0 ≤ m) : ((qdT m r).1.length : Int) ≤ m := by
  unfold qdT
  split
  · rename_i h
    show (((qdI r).2.1.take _).length : Int) ≤ m
    rw [List.length_take]; omega
  · exact hm

/-! ### Batches -/

def pRec (l : List UInt8) : Par Rec := (pI l).bind fun t => (pT 1000 t.2).bind fun k => (pT 1000 k.2).map fun v => (⟨k.1, v.1, t.1⟩, v.2)
def bat (xs : List Int) (rs : List Rec) : Bat := ⟨xs.getD 0 0, xs.getD 1 0, xs.getD 2 0, xs.getD 3 0, xs.getD 4 0, rs⟩
def pHead (t : List UInt8) : Par (List Int × Int) := (pMany pI 5 t).bind fun x => (pI x.2).map fun n => ((x.1, n.1), n.2)
def pPart (k : Nat) (t : List UInt8) : Par ((List Int × Int) × List Rec) := (pHead t).bind fun x => (pMany pRec k x.2).map fun y => ((x.1, y.1), y.2)
def pBatch (t : List UInt8) : Option Bat := (pHead t).bind fun x => if 1 ≤ x.1.2 ∧ x.1.2 ≤ 64 then (pMany pRec x.1.2.toNat x.2).bind fun y => if y.2 = [] ∧ right (bat x.1.1 y.1) = 0 then some (bat x.1.1 y.1) else none else none
def zeroB : Bat := ⟨0, 0, 0, 0, 0, []⟩
def readBatch (s : List UInt8) : Bat × Int × Int :=
  if s.length < 8 then (zeroB, 0, 5)
  else if 4088 < four s then (zeroB, 0, 2)
  else if s.length - 8 < four s then (zeroB, 0, 5)
  else if (crc ((s.drop 8).take (four s))).toNat ≠ four (s.drop 4) then (zeroB, 0, 6)
  else match pBatch ((s.drop 8).take (four s)) with
    | some b => (b, 8 + (four s : Int), 0)
    | none => (zeroB, 0, 4)

theorem pPart_zero {good : Bool} {l t : List UInt8} {xs : List Int} {n : Int} (h : Fol good l (pHead t) (xs, n)) : Fol good l (pPart 0 t) ((xs, n), []) := by
  rcases h with ⟨hg, h⟩ | ⟨hg, h⟩
  · exact .inl ⟨hg, by unfold pPart; rw [h]; rfl⟩
  · exact .inr ⟨hg, by unfold pPart; rw [h]; rfl⟩
theorem pHead_of {good : Bool} {l t : List UInt8} {f : (List Int) → Int → List Int × Int} {y} (hf : f = fun a b => (a, b)) (h : Fol good l ((pMany pI 5 t).bind fun y => (pI y.2).map fun z => (f y.1 z.1, z.2)) y) : Fol good l (pHead t) y := by subst hf; exact h
/-- One record more. -/
theorem pPart_next {good : Bool} {l t : List UInt8} {k : Nat} {x : (List Int × Int) × List Rec} {r : Rec}
    (h : Fol good l ((((pPart k t).bind fun y => (pI y.2).map fun z => ((y.1, z.1), z.2)).bind fun y => (pT 1000 y.2).map fun z => ((y.1, z.1), z.2)).bind fun y => (pT 1000 y.2).map fun z => ((y.1, z.1), z.2)) (((x, r.time), r.key), r.value)) :
    Fol good l (pPart (k + 1) t) (x.1, x.2 ++ [r]) := by
  have e : pPart (k + 1) t = ((((pPart k t).bind fun y => (pI y.2).map fun z => ((y.1, z.1), z.2)).bind fun y => (pT 1000 y.2).map fun z => ((y.1, z.1), z.2)).bind fun y => (pT 1000 y.2).map fun z => ((y.1, z.1), z.2)).map fun w => ((w.1.1.1.1.1, w.1.1.1.1.2 ++ [⟨w.1.1.2, w.1.2, w.1.1.1.2⟩]), w.2) := by
    unfold pPart
    cases pHead t with
    | none => rfl
    | some x =>
      simp only [Option.bind_some, pMany]
      cases pMany pRec k x.2 with
      | none => rfl
      | some y =>
        simp only [Option.map_some, Option.bind_some, pRec]
        cases pI y.2 with
        | none => rfl
        | some z =>
          simp only [Option.map_some, Option.bind_some]
          cases pT 1000 z.2 with
          | none => rfl
          | some u =>
            simp only [Option.map_some, Option.bind_some]
            cases pT 1000 u.2 with
            | none => rfl
            | some v => rfl
  rcases h with ⟨hg, h⟩ | ⟨hg, h⟩
  · exact .inl ⟨hg, by rw [e, h]; rfl⟩
  · exact .inr ⟨hg, by rw [e, h]; rfl⟩
theorem pPart_none {k m : Nat} {t : List UInt8} (h : pPart k t = none) (hm : k ≤ m) : pPart m t = none := by
  unfold pPart at h ⊢
  cases hh : pHead t with
  | none => rfl
  | some x =>
    rw [hh] at h
    simp only [Option.bind_some, Option.map_eq_none_iff] at h ⊢
    exact pMany_none h m hm
theorem pBatch_some {t : List UInt8} {xs : List Int} {n : Int} {rs : List Rec} (h : pPart n.toNat t = some (((xs, n), rs), [])) (h1 : 1 ≤ n ∧ n ≤ 64) (hr : right (bat xs rs) = 0) : pBatch t = some (bat xs rs) := by
  unfold pPart at h; unfold pBatch
  cases hh : pHead t with
  | none => rw [hh] at h; cases h
  | some x =>
    rw [hh] at h
    simp only [Option.bind_some, Option.map_eq_some_iff] at h ⊢
    obtain ⟨y, hy, e⟩ := h
    obtain ⟨⟨x1, x2⟩, x3⟩ := x
    obtain ⟨y1, y2⟩ := y
    cases e
    rw [if_pos h1, hy]
    simp [hr]
theorem pBatch_inv {t : List UInt8} {b : Bat} (h : pBatch t = some b) : ∃ xs n rs, pPart n.toNat t = some (((xs, n), rs), []) ∧ (1 ≤ n ∧ n ≤ 64) ∧ right (bat xs rs) = 0 ∧ b = bat xs rs := by
  unfold pBatch at h
  cases hh : pHead t with
  | none => rw [hh] at h; cases h
  | some x =>
    rw [hh] at h
    simp only [Option.bind_some] at h
    split at h
    · rename_i h1
      cases hy : pMany pRec x.1.2.toNat x.2 with
      | none => rw [hy] at h; cases h
      | some y =>
        rw [hy] at h
        simp only [Option.bind_some] at h
        split at h
        · rename_i h2
          cases h
          obtain ⟨⟨x1, x2⟩, x3⟩ := x
          obtain ⟨y1, y2⟩ := y
          obtain ⟨rfl, h3⟩ := h2
          exact ⟨x1, x2, y1, by unfold pPart; rw [hh]; simp only [Option.bind_some]; rw [hy]; rfl, h1, h3, rfl⟩
        · cases h
    · cases h
theorem pPart_head {t : List UInt8} {k : Nat} {x rs l} (h : pPart k t = some ((x, rs), l)) : ∃ m, pHead t = some (x, m) := by
  unfold pPart at h
  cases hh : pHead t with
  | none => rw [hh] at h; cases h
  | some x =>
    rw [hh] at h
    simp only [Option.bind_some, Option.map_eq_some_iff] at h
    obtain ⟨y, hy, e⟩ := h
    cases e
    exact ⟨_, rfl⟩
/-- The program is at its loop's end: all was well. -/
theorem pBatch_yes {good : Bool} {l t : List UInt8} {xs n rs} (h : Fol good l (pPart rs.length t) ((xs, n), rs)) (hn : rs.length = n) (hg : good = true) (hl : l = []) (hr : right (bat xs rs) = 0) (h1 : 1 ≤ n ∧ n ≤ 64) : pBatch t = some (bat xs rs) := by
  rcases h with ⟨_, h⟩ | ⟨h, _⟩
  · subst hl; subst hn; exact pBatch_some (by rw [Int.toNat_natCast]; exact h) h1 hr
  · rw [hg] at h; cases h
/-- Or not. -/
theorem pBatch_no {good : Bool} {l t : List UInt8} {xs n rs} (h : Fol good l (pPart rs.length t) ((xs, n), rs)) (hw : ¬ (good = true ∧ l = [] ∧ right (bat xs rs) = 0)) (hx : good = true → 1 ≤ n → n ≤ 64 → rs.length = n) (hle : good = false → 1 ≤ n → n ≤ 64 → (rs.length : Int) ≤ n) (hsame : good = false → pHead t = none ∨ ∃ m, pHead t = some ((xs, n), m)) : pBatch t = none := by
  cases hb : pBatch t with
  | none => rfl
  | some b =>
    exfalso
    obtain ⟨xs', n', rs', h1, h2, h3, rfl⟩ := pBatch_inv hb
    obtain ⟨m', hm'⟩ := pPart_head h1
    rcases h with ⟨hg, h⟩ | ⟨hg, h⟩
    · obtain ⟨m, hm⟩ := pPart_head h
      rw [hm] at hm'; cases hm'
      have := hx hg h2.1 h2.2
      rw [← this] at h1
      rw [show (((rs.length : Nat) : Int)).toNat = rs.length from rfl, h] at h1
      cases h1
      exact hw ⟨hg, rfl, h3⟩
    · rcases hsame hg with h4 | ⟨m, h4⟩
      · rw [h4] at hm'; cases hm'
      · rw [h4] at hm'; cases hm'
        have := hle hg h2.1 h2.2
        rw [pPart_none h (by omega)] at h1; cases h1
theorem Fol.head {good : Bool} {l t : List UInt8} {k : Nat} {x rs} (h : Fol good l (pHead t) x) {good' : Bool} {l' : List UInt8} (_ : Fol good' l' (pPart k t) (x, rs)) : pHead t = none ∨ ∃ m, pHead t = some (x, m) := by
  rcases h with ⟨_, h⟩ | ⟨_, h⟩
  · exact .inr ⟨_, h⟩
  · exact .inl h

def vec (xs : List Int) : List Value := (xs ++ List.replicate (5 - xs.length) 0).map (Value.int .i64)
theorem vec_set {xs : List Int} (h : xs.length < 5) (x : Int) (s : List Value) : (vec xs ++ s).set xs.length (.int .i64 x) = vec (xs ++ [x]) ++ s := by
  match xs, h with
  | [], _ => rfl
  | [_], _ => rfl
  | [_, _], _ => rfl
  | [_, _, _], _ => rfl
  | [_, _, _, _], _ => rfl
theorem vec_five {xs : List Int} (h : xs.length = 5) : vec xs = [.int .i64 (xs.getD 0 0), .int .i64 (xs.getD 1 0), .int .i64 (xs.getD 2 0), .int .i64 (xs.getD 3 0), .int .i64 (xs.getD 4 0)] := by
  match xs, h with
  | [_, _, _, _, _], _ => rfl
theorem bat_cells {xs : List Int} (h : xs.length = 5) (rs : List Rec) (a c) : (bat xs rs).cells a c = vec xs ++ [.slice a rs.length c] := by rw [vec_five h]; rfl
theorem bat_fits {xs : List Int} {rs : List Rec} (h5 : xs.length = 5) (h : ∀ x ∈ xs, i64 x) (hr : ∀ r ∈ rs, i64 r.time ∧ r.key.length ≤ 1000 ∧ r.value.length ≤ 1000) (hn : rs.length ≤ 65) : (bat xs rs).fits := by
  match xs, h5 with
  | [a, b, c, d, e], _ =>
    exact ⟨h _ (by simp [bat]), h _ (by simp [bat]), h _ (by simp [bat]), h _ (by simp [bat]), h _ (by simp [bat]), fun r h => (hr r h).1, fun r h => by have := (hr r h).2.1; omega, fun r h => by have := (hr r h).2.2; omega, by show rs.length * 40 ≤ _; omega⟩
end Go.Proofs.YtglhoenjflpibaaGreatDoor

/- Chapter 3: reading a batch, in plain Lean: the cases. -/
namespace Go.Proofs.YtglhoenjflpibaaGreatDoor
open Go Go.Sp

section
variable {s : List UInt8}
theorem readBatch_short (h : s.length < 8) : readBatch s = (zeroB, 0, 5) := if_pos h
theorem readBatch_long (h : ¬ s.length < 8) (h2 : 4088 < four s) : readBatch s = (zeroB, 0, 2) := by unfold readBatch; rw [if_neg h, if_pos h2]
theorem readBatch_cut (h : ¬ s.length < 8) (h2 : ¬ 4088 < four s) (h3 : s.length - 8 < four s) : readBatch s = (zeroB, 0, 5) := by unfold readBatch; rw [if_neg h, if_neg h2, if_pos h3]
theorem readBatch_sum {t : List UInt8} (h : ¬ s.length < 8) (h2 : ¬ 4088 < four s) (h3 : ¬ s.length - 8 < four s) (ht : t = (s.drop 8).take (four s)) (h4 : (crc t).toNat ≠ four (s.drop 4)) : readBatch s = (zeroB, 0, 6) := by
  subst ht; unfold readBatch; rw [if_neg h, if_neg h2, if_neg h3, if_pos h4]
theorem readBatch_no {t : List UInt8} (h : ¬ s.length < 8) (h2 : ¬ 4088 < four s) (h3 : ¬ s.length - 8 < four s) (ht : t = (s.drop 8).take (four s)) (h4 : (crc t).toNat = four (s.drop 4)) (hb : pBatch t = none) : readBatch s = (zeroB, 0, 4) := by
  subst ht; unfold readBatch; rw [if_neg h, if_neg h2, if_neg h3, if_neg (by omega), hb]
theorem readBatch_yes {t : List UInt8} {b : Bat} (h : ¬ s.length < 8) (h2 : ¬ 4088 < four s) (h3 : ¬ s.length - 8 < four s) (ht : t = (s.drop 8).take (four s)) (h4 : (crc t).toNat = four (s.drop 4)) (hb : pBatch t = some b) : readBatch s = (b, 8 + (four s : Int), 0) := by
  subst ht; unfold readBatch; rw [if_neg h, if_neg h2, if_neg h3, if_neg (by omega), hb]
end
theorem five_of {xs : List Int} (h : xs.length = 5) : ∃ a b c d e, xs = [a, b, c, d, e] := by
  match xs, h with
  | [a, b, c, d, e], _ => exact ⟨a, b, c, d, e, rfl⟩
theorem ptr_at (b : Nat) {i : Nat} (h : i < 5) : (#[Value.pointer (some ⟨b, 0, none⟩), .pointer (some ⟨b, 1, none⟩), .pointer (some ⟨b, 2, none⟩), .pointer (some ⟨b, 3, none⟩), .pointer (some ⟨b, 4, none⟩)] : Array Value)[i]? = some (.pointer (some ⟨b, i, none⟩)) := by
  match i, h with
  | 0, _ => rfl
  | 1, _ => rfl
  | 2, _ => rfl
  | 3, _ => rfl
  | 4, _ => rfl
theorem vec_len {xs : List Int} (h : xs.length ≤ 5) : (vec xs).length = 5 := by unfold vec; rw [List.length_map, List.length_append, List.length_replicate]; omega
theorem pMany_next {good : Bool} {l t : List UInt8} {xs : List Int} {x : Int} (h : Fol good l ((pMany pI xs.length t).bind fun y => (pI y.2).map fun z => (y.1 ++ [z.1], z.2)) (xs ++ [x])) : Fol good l (pMany pI (xs ++ [x]).length t) (xs ++ [x]) := by rw [List.length_append]; exact h
theorem all_snoc {α : Type} {p : α → Prop} {l : List α} {x : α} (h : ∀ y ∈ l, p y) (hx : p x) : ∀ y ∈ l ++ [x], p y := by
  intro y hy
  rcases List.mem_append.1 hy with hy | hy
  · exact h y hy
  · simp at hy; exact hy ▸ hx
/-- What was read so far. -/
structure Far (n : Int) (rs : List Rec) : Prop where
  most : rs.length ≤ 65
  le : rs = [] ∨ (rs.length : Int) ≤ n
  ok : ∀ r ∈ rs, i64 r.time ∧ r.key.length ≤ 1000 ∧ r.value.length ≤ 1000
theorem Far.nil (n : Int) : Far n [] := ⟨by simp, .inl rfl, by simp⟩
theorem Far.snoc {n : Int} {rs : List Rec} {r : Rec} (h : Far n rs) (hn : (rs.length : Int) < n) (h64 : rs.length ≤ 64) (hr : i64 r.time ∧ r.key.length ≤ 1000 ∧ r.value.length ≤ 1000) : Far n (rs ++ [r]) :=
  ⟨by simp; omega, .inr (by simp; omega), all_snoc h.ok hr⟩
theorem right_many {b : Bat} (h : right b = 0) : 1 ≤ b.recs.length ∧ b.recs.length ≤ 64 := by
  by_cases hno : b.off
  · rw [right_off hno] at h; cases h
  · have h1 : 1 ≤ b.recs.length := by unfold Bat.off at hno; omega
    exact ⟨h1, (right_zero h).1.n⟩
end Go.Proofs.YtglhoenjflpibaaGreatDoor

/- Chapter 3: records of metadata, in plain Lean. -/
namespace Go.Proofs.YtglhoenjflpibaaGreatDoor
open Go Go.Sp

structure Met where
  kind : Int
  a : Int
  b : Int
  c : Int
  d : Int
  name : List UInt8
  text : List UInt8
  list : List Int
def icell (n : Int) : List Value := [.int .i64 n]
theorem icell_len (n : Int) : (icell n).length = 1 := rfl
def Met.cells (m : Met) (p : Option Addr) (k : Nat) : List Value := [.int .i64 m.kind, .int .i64 m.a, .int .i64 m.b, .int .i64 m.c, .int .i64 m.d, .string (str m.name), .string (str m.text), .slice p m.list.length k]
structure Met.fits (m : Met) : Prop where
  kind : i64 m.kind
  a : i64 m.a
  b : i64 m.b
  c : i64 m.c
  d : i64 m.d
  name : m.name.length ≤ 140737488351232
  text : m.text.length ≤ 140737488351232
  ints : ∀ n ∈ m.list, i64 n
  len : m.list.length * 8 ≤ 140737488351232
def five (m : Met) : List Int := [m.kind, m.a, m.b, m.c, m.d]
def etext (s : List UInt8) : List UInt8 := eint (s.length : Int) ++ s
def mhead (m : Met) : List UInt8 := (five m).flatMap eint ++ eint (m.name.length : Int) ++ m.name ++ eint (m.text.length : Int) ++ m.text ++ eint (m.list.length : Int)
def mbody (m : Met) : List UInt8 := mhead m ++ m.list.flatMap eint
def wmeta (m : Met) : List UInt8 × Int :=
  if 32 < m.name.length ∨ 1000 < m.text.length then ([], 2)
  else if 64 < m.list.length then ([], 3)
  else if 2044 < (mbody m).length then ([], 2)
  else (fours (crc (mbody m)).toNat ++ mbody m, 0)
theorem five_ok {m : Met} (h : m.fits) : ∀ n ∈ five m, i64 n := fun n hn => by
  simp only [five, List.mem_cons, List.not_mem_nil, or_false] at hn
  rcases hn with rfl | rfl | rfl | rfl | rfl
  · exact h.kind
  · exact h.a
  · exact h.b
  · exact h.c
  · exact h.d
theorem five_at {m : Met} {i : Nat} {n : Int} (h : (five m)[i]? = some n) : (#[Value.int .i64 m.kind, .int .i64 m.a, .int .i64 m.b, .int .i64 m.c, .int .i64 m.d] : Array Value)[i]? = some (.int .i64 n) := by
  have : (#[Value.int .i64 m.kind, .int .i64 m.a, .int .i64 m.b, .int .i64 m.c, .int .i64 m.d] : Array Value) = ((five m).map (Value.int .i64)).toArray := rfl
  rw [this, List.getElem?_toArray, List.getElem?_map, h]; rfl
theorem five_len {m : Met} (hf : m.fits) (i : Nat) : (((five m).take i).flatMap eint).length ≤ 50 := by
  have h1 := flat_le (f := eint) (k := 10) ((five m).take i) fun n hn => eint_len (five_ok hf n (List.mem_of_mem_take hn))
  have h2 : ((five m).take i).length ≤ 5 := by rw [List.length_take]; exact Nat.min_le_right _ _
  omega
structure Met.small (m : Met) : Prop where
  name : m.name.length ≤ 32
  text : m.text.length ≤ 1000
  list : m.list.length ≤ 64
theorem mhead_len {m : Met} (hf : m.fits) (hs : m.small) : (mhead m).length ≤ 2000 := by
  have h1 := five_len hf 5
  rw [show (five m).take 5 = five m from rfl] at h1
  obtain ⟨h2, h3, h4⟩ := hs
  have e1 := eint_len (n := (m.name.length : Int)) ⟨by omega, by omega⟩
  have e2 := eint_len (n := (m.text.length : Int)) ⟨by omega, by omega⟩
  have e3 := eint_len (n := (m.list.length : Int)) ⟨by omega, by omega⟩
  unfold mhead; simp only [List.length_append]; omega
theorem list_len {m : Met} (hf : m.fits) (hs : m.small) (j : Nat) : ((m.list.take j).flatMap eint).length ≤ 640 := by
  have h1 := flat_le (f := eint) (k := 10) (m.list.take j) fun n hn => eint_len (hf.ints n (List.mem_of_mem_take hn))
  have h2 : (m.list.take j).length ≤ 64 := by have := hs.list; rw [List.length_take]; omega
  omega
theorem wmeta_long {m : Met} (h : 32 < m.name.length ∨ 1000 < m.text.length) : wmeta m = ([], 2) := if_pos h
theorem wmeta_many {m : Met} (h : ¬ (32 < m.name.length ∨ 1000 < m.text.length)) (h2 : 64 < m.list.length) : wmeta m = ([], 3) := by unfold wmeta; rw [if_neg h, if_pos h2]
theorem wmeta_much {m : Met} (hs : m.small) (h : 2044 < (mbody m).length) : wmeta m = ([], 2) := by
  obtain ⟨h1, h2, h3⟩ := hs
  unfold wmeta; rw [if_neg (by omega), if_neg (by omega), if_pos h]
theorem wmeta_good {m : Met} (hs : m.small) (h : ¬ 2044 < (mbody m).length) : wmeta m = (fours (crc (mbody m)).toNat ++ mbody m, 0) := by
  obtain ⟨h1, h2, h3⟩ := hs
  unfold wmeta; rw [if_neg (by omega), if_neg (by omega), if_neg h]
/-- A written record of metadata is small. -/
theorem wmeta_zero {m : Met} (h : (wmeta m).2 = 0) : m.small ∧ (mbody m).length ≤ 2044 ∧ (wmeta m).1 = fours (crc (mbody m)).toNat ++ mbody m := by
  unfold wmeta at h ⊢
  split at h
  · cases h
  · split at h
    · cases h
    · split at h
      · cases h
      · rename_i h1 h2 h3
        rw [if_neg h1, if_neg h2, if_neg h3]
        exact ⟨⟨by omega, by omega, by omega⟩, by omega, rfl⟩
end Go.Proofs.YtglhoenjflpibaaGreatDoor

/- Chapter 3: bytes as a record of metadata, in plain Lean. -/
namespace Go.Proofs.YtglhoenjflpibaaGreatDoor
open Go Go.Sp

abbrev MH := ((List Int × List UInt8) × List UInt8) × Int
def pMHead (t : List UInt8) : Par MH := (((pMany pI 5 t).bind fun y => (pT 32 y.2).map fun z => ((y.1, z.1), z.2)).bind fun y => (pT 1000 y.2).map fun z => ((y.1, z.1), z.2)).bind fun y => (pI y.2).map fun z => ((y.1, z.1), z.2)
def pMPart (k : Nat) (t : List UInt8) : Par (MH × List Int) := (pMHead t).bind fun x => (pMany pI k x.2).map fun y => ((x.1, y.1), y.2)
def met (x : MH) (l : List Int) : Met := ⟨x.1.1.1.getD 0 0, x.1.1.1.getD 1 0, x.1.1.1.getD 2 0, x.1.1.1.getD 3 0, x.1.1.1.getD 4 0, x.1.1.2, x.1.2, l⟩
def pMeta (t : List UInt8) : Option Met := (pMHead t).bind fun x => if 0 ≤ x.1.2 ∧ x.1.2 ≤ 64 then (pMany pI x.1.2.toNat x.2).bind fun y => if y.2 = [] then some (met x.1 y.1) else none else none
def zeroM : Met := ⟨0, 0, 0, 0, 0, [], [], []⟩
def readMeta (s : List UInt8) : Met × Int :=
  if s.length < 4 then (zeroM, 5)
  else if 2048 < s.length then (zeroM, 2)
  else if (crc (s.drop 4)).toNat ≠ four s then (zeroM, 6)
  else match pMeta (s.drop 4) with
    | some m => (m, 0)
    | none => (zeroM, 4)
section
variable {s : List UInt8}
theorem readMeta_short (h : s.length < 4) : readMeta s = (zeroM, 5) := if_pos h
theorem readMeta_long (h : ¬ s.length < 4) (h2 : 2048 < s.length) : readMeta s = (zeroM, 2) := by unfold readMeta; rw [if_neg h, if_pos h2]
theorem readMeta_sum (h : ¬ s.length < 4) (h2 : ¬ 2048 < s.length) (h3 : (crc (s.drop 4)).toNat ≠ four s) : readMeta s = (zeroM, 6) := by unfold readMeta; rw [if_neg h, if_neg h2, if_pos h3]
theorem readMeta_no (h : ¬ s.length < 4) (h2 : ¬ 2048 < s.length) (h3 : (crc (s.drop 4)).toNat = four s) (hm : pMeta (s.drop 4) = none) : readMeta s = (zeroM, 4) := by unfold readMeta; rw [if_neg h, if_neg h2, if_neg (by omega), hm]
theorem readMeta_yes {m : Met} (h : ¬ s.length < 4) (h2 : ¬ 2048 < s.length) (h3 : (crc (s.drop 4)).toNat = four s) (hm : pMeta (s.drop 4) = some m) : readMeta s = (m, 0) := by unfold readMeta; rw [if_neg h, if_neg h2, if_neg (by omega), hm]
end
theorem pMPart_zero {good : Bool} {l t : List UInt8} {x : MH} (h : Fol good l (pMHead t) x) : Fol good l (pMPart 0 t) (x, []) := by
  rcases h with ⟨hg, h⟩ | ⟨hg, h⟩
  · exact .inl ⟨hg, by unfold pMPart; rw [h]; rfl⟩
  · exact .inr ⟨hg, by unfold pMPart; rw [h]; rfl⟩
theorem pMPart_next {good : Bool} {l t : List UInt8} {x : MH} {rs : List Int} {n : Int} (h : Fol good l ((pMPart rs.length t).bind fun y => (pI y.2).map fun z => ((y.1, z.1), z.2)) ((x, rs), n)) : Fol good l (pMPart (rs ++ [n]).length t) (x, rs ++ [n]) := by
  have e : pMPart (rs ++ [n]).length t = ((pMPart rs.length t).bind fun y => (pI y.2).map fun z => ((y.1, z.1), z.2)).map fun w => ((w.1.1.1, w.1.1.2 ++ [w.1.2]), w.2) := by
    rw [List.length_append]
    unfold pMPart
    cases pMHead t with
    | none => rfl
    | some x =>
      show (Option.bind (pMany pI rs.length x.2) _).map _ = _
      simp only [Option.bind_some]
      cases pMany pI rs.length x.2 with
      | none => rfl
      | some y =>
        simp only [Option.map_some, Option.bind_some]
        cases pI y.2 with
        | none => rfl
        | some z => rfl
  rcases h with ⟨hg, h⟩ | ⟨hg, h⟩
  · exact .inl ⟨hg, by rw [e, h]; rfl⟩
  · exact .inr ⟨hg, by rw [e, h]; rfl⟩
theorem pMeta_range {good : Bool} {l t : List UInt8} {x : MH} (h : Fol good l (pMHead t) x) (hn : ¬ (0 ≤ x.2 ∧ x.2 ≤ 64)) : pMeta t = none := by
  unfold pMeta
  rcases h with ⟨_, h⟩ | ⟨_, h⟩
  · rw [h]; exact if_neg hn
  · rw [h]; rfl
theorem pMPart_none {k m : Nat} {t : List UInt8} (h : pMPart k t = none) (hm : k ≤ m) : pMPart m t = none := by
  unfold pMPart at h ⊢
  cases hh : pMHead t with
  | none => rfl
  | some x =>
    rw [hh] at h
    simp only [Option.bind_some, Option.map_eq_none_iff] at h ⊢
    exact pMany_none h m hm
theorem pMPart_meta {t : List UInt8} {x : MH} {m : List UInt8} (hh : pMHead t = some (x, m)) (hn : 0 ≤ x.2 ∧ x.2 ≤ 64) : pMeta t = (pMPart x.2.toNat t).bind fun y => if y.2 = [] then some (met y.1.1 y.1.2) else none := by
  unfold pMeta pMPart
  rw [hh]
  simp only [Option.bind_some]
  rw [if_pos hn]
  cases pMany pI x.2.toNat m with
  | none => rfl
  | some y => rfl
theorem pMeta_nohead {t : List UInt8} (hh : pMHead t = none) : pMeta t = none := by unfold pMeta; rw [hh]; rfl
theorem pMPart_head {t : List UInt8} {k : Nat} {x rs l} (h : pMPart k t = some ((x, rs), l)) : ∃ m, pMHead t = some (x, m) := by
  unfold pMPart at h
  cases hh : pMHead t with
  | none => rw [hh] at h; cases h
  | some x =>
    rw [hh] at h
    simp only [Option.bind_some, Option.map_eq_some_iff] at h
    obtain ⟨y, hy, e⟩ := h
    cases e
    exact ⟨_, rfl⟩
/-- At the end of the numbers: all was well. -/
theorem pMeta_yes {good : Bool} {l t : List UInt8} {x : MH} {rs : List Int} (h : Fol good l (pMPart rs.length t) (x, rs)) (hn : (rs.length : Int) = x.2) (hg : good = true) (hl : l = []) (hr : 0 ≤ x.2 ∧ x.2 ≤ 64) : pMeta t = some (met x rs) := by
  rcases h with ⟨_, h⟩ | ⟨h, _⟩
  · obtain ⟨m, hm⟩ := pMPart_head h
    rw [pMPart_meta hm hr, ← hn, Int.toNat_natCast, h]
    exact if_pos hl
  · rw [hg] at h; cases h
/-- Or not. -/
theorem pMeta_no {good good' : Bool} {l l' t : List UInt8} {x : MH} {rs : List Int} (hH : Fol good' l' (pMHead t) x) (h : Fol good l (pMPart rs.length t) (x, rs)) (hr : 0 ≤ x.2 ∧ x.2 ≤ 64) (hw : ¬ (good = true ∧ l = [])) (hx : good = true → (rs.length : Int) = x.2) (hle : (rs.length : Int) ≤ x.2) : pMeta t = none := by
  rcases hH with ⟨_, hH⟩ | ⟨_, hH⟩
  · rw [pMPart_meta hH hr]
    rcases h with ⟨hg, h⟩ | ⟨hg, h⟩
    · rw [← hx hg, Int.toNat_natCast, h]
      exact if_neg fun e => hw ⟨hg, e⟩
    · rw [pMPart_none h (by omega)]; rfl
  · exact pMeta_nohead hH
theorem met_cells {x0 x1 x2 x3 x4 : Int} {nm tx : List UInt8} {n : Int} (rs : List Int) (a c) : (met ((([x0, x1, x2, x3, x4], nm), tx), n) rs).cells a c = [.int .i64 x0, .int .i64 x1, .int .i64 x2, .int .i64 x3, .int .i64 x4, .string (str nm), .string (str tx), .slice a rs.length c] := rfl
end Go.Proofs.YtglhoenjflpibaaGreatDoor

/- Chapter 3: what is written is read as it was; in plain Lean. -/
namespace Go.Proofs.YtglhoenjflpibaaGreatDoor
open Go Go.Sp

theorem toNat_ofNat8 {n : Nat} (h : n < 256) : (UInt8.ofNat n).toNat = n := by rw [UInt8.toNat_ofNat']; omega
theorem rintGo_vint : ∀ (f i z w : Nat) (l : List UInt8), i + f = 10 → w * 128 ^ i < 18446744073709551616 → (i = 0 ∨ 0 < w) → 0 < f → rintGo f i z (vint w ++ l) = (zag (z + w * 128 ^ i), i + (vint w).length, 0)
  | 0, _, _, _, _, _, _, _, h => absurd h (by omega)
  | f + 1, i, z, w, l, hif, hw, hp, _ => by
    have h9 : i = 9 → w < 2 := fun e => by
      subst e
      have : (128 : Nat) ^ 9 = 9223372036854775808 := by decide
      rw [this] at hw; omega
    by_cases h : w < 128
    · rw [vint_small h]
      show rintGo (f + 1) i z (UInt8.ofNat w :: l) = _
      unfold rintGo
      rw [toNat_ofNat8 (by omega), if_neg (by intro ⟨a, b⟩; have := h9 a; omega), if_neg (by omega), if_neg (by omega), Nat.mod_eq_of_lt h]; rfl
    · rw [vint_big h]
      show rintGo (f + 1) i z (UInt8.ofNat (w % 128 + 128) :: (vint (w / 128) ++ l)) = _
      have hi : i ≠ 9 := fun e => by have := h9 e; omega
      have e1 : w * 128 ^ i = w / 128 * 128 ^ (i + 1) + w % 128 * 128 ^ i := by
        rw [Nat.pow_succ, Nat.mul_comm (128 ^ i) 128, ← Nat.mul_assoc, ← Nat.add_mul]
        congr 1; omega
      unfold rintGo
      rw [toNat_ofNat8 (by omega), if_neg (by intro ⟨a, _⟩; exact hi a), if_pos (by omega), show (w % 128 + 128) % 128 = w % 128 by omega,
        rintGo_vint f (i + 1) _ (w / 128) l (by omega) (by omega) (.inr (by omega)) (by omega), e1]
      simp only [List.length_cons]
      congr 2
      · omega
      · omega
theorem rint_eint {n : Int} (h : i64 n) (l : List UInt8) : rint (eint n ++ l) = (n, (eint n).length, 0) := by
  have := rintGo_vint 10 0 0 (zig n) l rfl (by have := zig_lt h; omega) (.inl rfl) (by omega)
  unfold rint eint; rw [this]
  simp [zag_zig]
theorem pI_eint {n : Int} (h : i64 n) (l : List UInt8) : pI (eint n ++ l) = some (n, l) := by
  unfold pI; rw [rint_eint h]; simp
theorem eint_inj {n k : Int} (hn : i64 n) (hk : i64 k) : eint n = eint k ↔ n = k :=
  ⟨fun h => by have h1 := pI_eint hn []; rw [h, pI_eint hk] at h1; cases h1; rfl, fun h => by rw [h]⟩
theorem pT_text {s : List UInt8} {most : Int} (h : (s.length : Int) ≤ most) (hm : most ≤ 9000000000000000000) (l : List UInt8) : pT most (eint (s.length : Int) ++ (s ++ l)) = some (s, l) := by
  unfold pT; rw [pI_eint ⟨by omega, by omega⟩]
  simp only [Option.bind_some]
  rw [if_pos ⟨by omega, h, by rw [List.length_append]; omega⟩]
  simp
theorem pMany_flat {α : Type} {p : List UInt8 → Par α} {e : α → List UInt8} (xs : List α) (hp : ∀ x ∈ xs, ∀ l, p (e x ++ l) = some (x, l)) (l : List UInt8) : ∀ n, n ≤ xs.length → pMany p n (xs.flatMap e ++ l) = some (xs.take n, (xs.drop n).flatMap e ++ l)
  | 0, _ => by simp [pMany]
  | n + 1, h => by
    obtain ⟨x, hx⟩ : ∃ x, xs[n]? = some x := ⟨_, List.getElem?_eq_getElem (by omega)⟩
    have hd : xs.drop n = x :: xs.drop (n + 1) := by
      rw [List.getElem?_eq_getElem (by omega)] at hx
      cases hx
      exact (List.drop_eq_getElem_cons (by omega))
    rw [pMany, pMany_flat xs hp l n (by omega)]
    simp only [Option.bind_some]
    rw [hd, List.flatMap_cons, List.append_assoc, hp x (List.mem_of_getElem? hx)]
    simp [List.take_add_one, hx]
theorem pMany_all {α : Type} {p : List UInt8 → Par α} {e : α → List UInt8} (xs : List α) (hp : ∀ x ∈ xs, ∀ l, p (e x ++ l) = some (x, l)) (l : List UInt8) : pMany p xs.length (xs.flatMap e ++ l) = some (xs, l) := by
  rw [pMany_flat xs hp l _ (Nat.le_refl _)]; simp

theorem pRec_rec {r : Rec} (ht : i64 r.time) (hk : r.key.length ≤ 1000) (hv : r.value.length ≤ 1000) (l : List UInt8) : pRec (recBody r ++ l) = some (r, l) := by
  unfold pRec recBody
  have e : eint r.time ++ eint (r.key.length : Int) ++ r.key ++ eint (r.value.length : Int) ++ r.value ++ l = eint r.time ++ (eint (r.key.length : Int) ++ (r.key ++ (eint (r.value.length : Int) ++ (r.value ++ l)))) := by simp only [List.append_assoc]
  rw [e, pI_eint ht]
  simp only [Option.bind_some]
  rw [pT_text (by omega) (by omega)]
  simp only [Option.bind_some]
  rw [pT_text (by omega) (by omega)]
  rfl
theorem pBatch_body {b : Bat} (hf : b.fits) (hr : right b = 0) : pBatch (body b) = some b := by
  obtain ⟨hs, _⟩ := right_zero hr
  have hmany := right_many hr
  have e : body b = [b.base, b.epoch, b.pid, b.pidEpoch, b.seq].flatMap eint ++ (eint (b.recs.length : Int) ++ (b.recs.flatMap recBody ++ [])) := by simp [body]
  have h1 := pMany_all (p := pI) (e := eint) [b.base, b.epoch, b.pid, b.pidEpoch, b.seq] (fun x hx l => pI_eint (six_ok hf x (by simp only [six, List.mem_cons, List.not_mem_nil, or_false] at hx ⊢; omega)) l) (eint (b.recs.length : Int) ++ (b.recs.flatMap recBody ++ []))
  have h2 : pHead (body b) = some (([b.base, b.epoch, b.pid, b.pidEpoch, b.seq], (b.recs.length : Int)), b.recs.flatMap recBody ++ []) := by
    unfold pHead; rw [e]
    rw [show pMany pI 5 _ = _ from h1]
    simp only [Option.bind_some]
    rw [pI_eint ⟨by omega, by omega⟩]; rfl
  have h3 := pMany_all (p := pRec) (e := recBody) b.recs (fun r hr l => pRec_rec (hf.time r hr) (hs.k r hr).1 (hs.k r hr).2 l) []
  unfold pBatch; rw [h2]
  simp only [Option.bind_some]
  rw [if_pos ⟨by omega, by omega⟩, Int.toNat_natCast, h3]
  exact if_pos ⟨rfl, hr⟩

theorem four_append {l m : List UInt8} (h : 4 ≤ l.length) : four (l ++ m) = four l := by
  match l, h with
  | a :: b :: c :: d :: t, _ => rfl
/-- A written batch, whatever stands behind it. -/
theorem read_write {b : Bat} (hf : b.fits) (hr : right b = 0) (more : List UInt8) : readBatch ((wbatch b).1 ++ more) = (b, ((wbatch b).1.length : Int), 0) := by
  obtain ⟨hs, hbl⟩ := right_zero hr
  rw [wbatch_yes hr]
  show readBatch (fours (body b).length ++ fours (crc (body b)).toNat ++ body b ++ more) = _
  have hcl : (crc (body b)).toNat < 4294967296 := (crc (body b)).isLt
  have e4 : four (fours (body b).length ++ fours (crc (body b)).toNat ++ body b ++ more) = (body b).length := by
    rw [List.append_assoc, List.append_assoc, four_fours (by omega)]
  have e8 : (fours (body b).length ++ fours (crc (body b)).toNat ++ body b ++ more).drop 4 = fours (crc (body b)).toNat ++ (body b ++ more) := by
    rw [List.append_assoc, List.append_assoc]; exact List.drop_left' rfl
  have e9 : (fours (body b).length ++ fours (crc (body b)).toNat ++ body b ++ more).drop 8 = body b ++ more := by
    rw [List.append_assoc (fours (body b).length ++ fours (crc (body b)).toNat)]; exact List.drop_left' rfl
  have el : (fours (body b).length ++ fours (crc (body b)).toNat ++ body b ++ more).length = 8 + (body b).length + more.length := by
    simp only [List.length_append, fours_len]
  have et : (body b ++ more).take (body b).length = body b := by simp
  rw [readBatch_yes (t := body b) (b := b) (by rw [el]; omega) (by rw [e4]; omega) (by rw [el, e4]; omega) (by rw [e4, e9, et]) (by rw [e8, four_fours hcl]) (pBatch_body hf hr), e4]
  simp only [List.length_append, fours_len]
  congr 1
theorem wbatch_len {b : Bat} (hr : right b = 0) : (wbatch b).1.length = 8 + (body b).length := by rw [wbatch_yes hr]; simp only [List.length_append, fours_len]

theorem pMHead_body {m : Met} (hf : m.fits) (hs : m.small) (l : List UInt8) : pMHead (mbody m ++ l) = some ((((five m, m.name), m.text), (m.list.length : Int)), m.list.flatMap eint ++ l) := by
  have e : mbody m ++ l = (five m).flatMap eint ++ (eint (m.name.length : Int) ++ (m.name ++ (eint (m.text.length : Int) ++ (m.text ++ (eint (m.list.length : Int) ++ (m.list.flatMap eint ++ l)))))) := by
    simp only [mbody, mhead, List.append_assoc]
  have h1 := pMany_all (p := pI) (e := eint) (five m) (fun x hx l => pI_eint (five_ok hf x hx) l) (eint (m.name.length : Int) ++ (m.name ++ (eint (m.text.length : Int) ++ (m.text ++ (eint (m.list.length : Int) ++ (m.list.flatMap eint ++ l))))))
  obtain ⟨hs1, hs2, hs3⟩ := hs
  unfold pMHead; rw [e]
  rw [show pMany pI 5 _ = _ from h1]
  simp only [Option.bind_some]
  rw [pT_text (by omega) (by omega)]
  simp only [Option.map_some, Option.bind_some]
  rw [pT_text (by omega) (by omega)]
  simp only [Option.map_some, Option.bind_some]
  rw [pI_eint ⟨by omega, by omega⟩]; rfl
theorem pMeta_body {m : Met} (hf : m.fits) (hs : m.small) (l : List UInt8) : pMeta (mbody m ++ l) = if l = [] then some m else none := by
  unfold pMeta; rw [pMHead_body hf hs]
  simp only [Option.bind_some]
  have h3 := pMany_all (p := pI) (e := eint) m.list (fun x hx l => pI_eint (hf.ints x hx) l) l
  have := hs.list
  rw [if_pos ⟨by omega, by omega⟩, Int.toNat_natCast, h3]
  rfl
theorem read_meta {m : Met} (hf : m.fits) (h : (wmeta m).2 = 0) : readMeta (wmeta m).1 = (m, 0) := by
  obtain ⟨hs, hl, e⟩ := wmeta_zero h
  rw [e]
  have hcl : (crc (mbody m)).toNat < 4294967296 := (crc (mbody m)).isLt
  have ed : (fours (crc (mbody m)).toNat ++ mbody m).drop 4 = mbody m := List.drop_left' rfl
  refine readMeta_yes (by simp only [List.length_append, fours_len]; omega) (by simp only [List.length_append, fours_len]; omega) (by rw [ed, four_fours hcl]) ?_
  rw [ed]
  have := pMeta_body hf hs []
  rwa [List.append_nil, if_pos rfl] at this
theorem read_meta_more {m : Met} (hf : m.fits) (h : (wmeta m).2 = 0) (x : UInt8) : (readMeta ((wmeta m).1 ++ [x])).2 ≠ 0 := by
  obtain ⟨hs, hl, e⟩ := wmeta_zero h
  rw [e]
  have ed : (fours (crc (mbody m)).toNat ++ mbody m ++ [x]).drop 4 = mbody m ++ [x] := by rw [List.append_assoc]; exact List.drop_left' rfl
  have hp : pMeta (mbody m ++ [x]) = none := by rw [pMeta_body hf hs]; exact if_neg (by simp)
  unfold readMeta
  rw [ed, hp]
  split
  · decide
  · split
    · decide
    · split
      · decide
      · decide
theorem wmeta_not {m : Met} (h : (wmeta m).2 ≠ 0) : (wmeta m).1 = [] := by
  unfold wmeta at h ⊢
  split
  · rfl
  · split
    · rfl
    · split
      · rfl
      · rename_i h1 h2 h3; rw [if_neg h1, if_neg h2, if_neg h3] at h; exact absurd rfl h
end Go.Proofs.YtglhoenjflpibaaGreatDoor

/- Chapter 6: batches one behind the other in a file, in plain Lean. -/
namespace Go.Proofs.YtglhoenjflpibaaGreatDoor
open Go Go.Sp

def Bat.en (b : Bat) : Int := b.base + b.recs.length
def enc (b : Bat) : List UInt8 := (wbatch b).1
def flat (bs : List Bat) : List UInt8 := bs.flatMap enc
/-- Where a batch lies: its offsets, its bytes. -/
structure One where
  base : Int
  en : Int
  fr : Nat
  tl : Nat
def One.cells (x : One) : List Value := [.int .i64 x.base, .int .i64 x.en, .int .i64 (x.fr : Int), .int .i64 (x.tl : Int)]
theorem One.cells_len (x : One) : x.cells.length = 4 := rfl
theorem One.cells_ones (x : One) : ones x.cells := .of rfl
def onesOf : Nat → List Bat → List One
  | _, [] => []
  | k, b :: bs => ⟨b.base, b.en, k, k + (enc b).length⟩ :: onesOf (k + (enc b).length) bs
structure Bat.good (b : Bat) : Prop where
  right : right b = 0
  fits : b.fits
  en : b.en ≤ 1000000000
/-- One behind the other from an offset on. -/
def Chain : Int → List Bat → Prop
  | _, [] => True
  | n, b :: bs => b.base = n ∧ Chain b.en bs
def nextOf : Int → List Bat → Int
  | n, [] => n
  | _, b :: bs => nextOf b.en bs

theorem Bat.good.recs {b : Bat} (h : b.good) : 1 ≤ b.recs.length := by
  have := h.right
  unfold Go.Proofs.YtglhoenjflpibaaGreatDoor.right at this
  split at this
  · cases this
  · rename_i h1; omega
theorem Bat.good.base {b : Bat} (h : b.good) : 0 ≤ b.base := by
  have := h.right
  unfold Go.Proofs.YtglhoenjflpibaaGreatDoor.right at this
  split at this
  · cases this
  · rename_i h1; omega
theorem Bat.good.recs64 {b : Bat} (h : b.good) : b.recs.length ≤ 64 := by
  have := (right_zero h.right).1.n; omega
theorem Bat.good.enc_len {b : Bat} (h : b.good) : (enc b).length = 8 + (body b).length := wbatch_len h.right
theorem Bat.good.enc_le {b : Bat} (h : b.good) : (enc b).length ≤ 4096 := by rw [h.enc_len]; have := (right_zero h.right).2; omega
theorem Bat.good.enc_pos {b : Bat} (h : b.good) : 8 ≤ (enc b).length := by rw [h.enc_len]; omega
theorem Bat.good.lt {b : Bat} (h : b.good) : b.base < b.en := by have := h.recs; unfold Bat.en; omega
theorem flat_cons (b : Bat) (bs : List Bat) : flat (b :: bs) = enc b ++ flat bs := List.flatMap_cons ..
theorem flat_app (a b : List Bat) : flat (a ++ b) = flat a ++ flat b := List.flatMap_append ..
theorem flat_snoc (a : List Bat) (b : Bat) : flat (a ++ [b]) = flat a ++ enc b := by rw [flat_app]; simp [flat]
theorem onesOf_len : ∀ (k : Nat) (bs : List Bat), (onesOf k bs).length = bs.length
  | _, [] => rfl
  | k, b :: bs => congrArg (· + 1) (onesOf_len (k + (enc b).length) bs)
theorem onesOf_get : ∀ (k : Nat) (bs : List Bat) (i : Nat), (onesOf k bs)[i]? = bs[i]?.map fun b => ⟨b.base, b.en, k + (flat (bs.take i)).length, k + (flat (bs.take i)).length + (enc b).length⟩
  | _, [], i => by simp [onesOf]
  | k, b :: bs, 0 => by simp [onesOf, flat]
  | k, b :: bs, i + 1 => by
    show (onesOf (k + (enc b).length) bs)[i]? = _
    rw [onesOf_get, List.getElem?_cons_succ, List.take_succ_cons, flat_cons, List.length_append]
    cases bs[i]? with
    | none => rfl
    | some x => simp [Nat.add_assoc]
theorem onesOf_app : ∀ (k : Nat) (a b : List Bat), onesOf k (a ++ b) = onesOf k a ++ onesOf (k + (flat a).length) b
  | _, [], _ => rfl
  | k, x :: a, b => by
    show _ :: onesOf _ (a ++ b) = _ :: (onesOf _ a ++ _)
    rw [onesOf_app, flat_cons, List.length_append, Nat.add_assoc]
theorem onesOf_snoc (k : Nat) (a : List Bat) (b : Bat) : onesOf k (a ++ [b]) = onesOf k a ++ [⟨b.base, b.en, k + (flat a).length, k + (flat a).length + (enc b).length⟩] := onesOf_app k a [b]
theorem onesOf_take (k : Nat) (bs : List Bat) (n : Nat) : (onesOf k bs).take n = onesOf k (bs.take n) := by
  by_cases h : n ≤ bs.length
  · have := onesOf_app k (bs.take n) (bs.drop n)
    rw [List.take_append_drop] at this
    rw [this, List.take_left' (by rw [onesOf_len, List.length_take]; omega)]
  · rw [List.take_of_length_le (by rw [onesOf_len]; omega), List.take_of_length_le (by omega)]
theorem flat_get {bs : List Bat} {i : Nat} {b : Bat} (h : bs[i]? = some b) : flat bs = flat (bs.take i) ++ (enc b ++ flat (bs.drop (i + 1))) := by
  obtain ⟨hi, rfl⟩ := List.getElem?_eq_some_iff.1 h
  rw [← flat_cons, ← flat_app, ← List.drop_eq_getElem_cons hi, List.take_append_drop]
theorem flat_cut {bs : List Bat} {i : Nat} {b : Bat} (h : bs[i]? = some b) : ((flat bs).drop (flat (bs.take i)).length).take (enc b).length = enc b := by
  rw [flat_get h, List.drop_left, List.take_left]
theorem flat_take (bs : List Bat) (i : Nat) : (flat bs).take (flat (bs.take i)).length = flat (bs.take i) := by
  have : flat bs = flat (bs.take i) ++ flat (bs.drop i) := by rw [← flat_app, List.take_append_drop]
  rw [this, List.take_left]
theorem flat_lq {bs : List Bat} (i : Nat) : (flat (bs.take i)).length ≤ (flat bs).length := by
  have := congrArg List.length (flat_take bs i); rw [List.length_take] at this; omega
theorem nextOf_snoc : ∀ (n : Int) (bs : List Bat) (b : Bat), nextOf n (bs ++ [b]) = b.en
  | _, [], _ => rfl
  | _, x :: bs, b => nextOf_snoc x.en bs b
theorem nextOf_app : ∀ (n : Int) (a b : List Bat), nextOf n (a ++ b) = nextOf (nextOf n a) b
  | _, [], _ => rfl
  | _, x :: a, b => nextOf_app x.en a b
theorem Chain.app : ∀ {n : Int} {a b : List Bat}, Chain n (a ++ b) ↔ Chain n a ∧ Chain (nextOf n a) b
  | _, [], _ => by simp [Chain, nextOf]
  | n, x :: a, b => by
    show _ ∧ Chain x.en (a ++ b) ↔ (_ ∧ Chain x.en a) ∧ Chain (nextOf x.en a) b
    rw [Chain.app, and_assoc]
theorem nextOf_last {n : Int} {bs : List Bat} {i : Nat} {b : Bat} (h : bs[i]? = some b) (hi : i + 1 = bs.length) : nextOf n bs = b.en := by
  have : bs = bs.take i ++ [b] := by
    obtain ⟨h1, rfl⟩ := List.getElem?_eq_some_iff.1 h
    rw [List.take_append_getElem h1, List.take_of_length_le (by omega)]
  rw [this, nextOf_snoc]
theorem nextOf_le : ∀ {n : Int} {bs : List Bat}, Chain n bs → (∀ b ∈ bs, b.good) → n ≤ nextOf n bs
  | _, [], _, _ => Int.le_refl _
  | n, b :: bs, h, hg => by
    have h1 := nextOf_le h.2 fun x hx => hg x (.tail _ hx)
    have h2 := (hg b (.head _)).lt
    have := h.1
    show n ≤ nextOf b.en bs
    omega
/-- The offsets rise. -/
theorem Chain.at {n : Int} {bs : List Bat} (h : Chain n bs) {i : Nat} {b : Bat} (hb : bs[i]? = some b) : b.base = nextOf n (bs.take i) ∧ b.en = nextOf n (bs.take (i + 1)) := by
  obtain ⟨hi, rfl⟩ := List.getElem?_eq_some_iff.1 hb
  have : bs = bs.take i ++ bs[i] :: bs.drop (i + 1) := by rw [← List.drop_eq_getElem_cons hi, List.take_append_drop]
  rw [this] at h
  exact ⟨(Chain.app.1 h).2.1, by rw [← List.take_append_getElem hi, nextOf_snoc]⟩
theorem Chain.mono {n : Int} {bs : List Bat} (h : Chain n bs) (hg : ∀ b ∈ bs, b.good) {i j : Nat} (hij : i ≤ j) : nextOf n (bs.take i) ≤ nextOf n (bs.take j) := by
  have e : bs.take j = bs.take i ++ (bs.take j).drop i := by
    have := (List.take_append_drop i (bs.take j)).symm
    rw [List.take_take, Nat.min_eq_left hij] at this; exact this
  have hc : Chain n (bs.take j) := by rw [← List.take_append_drop j bs] at h; exact (Chain.app.1 h).1
  rw [e] at hc ⊢
  rw [nextOf_app]
  exact nextOf_le (Chain.app.1 hc).2 fun b hb => hg b (List.mem_of_mem_take (List.mem_of_mem_drop hb))
theorem Chain.take {n : Int} {bs : List Bat} (h : Chain n bs) (i : Nat) : Chain n (bs.take i) := by
  rw [← List.take_append_drop i bs] at h; exact (Chain.app.1 h).1
theorem Chain.snoc {n : Int} {bs : List Bat} {b : Bat} (h : Chain n bs) (hb : b.base = nextOf n bs) : Chain n (bs ++ [b]) := Chain.app.2 ⟨h, hb, trivial⟩

/-- The index of a segment: some of its batches, the first among them, rising. -/
structure Ix (sm : List Nat) (n : Nat) : Prop where
  lt : ∀ i ∈ sm, i < n
  up : sm.Pairwise (· < ·)
  zero : 0 < n → sm[0]? = some 0
theorem Ix.snoc {sm : List Nat} {n : Nat} (h : Ix sm n) (h0 : 0 < n) : Ix sm (n + 1) := ⟨fun i hi => by have := h.lt i hi; omega, h.up, fun _ => h.zero h0⟩
theorem Ix.more {sm : List Nat} {n : Nat} (h : Ix sm n) : Ix (sm ++ [n]) (n + 1) := by
  refine ⟨fun i hi => ?_, ?_, fun _ => ?_⟩
  · rcases List.mem_append.1 hi with hi | hi
    · have := h.lt i hi; omega
    · simp at hi; omega
  · rw [List.pairwise_append]
    exact ⟨h.up, by simp, fun a ha b hb => by simp at hb; subst hb; exact h.lt a ha⟩
  · by_cases hn : n = 0
    · subst hn
      have : sm = [] := List.eq_nil_iff_forall_not_mem.2 fun i hi => by have := h.lt i hi; omega
      rw [this]; rfl
    · have h1 := h.zero (by omega)
      rw [List.getElem?_append_left (List.getElem?_eq_some_iff.1 h1).1]; exact h1
theorem Ix.cut {sm : List Nat} {n m : Nat} (h : Ix sm n) (hm : m ≤ n) : Ix (sm.filter fun i => decide (i < m)) m := by
  refine ⟨fun i hi => of_decide_eq_true (List.mem_filter.1 hi).2, h.up.filter _, fun h0 => ?_⟩
  have h1 := h.zero (by omega)
  cases sm with
  | nil => cases h1
  | cons x xs =>
    simp at h1; subst h1
    simp [h0]
theorem Ix.nil : Ix [] 0 := ⟨fun _ h => (by cases h), .nil, fun h => absurd h (by omega)⟩
end Go.Proofs.YtglhoenjflpibaaGreatDoor

/- Chapter 6: a segment in memory. -/
namespace Go.Proofs.YtglhoenjflpibaaGreatDoor
open Go Go.Sp

structure Sx where
  b : Nat
  nm : Nm
  base : Int
  bs : List Bat
  sm : List Nat
  aa : Option Addr
  ac : Nat
  ia : Option Addr
  ic : Nat
def icN (i : Nat) : List Value := [.int .i64 (i : Int)]
theorem icN_len (i : Nat) : (icN i).length = 1 := rfl
def Sx.cells (s : Sx) (db : Nat) : List Value := [.pointer (some ⟨db, 0, none⟩), nmv s.nm, .int .i64 s.base, .slice s.aa s.bs.length s.ac, .slice s.ia s.sm.length s.ic]
def Sx.rows (s : Sx) : List Value := (onesOf 0 s.bs).flatMap One.cells
def Sx.next (s : Sx) : Int := nextOf s.base s.bs
structure Sx.ok (s : Sx) : Prop where
  base0 : 0 ≤ s.base
  base1 : s.base ≤ 1000000000
  chain : Chain s.base s.bs
  good : ∀ b ∈ s.bs, b.good
  len : s.bs.length ≤ 4096
  ix : Ix s.sm s.bs.length
  cap : s.bs.length ≤ s.ac
def SegAt (db : Nat) (s : Sx) (w : World) : Prop := CellsAt s.b 0 (s.cells db) w ∧ RowAt s.aa s.rows w ∧ RowAt s.ia (s.sm.flatMap icN) w
theorem Sx.rows_len (s : Sx) : s.rows.length = s.bs.length * 4 := by unfold Sx.rows; rw [flat_length One.cells_len, onesOf_len]
theorem Sx.idx_len (s : Sx) : (s.sm.flatMap icN).length = s.sm.length := by rw [flat_length icN_len, Nat.mul_one]
theorem one_at {s : Sx} {i : Nat} {b : Bat} (h : s.bs[i]? = some b) : (onesOf 0 s.bs)[i]? = some ⟨b.base, b.en, (flat (s.bs.take i)).length, (flat (s.bs.take i)).length + (enc b).length⟩ := by rw [onesOf_get, h]; simp
theorem Sx.last {s : Sx} (h : 0 < s.bs.length) : ∃ b, s.bs[s.bs.length - 1]? = some b ∧ b.en = s.next := by
  obtain ⟨b, hb⟩ : ∃ b, s.bs[s.bs.length - 1]? = some b := ⟨_, List.getElem?_eq_getElem (by omega)⟩
  exact ⟨b, hb, (nextOf_last hb (by omega)).symm⟩
theorem Sx.next0 {s : Sx} (h : ¬ 0 < s.bs.length) : s.next = s.base := by
  have : s.bs = [] := List.eq_nil_of_length_eq_zero (by omega)
  unfold Sx.next; rw [this]; rfl
theorem Sx.ok.next_ge {s : Sx} (h : s.ok) : s.base ≤ s.next := nextOf_le h.chain h.good
theorem Sx.ok.next_le {s : Sx} (h : s.ok) : s.next ≤ 1000000000 := by
  by_cases h0 : 0 < s.bs.length
  · obtain ⟨b, hb, he⟩ := Sx.last h0
    rw [← he]; exact (h.good b (List.mem_of_getElem? hb)).en
  · rw [Sx.next0 h0]; exact h.base1
/-- Is a batch behind the others put into the index? -/
def addB (s : Sx) : Bool := decide (s.sm.length = 0) || decide (256 ≤ ((flat s.bs).length : Int) - ((flat (s.bs.take (s.sm.getD (s.sm.length - 1) 0))).length : Int))
def oneB (s : Sx) (b : Bat) : One := ⟨b.base, b.en, (flat s.bs).length, (flat s.bs).length + (enc b).length⟩
theorem Sx.ixlast {s : Sx} (h : s.ok) (h0 : s.sm.length ≠ 0) : ∃ j x, s.sm[s.sm.length - 1]? = some j ∧ s.bs[j]? = some x ∧ s.sm.getD (s.sm.length - 1) 0 = j := by
  obtain ⟨j, hj⟩ : ∃ j, s.sm[s.sm.length - 1]? = some j := ⟨_, List.getElem?_eq_getElem (by omega)⟩
  have hl := h.ix.lt j (List.mem_of_getElem? hj)
  exact ⟨j, s.bs[j], hj, List.getElem?_eq_getElem hl, by rw [List.getD_eq_getElem?_getD, hj]; rfl⟩
theorem Sx.sm_le {s : Sx} (h : s.ok) : s.sm.length ≤ s.bs.length := by
  have key : ∀ (l : List Nat) (m n : Nat), (∀ i ∈ l, m ≤ i ∧ i < n) → l.Pairwise (· < ·) → m ≤ n → l.length ≤ n - m := by
    intro l
    induction l with
    | nil => intro m n _ _ _; exact Nat.zero_le _
    | cons x l ih =>
      intro m n h1 h2 hmn
      obtain ⟨h3, h4⟩ := List.pairwise_cons.1 h2
      have hx := h1 x (.head _)
      have := ih (x + 1) n (fun i hi => ⟨h3 i hi, (h1 i (.tail _ hi)).2⟩) h4 (by omega)
      rw [List.length_cons]; omega
  have := key s.sm 0 s.bs.length (fun i hi => ⟨Nat.zero_le _, h.ix.lt i hi⟩) h.ix.up (Nat.zero_le _)
  omega
theorem Sx.rows_snoc (s : Sx) (b : Bat) : (onesOf 0 (s.bs ++ [b])).flatMap One.cells = s.rows ++ (oneB s b).cells := by
  rw [onesOf_snoc, List.flatMap_append, Nat.zero_add]; simp [Sx.rows, oneB]
theorem Sx.ok.add {s : Sx} (h : s.ok) {b : Bat} (hb : b.good) (hn : b.base = s.next) (hl : s.bs.length < 4096) {sm : List Nat} (hsm : Ix sm (s.bs.length + 1)) {aa : Option Addr} {ac : Nat} {ia : Option Addr} {ic : Nat} (hc : s.bs.length + 1 ≤ ac) : (Sx.mk s.b s.nm s.base (s.bs ++ [b]) sm aa ac ia ic).ok :=
  ⟨h.base0, h.base1, h.chain.snoc hn, fun x hx => by
    rcases List.mem_append.1 hx with hx | hx
    · exact h.good x hx
    · rw [List.mem_singleton.1 hx]; exact hb, by show (s.bs ++ [b]).length ≤ 4096; rw [List.length_append]; show s.bs.length + 1 ≤ 4096; omega, by show Ix sm (s.bs ++ [b]).length; rw [List.length_append]; exact hsm, by show (s.bs ++ [b]).length ≤ ac; rw [List.length_append]; exact hc⟩
theorem Sx.ok.flat_len {s : Sx} (h : s.ok) : (flat s.bs).length ≤ 16777216 := by
  have key : ∀ l : List Bat, (∀ b ∈ l, b.good) → (flat l).length ≤ 4096 * l.length := by
    intro l
    induction l with
    | nil => intro _; exact Nat.le_refl _
    | cons x l ih =>
      intro hl
      have h1 := (hl x (.head _)).enc_le
      have h2 := ih fun b hb => hl b (.tail _ hb)
      rw [flat_cons, List.length_append, List.length_cons]; omega
  have := key s.bs h.good; have := h.len; omega
theorem Ix.pos {sm : List Nat} {n : Nat} (h : Ix sm n) (h0 : sm.length ≠ 0) : 0 < n := by
  cases sm with
  | nil => exact absurd rfl h0
  | cons x l => have := h.lt x (.head _); omega
theorem addB_no {s : Sx} (h : s.ok) (hb : addB s = false) : Ix s.sm (s.bs.length + 1) := by
  have : s.sm.length ≠ 0 := fun e => by unfold addB at hb; rw [decide_eq_true e] at hb; cases hb
  exact h.ix.snoc (h.ix.pos this)
theorem idx_snoc (sm : List Nat) (n : Nat) : (sm ++ [n]).flatMap icN = sm.flatMap icN ++ [.int .i64 (n : Int)] := by rw [List.flatMap_append]; simp [icN]
end Go.Proofs.YtglhoenjflpibaaGreatDoor

/- Chapter 6: what is read out of a segment, in plain Lean. -/
namespace Go.Proofs.YtglhoenjflpibaaGreatDoor
open Go Go.Sp

/-- A batch and where its records lie. -/
abbrev BatM := Bat × Option Addr × Nat
def bmc (y : BatM) : List Value := y.1.cells y.2.1 y.2.2
theorem bmc_len (y : BatM) : (bmc y).length = 6 := rfl
def Bal (l : List BatM) (w : World) : Prop := ∀ y ∈ l, RowAt y.2.1 (y.1.recs.flatMap Rec.cells) w
theorem Bal.nil (w : World) : Bal [] w := fun _ h => by cases h
theorem Bal.snoc {l : List BatM} {y : BatM} {w : World} (h : Bal l w) (hy : RowAt y.2.1 (y.1.recs.flatMap Rec.cells) w) : Bal (l ++ [y]) w := fun x hx => by
  rcases List.mem_append.1 hx with hx | hx
  · exact h x hx
  · rw [List.mem_singleton.1 hx]; exact hy
def goR (off most : Int) : Int → List Bat → List Bat → List Bat
  | _, acc, [] => acc
  | sum, acc, b :: bs => if b.en ≤ off then goR off most sum acc bs else if 0 < acc.length ∧ most < sum + (enc b).length then acc else goR off most (sum + (enc b).length) (acc ++ [b]) bs
def segRead (s : Sx) (off most : Int) : List Bat := if off < s.base then [] else goR off most 0 [] s.bs
theorem goR_skip {off most : Int} : ∀ (pre bs : List Bat), (∀ b ∈ pre, b.en ≤ off) → ∀ sum acc, goR off most sum acc (pre ++ bs) = goR off most sum acc bs
  | [], _, _, _, _ => rfl
  | b :: pre, bs, h, sum, acc => by
    show (if b.en ≤ off then goR off most sum acc (pre ++ bs) else _) = _
    rw [if_pos (h b (.head _))]; exact goR_skip pre bs (fun x hx => h x (.tail _ hx)) sum acc
theorem goR_step {off most sum : Int} {acc bs : List Bat} {b : Bat} : goR off most sum acc (b :: bs) = if b.en ≤ off then goR off most sum acc bs else if 0 < acc.length ∧ most < sum + (enc b).length then acc else goR off most (sum + (enc b).length) (acc ++ [b]) bs := rfl
/-- All there is behind an offset, if there is room for all. -/
theorem goR_all {off most : Int} : ∀ (bs : List Bat) (sum : Int) (acc : List Bat), sum + ((flat bs).length : Int) ≤ most → goR off most sum acc bs = acc ++ bs.filter fun b => decide (off < b.en)
  | [], _, acc, _ => (List.append_nil acc).symm
  | b :: bs, sum, acc, h => by
    rw [flat_cons, List.length_append] at h
    rw [goR_step, List.filter_cons]
    by_cases h1 : b.en ≤ off
    · rw [if_pos h1, if_neg (by simp; omega)]; exact goR_all bs sum acc (by omega)
    · rw [if_neg h1, if_neg (by omega), if_pos (by simp; omega), goR_all bs _ _ (by omega), List.append_assoc]; rfl
/-- .. and the first, if there is room for none. -/
theorem goR_first {off : Int} : ∀ (bs : List Bat), (∀ b ∈ bs, b.good) → goR off 0 0 [] bs = (bs.filter fun b => decide (off < b.en)).take 1
  | [], _ => rfl
  | b :: bs, hg => by
    rw [goR_step, List.filter_cons]
    by_cases h1 : b.en ≤ off
    · rw [if_pos h1, if_neg (by simp; omega)]; exact goR_first bs fun x hx => hg x (.tail _ hx)
    · rw [if_neg h1, if_neg (by simp), if_pos (by simp; omega)]
      have key : ∀ (l : List Bat) (sum : Int), 0 < sum → (∀ x ∈ l, x.good) → goR off 0 sum [b] l = [b] := by
        intro l
        induction l with
        | nil => intro _ _ _; rfl
        | cons x l ih =>
          intro sum hs hl
          have hp := (hl x (.head _)).enc_pos
          rw [goR_step]
          split
          · exact ih sum hs fun y hy => hl y (.tail _ hy)
          · rw [if_pos (by simp; omega)]
      have hp := (hg b (.head _)).enc_pos
      rw [show ([] : List Bat) ++ [b] = [b] from rfl, key bs _ (by omega) fun x hx => hg x (.tail _ hx)]
      simp
theorem Sx.base_at {s : Sx} (h : s.ok) {i : Nat} {b : Bat} (hb : s.bs[i]? = some b) : b.base = nextOf s.base (s.bs.take i) := (h.chain.at hb).1
/-- The bases rise with the places. -/
theorem Sx.base_mono {s : Sx} (h : s.ok) {i j : Nat} {x y : Bat} (hx : s.bs[i]? = some x) (hy : s.bs[j]? = some y) (hij : i ≤ j) : x.base ≤ y.base := by
  rw [(h.chain.at hx).1, (h.chain.at hy).1]; exact h.chain.mono h.good hij
theorem Sx.en_le {s : Sx} (h : s.ok) {i j : Nat} {x y : Bat} (hx : s.bs[i]? = some x) (hy : s.bs[j]? = some y) (hij : i < j) : x.en ≤ y.base := by
  rw [(h.chain.at hx).2, (h.chain.at hy).1]; exact h.chain.mono h.good hij
theorem Sx.en_mono {s : Sx} (h : s.ok) {i j : Nat} {x y : Bat} (hx : s.bs[i]? = some x) (hy : s.bs[j]? = some y) (hij : i ≤ j) : x.en ≤ y.en := by
  rw [(h.chain.at hx).2, (h.chain.at hy).2]; exact h.chain.mono h.good (by omega)
theorem Sx.skip {s : Sx} (h : s.ok) {j : Nat} {y : Bat} {off : Int} (hy : s.bs[j]? = some y) (ho : y.base ≤ off) (most : Int) : goR off most 0 [] (s.bs.drop j) = goR off most 0 [] s.bs := by
  have := goR_skip (off := off) (most := most) (s.bs.take j) (s.bs.drop j) (fun b hb => by
    obtain ⟨i, hi⟩ := List.getElem?_of_mem hb
    have hlt : i < j := by have := (List.getElem?_eq_some_iff.1 hi).1; rw [List.length_take] at this; omega
    rw [List.getElem?_take, if_pos hlt] at hi
    have := Sx.en_le h hi hy hlt; omega) 0 []
  rw [List.take_append_drop] at this; exact this.symm
theorem flat_all {s : Sx} {i : Nat} {b : Bat} (hb : s.bs[i]? = some b) : (flat (s.bs.take i)).length + (enc b).length ≤ (flat s.bs).length := by
  have := congrArg List.length (flat_get hb)
  simp only [List.length_append] at this; omega
theorem flat_next {s : Sx} {i : Nat} {b : Bat} (hb : s.bs[i]? = some b) : (flat (s.bs.take (i + 1))).length = (flat (s.bs.take i)).length + (enc b).length := by
  rw [List.take_add_one, hb, flat_app, List.length_append]; simp [flat]
end Go.Proofs.YtglhoenjflpibaaGreatDoor

/- Chapter 6: what opening a segment finds, in plain Lean. -/
namespace Go.Proofs.YtglhoenjflpibaaGreatDoor
open Go Go.Sp

theorem mset_mset (l : Fs) (n : Nm) (f g : Fl) : mset (mset l n f) n g = mset l n g := by
  by_cases h : l.any (fun p => decide (n = p.1)) = true
  · have h1 : mset l n f = l.map (fun p => if n = p.1 then (p.1, f) else p) := if_pos h
    have h2 : (mset l n f).any (fun p => decide (n = p.1)) = true := by
      rw [h1, List.any_map]
      obtain ⟨p, hp, hn⟩ := List.any_eq_true.1 h
      exact List.any_eq_true.2 ⟨p, hp, by simp only [Function.comp]; split <;> exact hn⟩
    have h3 : mset (mset l n f) n g = (mset l n f).map (fun p => if n = p.1 then (p.1, g) else p) := if_pos h2
    rw [h3, h1, List.map_map]
    have h4 : mset l n g = l.map (fun p => if n = p.1 then (p.1, g) else p) := if_pos h
    rw [h4]
    refine List.map_congr_left fun p _ => ?_
    simp only [Function.comp]
    by_cases hp : n = p.1
    · rw [if_pos hp]; dsimp only; rw [if_pos hp, if_pos hp]
    · rw [if_neg hp, if_neg hp]
  · have h1 : mset l n f = l ++ [(n, f)] := if_neg h
    have h2 : (mset l n f).any (fun p => decide (n = p.1)) = true := by rw [h1, List.any_append]; simp
    have h3 : mset (mset l n f) n g = (mset l n f).map (fun p => if n = p.1 then (p.1, g) else p) := if_pos h2
    have h4 : mset l n g = l ++ [(n, g)] := if_neg h
    have h5 : n ∉ l.map (·.1) := fun hm => h (by obtain ⟨p, hp, rfl⟩ := List.mem_map.1 hm; exact List.any_eq_true.2 ⟨p, hp, by simp⟩)
    rw [h3, h1, h4, List.map_append, total_none h5]; simp
theorem Dk.put_put (d : Dk) (n : Nm) (f g : Fl) : (d.put n f).put n g = d.put n g := by
  unfold Dk.put; dsimp only; rw [mset_mset]
theorem Dk.file_put (d : Dk) (n : Nm) (f : Fl) : (d.put n f).file n = f := Dk.file_of (by rw [Dk.get_put, if_pos rfl])
theorem Dk.some_put (d : Dk) (n : Nm) (f : Fl) : ((d.put n f).get n).isSome = true := by rw [Dk.get_put, if_pos rfl]; rfl
theorem Dk.file_put_ne (d : Dk) {n m : Nm} (f : Fl) (h : m ≠ n) : (d.put n f).file m = d.file m ∧ (d.put n f).get m = d.get m := by
  have : (d.put n f).get m = d.get m := by rw [Dk.get_put, if_neg h]
  exact ⟨congrArg (fun o => o.getD fl0) this, this⟩
theorem Dk.file_del_ne (d : Dk) {n m : Nm} (h : m ≠ n) : (d.del n).file m = d.file m ∧ (d.del n).get m = d.get m := by
  have : (d.del n).get m = d.get m := by rw [Dk.get_del, if_neg h]
  exact ⟨congrArg (fun o => o.getD fl0) this, this⟩
theorem Dk.file_safe {d : Dk} (hd : d.ok) (n : Nm) : (d.file n).safe ≤ (d.file n).b.length := by
  unfold Dk.file
  cases h : mget d.fs n with
  | none => exact Nat.le_refl _
  | some f => exact Dk.safe_le hd (n := n) h
theorem Dk.ok_touch {d : Dk} (hd : d.ok) (n : Nm) : (d.put n ⟨(d.file n).b ++ [], (d.file n).safe⟩).ok := by
  have hu := hd.used
  exact Dk.ok_put hd (by show _ + ((d.file n).b ++ []).length ≤ _; rw [List.append_nil]; omega) (by show (d.file n).safe ≤ ((d.file n).b ++ []).length; rw [List.append_nil]; exact Dk.file_safe hd n)
theorem take_snoc {α : Type} {l : List α} {i : Nat} {x : α} (h : l[i]? = some x) : l.take i ++ [x] = l.take (i + 1) := by
  rw [List.take_add_one, h]; rfl
theorem open_ok {b : Nat} {nm : Nm} {base : Int} {bs : List Bat} (h0 : 0 ≤ base) (h1 : base ≤ 1000000000) (hc : Chain base bs) (hg : ∀ b ∈ bs, b.good) (hl : bs.length ≤ 4096) {i : Nat} (hi : i ≤ bs.length) {sm : List Nat} {aa : Option Addr} {ac : Nat} {ia : Option Addr} {ic : Nat} (hix : Ix sm i) (hca : i ≤ ac) : (Sx.mk b nm base (bs.take i) sm aa ac ia ic).ok :=
  ⟨h0, h1, hc.take i, fun x hx => hg x (List.mem_of_mem_take hx), by show (bs.take i).length ≤ 4096; rw [List.length_take]; omega, by show Ix sm (bs.take i).length; rw [List.length_take, Nat.min_eq_left hi]; exact hix, by show (bs.take i).length ≤ ac; rw [List.length_take]; omega⟩
theorem flat_drop {bs : List Bat} {rest : List UInt8} {i : Nat} {b : Bat} (hb : bs[i]? = some b) : (flat bs ++ rest).drop (flat (bs.take i)).length = enc b ++ (flat (bs.drop (i + 1)) ++ rest) := by
  rw [flat_get hb, List.append_assoc, List.drop_left, List.append_assoc]
theorem read_next {b : Bat} (hb : b.good) (more : List UInt8) : readBatch (enc b ++ more) = (b, ((enc b).length : Int), 0) := read_write hb.fits hb.right more
end Go.Proofs.YtglhoenjflpibaaGreatDoor

/- Chapter 6: names of files, numbers as texts, in plain Lean. -/
namespace Go.Proofs.YtglhoenjflpibaaGreatDoor
open Go Go.Sp

def digit (c : UInt8) : Prop := 48 ≤ c.toNat ∧ c.toNat ≤ 57
def val (acc : Nat) (l : List UInt8) : Nat := l.foldl (fun a c => a * 10 + (c.toNat - 48)) acc
theorem val_app (acc : Nat) (a b : List UInt8) : val acc (a ++ b) = val (val acc a) b := List.foldl_append ..
theorem dig_nat {u : Nat} (h : u < 10) : (UInt8.ofNat (48 + u)).toNat = 48 + u := by simp; omega
theorem dec_digit : ∀ (u : Nat), ∀ c ∈ Lib.decDigits u, digit c := fun u => by
  induction u using Nat.strongRecOn with
  | _ u ih =>
    intro c hc
    rw [Lib.decDigits] at hc
    split at hc
    · rename_i h
      rw [List.mem_singleton.1 hc]; unfold digit; rw [dig_nat h]; omega
    · rcases List.mem_append.1 hc with hc | hc
      · exact ih (u / 10) (by omega) c hc
      · rw [List.mem_singleton.1 hc]; unfold digit; rw [dig_nat (by omega)]; omega
theorem val_dec (u : Nat) : val 0 (Lib.decDigits u) = u := by
  induction u using Nat.strongRecOn with
  | _ u ih =>
    rw [Lib.decDigits]
    split
    · rename_i h
      show 0 * 10 + ((UInt8.ofNat (48 + u)).toNat - 48) = u
      rw [dig_nat h]; omega
    · rw [val_app, ih (u / 10) (by omega)]
      show u / 10 * 10 + ((UInt8.ofNat (48 + u % 10)).toNat - 48) = u
      rw [dig_nat (by omega)]; omega
theorem parse_val : ∀ (l : List UInt8) (acc : Nat), (∀ c ∈ l, digit c) → (acc + 1) * 10 ^ l.length ≤ 10 ^ 18 → Lib.parseUint10 acc l = .ok (val acc l)
  | [], _, _, _ => rfl
  | c :: l, acc, hd, hb => by
    obtain ⟨h1, h2⟩ := hd c (.head _)
    have hp : 1 ≤ 10 ^ l.length := Nat.one_le_pow _ _ (by decide)
    have e : 10 ^ (c :: l).length = 10 ^ l.length * 10 := Nat.pow_succ ..
    rw [e, ← Nat.mul_assoc, Nat.mul_right_comm] at hb
    have h3 : (acc + 1) * 10 ≤ 10 ^ 18 := Nat.le_trans (Nat.le_mul_of_pos_right _ hp) hb
    unfold Lib.parseUint10
    rw [if_pos ⟨h1, h2⟩, if_neg (by omega), if_neg (by omega)]
    refine parse_val l _ (fun x hx => hd x (.tail _ hx)) (Nat.le_trans (Nat.mul_le_mul_right _ ?_) hb)
    omega
theorem atoi_val {l : List UInt8} (h0 : l ≠ []) (hd : ∀ c ∈ l, digit c) (hl : l.length ≤ 18) : Lib.atoiAll l = .ok (val 0 l : Int) := by
  cases l with
  | nil => exact absurd rfl h0
  | cons c l =>
    obtain ⟨h1, h2⟩ := hd c (.head _)
    have hp : Lib.parseUint10 0 (c :: l) = .ok (val 0 (c :: l)) := parse_val _ _ hd (by rw [Nat.zero_add, Nat.one_mul]; exact Nat.pow_le_pow_right (by decide) hl)
    have hv : ∀ (l : List UInt8) (acc : Nat), (∀ c ∈ l, digit c) → val acc l + 1 ≤ (acc + 1) * 10 ^ l.length := by
      intro l
      induction l with
      | nil => intro acc _; show acc + 1 ≤ (acc + 1) * 1; omega
      | cons x l ih =>
        intro acc hx
        obtain ⟨h3, h4⟩ := hx x (.head _)
        have h5 := ih (acc * 10 + (x.toNat - 48)) fun y hy => hx y (.tail _ hy)
        refine Nat.le_trans h5 ?_
        rw [List.length_cons, Nat.pow_succ, Nat.mul_comm (10 ^ l.length) 10, ← Nat.mul_assoc]
        exact Nat.mul_le_mul_right _ (by omega)
    have h6 := hv (c :: l) 0 hd
    have h7 : 10 ^ (c :: l).length ≤ 10 ^ 18 := Nat.pow_le_pow_right (by decide) hl
    unfold Lib.atoiAll
    dsimp only
    rw [if_neg (show ¬ (c.toNat = 43 ∨ c.toNat = 45) by omega)]
    unfold Lib.parseMag
    rw [if_neg (by simp), hp]
    dsimp only
    have h8 : ¬ c.toNat = 45 := by omega
    simp only [h8, if_false]
    split <;> first | rfl | omega
/-- Ten digits. -/
def pad (u : Nat) : List UInt8 := Lib.repeatL [48] (10 - (Lib.decDigits u).length) ++ Lib.decDigits u
theorem dec_len {u : Nat} (h : u < 10 ^ 10) : (Lib.decDigits u).length ≤ 10 := by
  rw [Lib.decDigits_length]
  by_cases h0 : u = 0
  · subst h0; rw [Lib.nDigits_small (by decide)]; decide
  · have h1 : 10 ^ (Lib.nDigits u - 1) ≤ u := by
      obtain ⟨k, hk⟩ : ∃ k, k = Lib.nDigits u := ⟨_, rfl⟩
      rw [← hk]
      clear h
      induction k generalizing u with
      | zero => have := Lib.nDigits_pos u; omega
      | succ k ih =>
        by_cases h : u < 10
        · rw [Lib.nDigits_small h] at hk
          obtain rfl : k = 0 := by omega
          show 1 ≤ u; omega
        · rw [Lib.nDigits_big h] at hk
          have hk' : k = Lib.nDigits (u / 10) := by omega
          have h2 := ih (u := u / 10) (by omega) hk'
          have hp := Lib.nDigits_pos (u / 10)
          obtain ⟨m, rfl⟩ : ∃ m, k = m + 1 := ⟨k - 1, by omega⟩
          show 10 ^ (m + 1) ≤ u
          have h3 : 10 ^ m ≤ u / 10 := h2
          rw [Nat.pow_succ]; omega
    rcases Nat.lt_or_ge 10 (Lib.nDigits u) with h2 | h2
    · have h3 : 10 ^ 10 ≤ 10 ^ (Lib.nDigits u - 1) := Nat.pow_le_pow_right (by decide) (by omega)
      omega
    · exact h2
theorem pad_len {u : Nat} (h : u < 10 ^ 10) : (pad u).length = 10 := by
  have := dec_len h
  unfold pad; rw [List.length_append, Lib.repeatL_length]; simp; omega
theorem rep_digit : ∀ (k : Nat), ∀ c ∈ Lib.repeatL [48] k, digit c
  | 0, _, h => by cases h
  | k + 1, c, h => by
    rcases List.mem_append.1 h with h | h
    · rw [List.mem_singleton.1 h]; exact ⟨by decide, by decide⟩
    · exact rep_digit k c h
theorem pad_digit (u : Nat) : ∀ c ∈ pad u, digit c := fun c h => by
  rcases List.mem_append.1 h with h | h
  · exact rep_digit _ c h
  · exact dec_digit u c h
theorem val_rep : ∀ (k : Nat), val 0 (Lib.repeatL [48] k) = 0
  | 0 => rfl
  | k + 1 => by
    show val 0 ([48] ++ Lib.repeatL [48] k) = 0
    rw [val_app]; exact val_rep k
theorem val_pad (u : Nat) : val 0 (pad u) = u := by unfold pad; rw [val_app, val_rep, val_dec]
/-- A segment's file. -/
def nameOf (pre : Nm) (u : Nat) : Nm := pre ++ [45] ++ pad u ++ [46, 108, 111, 103]
def metaOf (pre : Nm) : Nm := pre ++ [46, 109, 101, 116, 97]
theorem nameOf_inj {pre : Nm} {u v : Nat} (h : nameOf pre u = nameOf pre v) : u = v := by
  unfold nameOf at h
  have h2 := congrArg (val 0) (List.append_cancel_left (List.append_cancel_right h))
  rwa [val_pad, val_pad] at h2
theorem nameOf_len {pre : Nm} {u : Nat} (h : u < 10 ^ 10) : (nameOf pre u).length = pre.length + 15 := by
  unfold nameOf; simp only [List.length_append, pad_len h]; simp
theorem nameOf_meta {pre : Nm} {u : Nat} (h : u < 10 ^ 10) : nameOf pre u ≠ metaOf pre := fun e => by
  have := congrArg List.length e
  rw [nameOf_len h] at this
  unfold metaOf at this; simp at this
/-- The letters of names. -/
def abc : List UInt8 := [97, 98, 99, 100, 101, 102, 103, 104, 105, 106, 107, 108, 109, 110, 111, 112, 113, 114, 115, 116, 117, 118, 119, 120, 121, 122, 48, 49, 50, 51, 52, 53, 54, 55, 56, 57, 45]
def Named (n : Nm) : Prop := n ≠ [] ∧ n.length ≤ 64 ∧ ∀ c ∈ n, c ∈ abc ∨ c = 46
theorem digit_abc {c : UInt8} (h : digit c) : c ∈ abc := by
  have key : ∀ k : Fin 256, 48 ≤ (k : Nat) ∧ (k : Nat) ≤ 57 → UInt8.ofNat k ∈ abc := by decide +kernel
  have := key ⟨c.toNat, c.toNat_lt⟩ h
  simpa using this
structure Pre (pre : Nm) : Prop where
  ne : pre ≠ []
  len : pre.length ≤ 40
  abc : ∀ c ∈ pre, c ∈ abc
theorem nameOf_named {pre : Nm} (h : Pre pre) {u : Nat} (hu : u < 10 ^ 10) : Named (nameOf pre u) := by
  refine ⟨fun e => ?_, by rw [nameOf_len hu]; have := h.len; omega, fun c hc => ?_⟩
  · have := congrArg List.length e; rw [nameOf_len hu] at this; simp at this
  · unfold nameOf at hc
    rcases List.mem_append.1 hc with hc | hc
    · rcases List.mem_append.1 hc with hc | hc
      · rcases List.mem_append.1 hc with hc | hc
        · exact .inl (h.abc c hc)
        · exact .inl (by rw [List.mem_singleton.1 hc]; decide)
      · exact .inl (digit_abc (pad_digit u c hc))
    · have : ∀ x ∈ ([46, 108, 111, 103] : List UInt8), x ∈ Go.Proofs.YtglhoenjflpibaaGreatDoor.abc ∨ x = 46 := by decide
      exact this c hc
theorem metaOf_named {pre : Nm} (h : Pre pre) : Named (metaOf pre) := by
  refine ⟨fun e => ?_, ?_, fun c hc => ?_⟩
  · have := congrArg List.length e; unfold metaOf at this; simp at this
  · have := h.len; unfold metaOf; simp; omega
  · unfold metaOf at hc
    rcases List.mem_append.1 hc with hc | hc
    · exact .inl (h.abc c hc)
    · have : ∀ x ∈ ([46, 109, 101, 116, 97] : List UInt8), x ∈ Go.Proofs.YtglhoenjflpibaaGreatDoor.abc ∨ x = 46 := by decide
      exact this c hc
theorem tw_mem {α : Type} {p : α → Bool} : ∀ {l : List α} {x : α}, x ∈ l.takeWhile p → p x = true
  | y :: l, x, h => by
    rw [List.takeWhile_cons] at h
    split at h
    · rename_i hy
      rcases List.mem_cons.1 h with rfl | h
      · exact hy
      · exact tw_mem h
    · cases h
theorem dw_nil {α : Type} {p : α → Bool} : ∀ {l : List α}, (∀ x ∈ l, p x = true) → l.dropWhile p = []
  | [], _ => rfl
  | y :: l, h => by rw [List.dropWhile_cons, if_pos (h y (.head _))]; exact dw_nil fun x hx => h x (.tail _ hx)
/-- Nothing is left of a text just where all its bytes are in the set. -/
theorem trim_nil {l cs : List UInt8} : Lib.trimS l cs = [] ↔ ∀ c ∈ l, c ∈ cs := by
  unfold Lib.trimS Lib.trimLeftS Lib.trimRightS
  constructor
  · intro h c hc
    have h1 : ∀ x ∈ (List.dropWhile (fun x => cs.contains x) l.reverse).reverse, cs.contains x = true := by
      intro x hx
      have := List.takeWhile_append_dropWhile (p := fun x => cs.contains x) (l := (List.dropWhile (fun x => cs.contains x) l.reverse).reverse)
      rw [h, List.append_nil] at this
      rw [← this] at hx
      exact tw_mem hx
    have h2 := List.takeWhile_append_dropWhile (p := fun x => cs.contains x) (l := l.reverse)
    have h3 : c ∈ l.reverse := List.mem_reverse.2 hc
    rw [← h2] at h3
    rcases List.mem_append.1 h3 with h3 | h3
    · simpa using tw_mem h3
    · simpa using h1 c (List.mem_reverse.2 h3)
  · intro h
    have h1 : List.dropWhile (fun x => cs.contains x) l.reverse = [] := dw_nil fun x hx => by simpa using h x (List.mem_reverse.1 hx)
    rw [h1]; rfl
end Go.Proofs.YtglhoenjflpibaaGreatDoor

/- Chapter 6: a log in memory. -/
namespace Go.Proofs.YtglhoenjflpibaaGreatDoor
open Go Go.Sp

/-- A log: segments behind which there is one that is written. -/
structure Lx where
  lb : Nat
  pre : Nm
  most : Int
  start : Int
  high : Int
  ini : List Sx
  cur : Sx
  la : Option Addr
  lc : Nat
def Lx.segs (l : Lx) : List Sx := l.ini ++ [l.cur]
def sp (s : Sx) : List Value := [.pointer (some ⟨s.b, 0, none⟩)]
theorem sp_len (s : Sx) : (sp s).length = 1 := rfl
def lcells (p : Option Addr) (db : Nat) (pre : Nm) (most start high : Int) (la : Option Addr) (n lc : Nat) : List Value := [.pointer p, .pointer (some ⟨db, 0, none⟩), nmv pre, .int .i64 most, .int .i64 start, .int .i64 high, .slice la n lc]
def Lx.cells (l : Lx) (db : Nat) : List Value := lcells (some ⟨l.cur.b, 0, none⟩) db l.pre l.most l.start l.high l.la (l.ini.length + 1) l.lc
def SG (db : Nat) (s : Sx) : SProp := pk [blk s.b (s.cells db) 69, arr 71 4 s.aa s.ac s.rows, arr 3 1 s.ia s.ic (s.sm.flatMap icN)]
def LG (db : Nat) (l : Lx) : SProp := pk [blk l.lb (l.cells db) 42, arr 39 1 l.la l.lc (l.segs.flatMap sp), bag (SG db) l.segs]
theorem SG.at {Γ Γ' db s} (p : Pick (SG db s) Γ Γ') : Knows Γ (SegAt db s) := fun A w h => by
  have h1 := h.map fun _ => p.sat
  have h2 : Sat A w ([blk s.b (s.cells db) 69, arr 71 4 s.aa s.ac s.rows, arr 3 1 s.ia s.ic (s.sm.flatMap icN)] ++ Γ') := Sat.open_ (σ := Unit) (φ := fun _ => True) (B := fun _ => _) (fun _ h => ⟨(), trivial, h⟩) h1 |>.elim fun _ h => h.2
  exact ⟨(Knows.blk .head) A w h2, (Knows.arr (.tail .head)) A w h2, (Knows.arr (.tail (.tail .head))) A w h2⟩
/-- All of its batches. -/
def Lx.all (l : Lx) : List Bat := l.segs.flatMap (·.bs)
def Lx.next (l : Lx) : Int := l.cur.next
def baseOf (l : Lx) : Int := (l.segs.headD l.cur).base
/-- One segment behind the other. -/
def Link : Int → List Sx → Prop
  | _, [] => True
  | n, s :: r => s.base = n ∧ Link s.next r
structure Lx.ok (l : Lx) (d : Dk) : Prop where
  pre : Pre l.pre
  seg : ∀ s ∈ l.segs, s.ok ∧ s.nm = nameOf l.pre s.base.toNat ∧ (d.get s.nm).isSome = true ∧ (d.file s.nm).b = flat s.bs
  link : Link (baseOf l) l.segs
  ne : ∀ s ∈ l.ini, s.bs ≠ []
  start : 0 ≤ l.start ∧ baseOf l ≤ l.start ∧ l.start ≤ l.next
  high : l.start ≤ l.high ∧ l.high ≤ l.next
  most : 256 ≤ l.most ∧ l.most ≤ 1000000
  len : l.segs.length ≤ 100000
theorem Lx.cur_in (l : Lx) : l.cur ∈ l.segs := by unfold Lx.segs; simp
end Go.Proofs.YtglhoenjflpibaaGreatDoor

/- Chapter 6: a log that is read. -/
namespace Go.Proofs.YtglhoenjflpibaaGreatDoor
open Go Go.Sp

/-- What a world has of a log. -/
def LogAt (db : Nat) (l : Lx) (w : World) : Prop := CellsAt l.lb 0 (l.cells db) w ∧ RowAt l.la (l.segs.flatMap sp) w ∧ ∀ s ∈ l.segs, SegAt db s w
theorem Knows.allSG {db : Nat} {l : List Sx} {Γ Γ' : List SProp} (p : Pick (bag (SG db) l) Γ Γ') : Knows Γ fun w => ∀ s ∈ l, SegAt db s w := fun A w h _ hs => (Knows.bag p hs (SG.at .head)) A w h
theorem LG.at {Γ Γ' db l} (p : Pick (LG db l) Γ Γ') : Knows Γ (LogAt db l) := fun A w h => by
  have h1 := h.map fun _ => p.sat
  have h2 : Sat A w ([blk l.lb (l.cells db) 42, arr 39 1 l.la l.lc (l.segs.flatMap sp), bag (SG db) l.segs] ++ Γ') := Sat.open_ (σ := Unit) (φ := fun _ => True) (B := fun _ => _) (fun _ h => ⟨(), trivial, h⟩) h1 |>.elim fun _ h => h.2
  exact ⟨(Knows.blk .head) A w h2, (Knows.arr (.tail .head)) A w h2, (Knows.allSG (.tail (.tail .head))) A w h2⟩
theorem segRead_all {s : Sx} (h : s.ok) {off : Int} (ho : s.base ≤ off) : segRead s off 16777216 = s.bs.filter fun b => decide (off < b.en) := by
  have := h.flat_len
  unfold segRead
  rw [if_neg (by omega), goR_all _ _ _ (by omega), List.nil_append]
theorem en_base {s : Sx} (h : s.ok) {b : Bat} (hb : b ∈ s.bs) : s.base < b.en := by
  obtain ⟨i, hi⟩ := List.getElem?_of_mem hb
  have h1 := Sx.base_at h hi
  have h2 := h.chain.mono h.good (i := 0) (j := i) (Nat.zero_le _)
  have h3 : nextOf s.base (s.bs.take 0) = s.base := rfl
  have := (h.good b hb).lt
  omega
theorem segRead_base {s : Sx} (h : s.ok) : segRead s s.base 16777216 = s.bs := by
  rw [segRead_all h (Int.le_refl _)]
  exact List.filter_eq_self.2 fun b hb => decide_eq_true (en_base h hb)
def keepN (n : Int) (l : List Bat) : List Bat := l.filter fun b => decide (n < b.en)
theorem keepN_app (n : Int) (a b : List Bat) : keepN n (a ++ b) = keepN n a ++ keepN n b := List.filter_append ..
theorem keep_hit {n : Int} {b : Bat} (h : n < b.en) : keepN n [b] = [b] := by unfold keepN; simp [h]
theorem keep_miss {n : Int} {b : Bat} (h : ¬ n < b.en) : keepN n [b] = [] := by unfold keepN; simp [h]
theorem segs_take {l : Lx} {i : Nat} {s : Sx} (h : l.segs[i]? = some s) : (l.segs.take (i + 1)).flatMap (·.bs) = (l.segs.take i).flatMap (·.bs) ++ s.bs := by
  rw [List.take_add_one, h, List.flatMap_append]; simp
theorem maps_take {xl : List BatM} {j : Nat} {y : BatM} (h : xl[j]? = some y) : (xl.take (j + 1)).map (·.1) = (xl.take j).map (·.1) ++ [y.1] := by
  rw [List.take_add_one, h, List.map_append]; rfl
theorem all_len {l : Lx} {i : Nat} {s : Sx} (h : l.segs[i]? = some s) : ((l.segs.take i).flatMap (·.bs)).length + s.bs.length ≤ l.all.length := by
  rw [← List.length_append, ← segs_take h]
  have e : l.all = (l.segs.take (i + 1)).flatMap (·.bs) ++ (l.segs.drop (i + 1)).flatMap (·.bs) := by
    unfold Lx.all; rw [← List.flatMap_append, List.take_append_drop]
  rw [e, List.length_append]; omega
theorem keep_len (n : Int) (l : List Bat) : (keepN n l).length ≤ l.length := List.length_filter_le ..
theorem goR_keep {off most : Int} (r : List Bat) : ∀ (l : List Bat) (sum : Int) (acc : List Bat), goR off most sum acc (keepN off l ++ r) = goR off most sum acc (l ++ r)
  | [], _, _ => rfl
  | b :: l, sum, acc => by
    unfold keepN
    rw [List.filter_cons]
    by_cases h : off < b.en
    · rw [if_pos (decide_eq_true h)]
      show goR off most sum acc (b :: (keepN off l ++ r)) = goR off most sum acc (b :: (l ++ r))
      rw [goR_step, goR_step, goR_keep r l, goR_keep r l]
    · rw [if_neg (by simpa using h)]
      show goR off most sum acc (keepN off l ++ r) = goR off most sum acc (b :: (l ++ r))
      rw [goR_keep r l, goR_step, if_pos (by omega)]
theorem segRead_max {s : Sx} (h : s.ok) (off : Int) : segRead s (max off s.base) 16777216 = keepN off s.bs := by
  rw [segRead_all h (by omega)]
  exact List.filter_congr fun b hb => decide_eq_decide.2 (by have := en_base h hb; omega)
theorem segs_drop {l : Lx} {i : Nat} {s : Sx} (h : l.segs[i]? = some s) : (l.segs.drop i).flatMap (·.bs) = s.bs ++ (l.segs.drop (i + 1)).flatMap (·.bs) := by
  obtain ⟨hi, rfl⟩ := List.getElem?_eq_some_iff.1 h
  rw [List.drop_eq_getElem_cons hi, List.flatMap_cons]
theorem maps_drop {xl : List BatM} {j : Nat} {y : BatM} (h : xl[j]? = some y) : (xl.drop j).map (·.1) = y.1 :: (xl.drop (j + 1)).map (·.1) := by
  obtain ⟨hi, rfl⟩ := List.getElem?_eq_some_iff.1 h
  rw [List.drop_eq_getElem_cons hi]; rfl
end Go.Proofs.YtglhoenjflpibaaGreatDoor

/- Chapter 6: a log that takes a batch. -/
namespace Go.Proofs.YtglhoenjflpibaaGreatDoor
open Go Go.Sp

def Lx.grow (l : Lx) (b : Bat) (sm : List Nat) (aa : Option Addr) (ac : Nat) (ia : Option Addr) (ic : Nat) : Lx := { l with cur := ⟨l.cur.b, l.cur.nm, l.cur.base, l.cur.bs ++ [b], sm, aa, ac, ia, ic⟩ }
def Lx.roll (l : Lx) (sb : Nat) (b : Bat) (sm : List Nat) (aa : Option Addr) (ac : Nat) (ia : Option Addr) (ic : Nat) (qa : Option Addr) (qc : Nat) : Lx := { l with ini := l.segs, cur := ⟨sb, nameOf l.pre l.next.toNat, ((l.next.toNat : Nat) : Int), [b], sm, aa, ac, ia, ic⟩, la := qa, lc := qc }
theorem grow_sp (l : Lx) (b : Bat) (sm aa ac ia ic) : (l.grow b sm aa ac ia ic).segs.flatMap sp = l.segs.flatMap sp := by
  unfold Lx.segs Lx.grow; rw [List.flatMap_append, List.flatMap_append]; rfl
theorem put_segs {db : Nat} {ini : List Sx} {s : Sx} {h : Hp} (H : sat [SG db s, bag (SG db) ini] h) : bag (SG db) (ini ++ [s]) h := bag.put (List.perm_append_comm (l₁ := [s]) (l₂ := ini)) H
end Go.Proofs.YtglhoenjflpibaaGreatDoor

/- Chapter 6: what stays true of a log that takes a batch, in plain Lean. -/
namespace Go.Proofs.YtglhoenjflpibaaGreatDoor
open Go Go.Sp

theorem base_lt {s : Sx} (h : s.ok) (hn : s.bs ≠ []) : s.base < s.next := by
  have h0 : 0 < s.bs.length := List.length_pos_iff.2 hn
  obtain ⟨b, hb, he⟩ := Sx.last h0
  rw [← he]; exact en_base h (List.mem_of_getElem? hb)
theorem link_lt : ∀ {n : Int} {l : List Sx} {c : Sx}, Link n (l ++ [c]) → (∀ s ∈ l, s.ok ∧ s.bs ≠ []) → n ≤ c.base ∧ ∀ s ∈ l, s.base < c.base
  | n, [], c, h, _ => ⟨by have := h.1; omega, fun _ h => (by cases h)⟩
  | n, x :: l, c, h, ho => by
    obtain ⟨h1, h2⟩ := link_lt (n := x.next) (l := l) h.2 fun s hs => ho s (.tail _ hs)
    have h3 := base_lt (ho x (.head _)).1 (ho x (.head _)).2
    have h4 : x.base = n := h.1
    refine ⟨by omega, fun s hs => ?_⟩
    rcases List.mem_cons.1 hs with rfl | hs
    · omega
    · exact h2 s hs
theorem link_cur : ∀ {n : Int} {l : List Sx} {c c' : Sx}, c'.base = c.base → Link n (l ++ [c]) → Link n (l ++ [c'])
  | n, [], c, c', e, h => ⟨e.trans h.1, trivial⟩
  | n, x :: l, c, c', e, h => ⟨h.1, link_cur (l := l) e h.2⟩
theorem link_more : ∀ {n : Int} {l : List Sx} {c c' : Sx}, c'.base = c.next → Link n (l ++ [c]) → Link n ((l ++ [c]) ++ [c'])
  | n, [], c, c', e, h => ⟨h.1, e, trivial⟩
  | n, x :: l, c, c', e, h => ⟨h.1, link_more (l := l) e h.2⟩
theorem Lx.ok.ini {l : Lx} {d : Dk} (h : l.ok d) : ∀ s ∈ l.ini, s.ok ∧ s.bs ≠ [] := fun s hs => ⟨(h.seg s (List.mem_append_left _ hs)).1, h.ne s hs⟩
theorem Lx.ok.lt {l : Lx} {d : Dk} (h : l.ok d) : baseOf l ≤ l.cur.base ∧ ∀ s ∈ l.ini, s.base < l.cur.base := link_lt h.link h.ini
theorem Lx.ok.cur {l : Lx} {d : Dk} (h : l.ok d) : l.cur.ok ∧ l.cur.nm = nameOf l.pre l.cur.base.toNat ∧ (d.get l.cur.nm).isSome = true ∧ (d.file l.cur.nm).b = flat l.cur.bs := h.seg l.cur l.cur_in
/-- Names of other segments. -/
theorem Lx.ok.nm_ne {l : Lx} {d : Dk} (h : l.ok d) {s : Sx} (hs : s ∈ l.ini) : s.nm ≠ l.cur.nm := fun e => by
  obtain ⟨h1, h2, _, _⟩ := h.seg s (List.mem_append_left _ hs)
  obtain ⟨h3, h4, _, _⟩ := h.cur
  rw [h2, h4] at e
  have := nameOf_inj e
  have := h.lt.2 s hs
  have := h1.base0
  have := h3.base0
  omega
theorem grow_next (l : Lx) (b : Bat) (sm aa ac ia ic) : (l.grow b sm aa ac ia ic).next = b.en := nextOf_snoc _ _ _
theorem grow_all (l : Lx) (b : Bat) (sm aa ac ia ic) : (l.grow b sm aa ac ia ic).all = l.all ++ [b] := by
  unfold Lx.all Lx.segs Lx.grow
  rw [List.flatMap_append, List.flatMap_append]
  simp
theorem grow_base (l : Lx) (b : Bat) (sm aa ac ia ic) : baseOf (l.grow b sm aa ac ia ic) = baseOf l := by
  unfold baseOf Lx.segs Lx.grow
  cases l.ini <;> rfl
theorem grow_ok {l : Lx} {d : Dk} (h : l.ok d) {b : Bat} (hb : b.good) (hn : b.base = l.next) (hcl : l.cur.bs.length < 4096) {sm : List Nat} {aa : Option Addr} {ac : Nat} {ia : Option Addr} {ic : Nat} (hix : Ix sm (l.cur.bs.length + 1)) (hca : l.cur.bs.length + 1 ≤ ac) : (l.grow b sm aa ac ia ic).ok (d.put l.cur.nm ⟨(d.file l.cur.nm).b ++ enc b, (d.file l.cur.nm).safe⟩) := by
  obtain ⟨h1, h2, h3, h4⟩ := h.cur
  have hlt := hb.lt
  refine ⟨h.pre, fun s hs => ?_, by rw [grow_base]; exact link_cur (c := l.cur) rfl h.link, h.ne, ?_, ?_, h.most, by have := h.len; unfold Lx.segs at this ⊢; rw [List.length_append] at this ⊢; exact this⟩
  · rcases List.mem_append.1 hs with hs | hs
    · obtain ⟨e1, e2, e3, e4⟩ := h.seg s (List.mem_append_left _ hs)
      obtain ⟨f1, f2⟩ := Dk.file_put_ne d ⟨(d.file l.cur.nm).b ++ enc b, (d.file l.cur.nm).safe⟩ (h.nm_ne hs)
      exact ⟨e1, e2, by rw [f2]; exact e3, by rw [f1]; exact e4⟩
    · rw [List.mem_singleton.1 hs]
      exact ⟨h1.add hb hn hcl hix hca, h2, Dk.some_put _ _ _, by show ((d.put l.cur.nm _).file l.cur.nm).b = flat (l.cur.bs ++ [b]); rw [Dk.file_put, flat_snoc, h4]⟩
  · rw [grow_base, grow_next]; have := h.start; exact ⟨this.1, this.2.1, by show l.start ≤ _; omega⟩
  · rw [grow_next]; have := h.high; exact ⟨this.1, by show l.high ≤ _; omega⟩
end Go.Proofs.YtglhoenjflpibaaGreatDoor

/- Chapter 6: what stays true of a log that begins a segment, in plain Lean. -/
namespace Go.Proofs.YtglhoenjflpibaaGreatDoor
open Go Go.Sp

theorem roll_next (l : Lx) (sb) (b : Bat) (sm aa ac ia ic qa qc) : (l.roll sb b sm aa ac ia ic qa qc).next = b.en := rfl
theorem roll_all (l : Lx) (sb) (b : Bat) (sm aa ac ia ic qa qc) : (l.roll sb b sm aa ac ia ic qa qc).all = l.all ++ [b] := by
  show (l.segs ++ [_]).flatMap (fun s : Sx => s.bs) = _
  rw [List.flatMap_append]; rfl
theorem roll_base (l : Lx) (sb) (b : Bat) (sm aa ac ia ic qa qc) : baseOf (l.roll sb b sm aa ac ia ic qa qc) = baseOf l := by
  unfold baseOf Lx.segs Lx.roll Lx.segs
  cases l.ini <;> rfl
theorem roll_ok {l : Lx} {d : Dk} (h : l.ok d) {b : Bat} (hb : b.good) (hn : b.base = l.next) (hroll : l.most ≤ ((d.file l.cur.nm).b.length : Int)) (hlen : l.segs.length < 100000) {sb : Nat} {sm : List Nat} {aa : Option Addr} {ac : Nat} {ia : Option Addr} {ic : Nat} {qa : Option Addr} {qc : Nat} (hix : Ix sm 1) (hca : 1 ≤ ac) {d1 d2 d3 : Dk} {f1 f2 f3 : Fl}
    (e1 : d1 = d.put l.cur.nm f1) (e2 : d2 = d1.put (nameOf l.pre l.next.toNat) f2) (e3 : d3 = d2.put (nameOf l.pre l.next.toNat) f3) (g1 : f1.b = (d.file l.cur.nm).b) (g3 : f3.b = enc b) : (l.roll sb b sm aa ac ia ic qa qc).ok d3 := by
  obtain ⟨h1, h2, h3, h4⟩ := h.cur
  have hlt := hb.lt
  have hmo := h.most
  have hne : l.cur.bs ≠ [] := fun e => by rw [h4, e] at hroll; have : (flat ([] : List Bat)).length = 0 := rfl; omega
  have hgt := base_lt h1 hne
  have hnx : l.next = l.cur.next := rfl
  have hb0 := h1.base0
  have hl2 := h1.next_le
  have hnn : ((l.next.toNat : Nat) : Int) = l.next := by omega
  have key : ∀ s ∈ l.segs, s.nm ≠ nameOf l.pre l.next.toNat := fun s hs e => by
    obtain ⟨k1, k2, _, _⟩ := h.seg s hs
    rw [k2] at e
    have := nameOf_inj e
    have := k1.base0
    rcases List.mem_append.1 hs with hs | hs
    · have := h.lt.2 s hs; omega
    · have hsc := List.mem_singleton.1 hs; subst hsc; omega
  have far : ∀ n, n ≠ nameOf l.pre l.next.toNat → d3.file n = d1.file n ∧ d3.get n = d1.get n := fun n hne => by
    obtain ⟨a1, a2⟩ := Dk.file_put_ne d2 f3 hne
    obtain ⟨b1, b2⟩ := Dk.file_put_ne d1 f2 hne
    rw [e3]; exact ⟨by rw [a1, e2, b1], by rw [a2, e2, b2]⟩
  refine ⟨h.pre, fun s hs => ?_, ?_, fun s hs => ?_, ?_, ?_, h.most, ?_⟩
  · rcases List.mem_append.1 hs with hs | hs
    · obtain ⟨k1, k2, k3, k4⟩ := h.seg s hs
      obtain ⟨m1, m2⟩ := far s.nm (key s hs)
      rcases List.mem_append.1 hs with hi | hi
      · obtain ⟨c1, c2⟩ := Dk.file_put_ne d f1 (h.nm_ne hi)
        exact ⟨k1, k2, by rw [m2, e1, c2]; exact k3, by rw [m1, e1, c1]; exact k4⟩
      · have hsc := List.mem_singleton.1 hi
        subst hsc
        exact ⟨k1, k2, by rw [m2, e1]; exact Dk.some_put _ _ _, by rw [m1, e1, Dk.file_put, g1]; exact h4⟩
    · rw [List.mem_singleton.1 hs]
      refine ⟨⟨by show (0 : Int) ≤ ((l.next.toNat : Nat) : Int); omega, by show ((l.next.toNat : Nat) : Int) ≤ 1000000000; omega, ⟨by show b.base = ((l.next.toNat : Nat) : Int); omega, trivial⟩, fun x hx => by rw [List.mem_singleton.1 hx]; exact hb, by show 1 ≤ 4096; omega, hix, hca⟩, by show nameOf l.pre l.next.toNat = nameOf l.pre ((l.next.toNat : Nat) : Int).toNat; rw [Int.toNat_natCast], ?_, ?_⟩
      · show (d3.get (nameOf l.pre l.next.toNat)).isSome = true
        rw [e3]; exact Dk.some_put _ _ _
      · show (d3.file (nameOf l.pre l.next.toNat)).b = flat [b]
        rw [e3, Dk.file_put, g3]; simp [flat]
  · rw [roll_base]
    exact link_more (l := l.ini) (c := l.cur) (by show ((l.next.toNat : Nat) : Int) = l.cur.next; omega) h.link
  · rcases List.mem_append.1 hs with hs | hs
    · exact h.ne s hs
    · rw [List.mem_singleton.1 hs]; exact hne
  · rw [roll_base, roll_next]; have := h.start; exact ⟨this.1, this.2.1, by show l.start ≤ _; omega⟩
  · rw [roll_next]; have := h.high; exact ⟨this.1, by show l.high ≤ _; omega⟩
  · show (l.segs ++ [_]).length ≤ 100000
    rw [List.length_append]; show l.segs.length + 1 ≤ 100000; omega
end Go.Proofs.YtglhoenjflpibaaGreatDoor

/- Chapter 6: a log's batches one behind the other, in plain Lean. -/
namespace Go.Proofs.YtglhoenjflpibaaGreatDoor
open Go Go.Sp

theorem link_chain : ∀ {n : Int} {l : List Sx}, Link n l → (∀ s ∈ l, s.ok) → Chain n (l.flatMap fun s => s.bs)
  | _, [], _, _ => trivial
  | n, s :: r, h, ho => by
    obtain ⟨h1, h2⟩ := h
    subst h1
    rw [List.flatMap_cons]
    exact Chain.app.2 ⟨(ho s (.head _)).chain, link_chain h2 fun x hx => ho x (.tail _ hx)⟩
theorem Lx.ok.chain {l : Lx} {d : Dk} (h : l.ok d) : Chain (baseOf l) l.all := link_chain h.link fun s hs => (h.seg s hs).1
theorem Lx.ok.good {l : Lx} {d : Dk} (h : l.ok d) : ∀ b ∈ l.all, b.good := fun b hb => by
  obtain ⟨s, hs, hb⟩ := List.mem_flatMap.1 hb
  exact (h.seg s hs).1.good b hb
theorem link_next : ∀ {n : Int} {l : List Sx} {c : Sx}, Link n (l ++ [c]) → nextOf n ((l ++ [c]).flatMap fun s => s.bs) = c.next
  | n, [], c, h => by
    have := h.1
    subst this
    show nextOf c.base ([c].flatMap fun s => s.bs) = nextOf c.base c.bs
    simp
  | n, x :: l, c, h => by
    have h1 : x.base = n := h.1
    subst h1
    show nextOf x.base ((x :: (l ++ [c])).flatMap fun s => s.bs) = c.next
    rw [List.flatMap_cons, nextOf_app]
    exact link_next (n := x.next) (l := l) h.2
theorem Lx.ok.nextOf {l : Lx} {d : Dk} (h : l.ok d) : Go.Proofs.YtglhoenjflpibaaGreatDoor.nextOf (baseOf l) l.all = l.next := link_next h.link
/-- What lies ahead of a batch ends ahead of it. -/
theorem ahead {n : Int} {pre post : List Bat} {b : Bat} (h : Chain n (pre ++ b :: post)) (hg : ∀ x ∈ pre, x.good) : ∀ x ∈ pre, x.en ≤ b.base := fun x hx => by
  obtain ⟨h1, h2, _⟩ := Chain.app.1 h
  obtain ⟨i, hi⟩ := List.getElem?_of_mem hx
  have h3 := (h1.at hi).2
  have hlt := (List.getElem?_eq_some_iff.1 hi).1
  have h4 := h1.mono hg (i := i + 1) (j := pre.length) (by omega)
  rw [List.take_length] at h4
  omega
theorem keep_none {off : Int} {l : List Bat} (h : ∀ x ∈ l, x.en ≤ off) : keepN off l = [] := List.filter_eq_nil_iff.2 fun x hx => by have := h x hx; simp; omega
/-- The first batch that ends behind an offset where one begins is that one. -/
theorem first_at {n off : Int} {l : List Bat} {b : Bat} (h : Chain n l) (hg : ∀ x ∈ l, x.good) (hb : b ∈ l) (ho : b.base = off) : ∃ r, keepN off l = b :: r := by
  obtain ⟨pre, post, rfl⟩ := List.append_of_mem hb
  have h1 := ahead h fun x hx => hg x (List.mem_append_left _ hx)
  have h2 := (hg b hb).lt
  rw [keepN_app, keep_none (fun x hx => by have := h1 x hx; omega), List.nil_append]
  refine ⟨keepN off post, ?_⟩
  unfold keepN
  rw [List.filter_cons, if_pos (decide_eq_true (by omega))]
end Go.Proofs.YtglhoenjflpibaaGreatDoor

/- Chapter 6: rows whose first element goes; a log whose front goes, in plain Lean. -/
namespace Go.Proofs.YtglhoenjflpibaaGreatDoor
open Go Go.Sp

theorem arr_tail {e b o c : Nat} {x : Value} {cs : List Value} {h : Hp} (H : arr e 1 (some ⟨b, o, none⟩) (c + 1) (x :: cs) h) : arr e 1 (some ⟨b, o + 1, none⟩) c cs h := by
  rcases H with ⟨h1, _⟩ | ⟨b', pre, post, h1, h2, h3⟩
  · cases h1
  · cases h1
    refine .inr ⟨b, pre ++ [x], post, by rw [List.length_append]; rfl, ?_, ?_⟩
    · rw [List.length_cons] at h2; omega
    · rw [List.append_assoc]; exact h3
/-- A log without its first segment. -/
def Lx.less (l : Lx) (la : Option Addr) : Lx := { l with ini := l.ini.tail, la := la, lc := l.lc - 1 }
theorem less_segs {l : Lx} {x : Sx} {r : List Sx} (h : l.ini = x :: r) (la) : l.segs = x :: (l.less la).segs := by
  unfold Lx.segs Lx.less; rw [h]; rfl
theorem less_all {l : Lx} {x : Sx} {r : List Sx} (h : l.ini = x :: r) (la) : l.all = x.bs ++ (l.less la).all := by
  unfold Lx.all; rw [less_segs h la, List.flatMap_cons]
theorem less_base {l : Lx} {d : Dk} (hl : l.ok d) {x : Sx} {r : List Sx} (h : l.ini = x :: r) (la) : baseOf (l.less la) = x.next := by
  have h1 := hl.link
  rw [less_segs h la] at h1
  have h2 := h1.2
  unfold baseOf
  cases e : (l.less la).segs with
  | nil => unfold Lx.segs at e; exact absurd e (by simp)
  | cons y t => rw [e] at h2; exact h2.1
theorem less_ok {l : Lx} {d : Dk} (hl : l.ok d) {x : Sx} {r : List Sx} (h : l.ini = x :: r) {la : Option Addr} (hn : x.next ≤ l.start) : (l.less la).ok (d.del x.nm) := by
  have h1 := hl.link
  have hb := less_base hl h la
  rw [less_segs h la] at h1
  have hin : ∀ s ∈ (l.less la).segs, s ∈ l.segs := fun s hs => by rw [less_segs h la]; exact .tail _ hs
  refine ⟨hl.pre, fun s hs => ?_, by rw [hb]; exact h1.2, fun s hs => hl.ne s (by rw [h]; exact .tail _ (by have := hs; unfold Lx.less at this; rw [h] at this; exact this)), ⟨hl.start.1, by rw [hb]; exact hn, hl.start.2.2⟩, hl.high, hl.most, by have := hl.len; rw [less_segs h la] at this; exact Nat.le_trans (Nat.le_succ _) this⟩
  obtain ⟨e1, e2, e3, e4⟩ := hl.seg s (hin s hs)
  have hxin : x ∈ l.segs := by rw [less_segs h la]; exact .head _
  obtain ⟨f1, f2, _, _⟩ := hl.seg x hxin
  have hne : s.nm ≠ x.nm := fun e => by
    rw [e2, f2] at e
    have e5 := nameOf_inj e
    have hxi : x ∈ l.ini := by rw [h]; exact .head _
    have h6 := base_lt f1 (hl.ne x hxi)
    have h7 : baseOf (l.less la) ≤ s.base := by
      have h8 : Link (baseOf (l.less la)) (l.less la).segs := by rw [hb]; exact h1.2
      have h9 : ∀ s ∈ (l.less la).ini, s.ok ∧ s.bs ≠ [] := fun t ht => hl.ini t (by rw [h]; exact .tail _ (by have := ht; unfold Lx.less at this; rw [h] at this; exact this))
      have key : ∀ (q : List Sx) (n : Int), Link n (q ++ [l.cur]) → (∀ t ∈ q, t.ok ∧ t.bs ≠ []) → ∀ t ∈ q ++ [l.cur], n ≤ t.base := by
        intro q
        induction q with
        | nil => intro n hk _ t ht; rw [List.mem_singleton.1 ht]; have := hk.1; omega
        | cons y q ih =>
          intro n hk ho t ht
          rcases List.mem_cons.1 ht with rfl | ht
          · have := hk.1; omega
          · have h10 := ih y.next hk.2 (fun z hz => ho z (.tail _ hz)) t ht
            have h11 := base_lt (ho y (.head _)).1 (ho y (.head _)).2
            have : y.base = n := hk.1
            omega
      exact key _ _ h8 h9 s hs
    have := e1.base0
    have := f1.base0
    omega
  obtain ⟨m1, m2⟩ := Dk.file_del_ne d hne
  exact ⟨e1, e2, by rw [m2]; exact e3, by rw [m1]; exact e4⟩
end Go.Proofs.YtglhoenjflpibaaGreatDoor

/- Chapter 6: a log whose numbers are kept anew, in plain Lean. -/
namespace Go.Proofs.YtglhoenjflpibaaGreatDoor
open Go Go.Sp

theorem keptL_ok {l : Lx} {d : Dk} (hl : l.ok d) {f : Fl} {st hi : Int} (h0 : 0 ≤ st) (h1 : baseOf l ≤ st) (h2 : st ≤ hi) (h3 : hi ≤ l.next) : ({ l with start := st, high := hi } : Lx).ok (d.put (metaOf l.pre) f) := by
  refine ⟨hl.pre, fun s hs => ?_, hl.link, hl.ne, ⟨h0, h1, by show st ≤ l.next; omega⟩, ⟨h2, h3⟩, hl.most, hl.len⟩
  obtain ⟨e1, e2, e3, e4⟩ := hl.seg s hs
  have hne : s.nm ≠ metaOf l.pre := by
    rw [e2]; exact nameOf_meta (by have := e1.base1; have := e1.base0; omega)
  obtain ⟨m1, m2⟩ := Dk.file_put_ne d f hne
  exact ⟨e1, e2, by rw [m2]; exact e3, by rw [m1]; exact e4⟩
theorem en_next {s : Sx} (h : s.ok) : ∀ b ∈ s.bs, b.en ≤ s.next := fun b hb => by
  obtain ⟨i, hi⟩ := List.getElem?_of_mem hb
  have hlt := (List.getElem?_eq_some_iff.1 hi).1
  have h1 := (h.chain.at hi).2
  have h2 := h.chain.mono h.good (i := i + 1) (j := s.bs.length) (by omega)
  rw [List.take_length] at h2
  show b.en ≤ nextOf s.base s.bs
  omega
/-- What goes with the first segment was deleted. -/
theorem less_keep {l : Lx} {d : Dk} (hl : l.ok d) {x : Sx} {r : List Sx} (h : l.ini = x :: r) {la : Option Addr} {n : Int} (hn : x.next ≤ n) : keepN n l.all = keepN n (l.less la).all := by
  have hx := (hl.seg x (by rw [less_segs h la]; exact .head _)).1
  rw [less_all h la, keepN_app, keep_none (fun b hb => by have := en_next hx b hb; omega), List.nil_append]
theorem less_next (l : Lx) (la) : (l.less la).next = l.next := rfl
/-- Nothing that ends behind the start is lost to a reader. -/
theorem keep_start {l : Lx} {n : Int} : keepN n (keepN n l.all) = keepN n l.all := by
  unfold keepN; rw [List.filter_filter]; simp
end Go.Proofs.YtglhoenjflpibaaGreatDoor

/- Chapter 6: a log without its last segment, in plain Lean. -/
namespace Go.Proofs.YtglhoenjflpibaaGreatDoor
open Go Go.Sp

/-- A log without the segment that is written. -/
def Lx.pop (l : Lx) (r : List Sx) (y : Sx) : Lx := { l with ini := r, cur := y }
theorem pop_segs {l : Lx} {r : List Sx} {y : Sx} (h : l.ini = r ++ [y]) : l.segs = (l.pop r y).segs ++ [l.cur] := by
  unfold Lx.segs Lx.pop; rw [h]
theorem pop_all {l : Lx} {r : List Sx} {y : Sx} (h : l.ini = r ++ [y]) : l.all = (l.pop r y).all ++ l.cur.bs := by
  unfold Lx.all; rw [pop_segs h, List.flatMap_append]; simp
theorem link_front : ∀ {n : Int} {l : List Sx} {c : Sx}, Link n (l ++ [c]) → Link n l
  | _, [], _, _ => trivial
  | _, _ :: l, _, h => ⟨h.1, link_front (l := l) h.2⟩
theorem link_end : ∀ {n : Int} {l : List Sx} {y c : Sx}, Link n ((l ++ [y]) ++ [c]) → c.base = y.next
  | _, [], _, _, h => h.2.1
  | _, x :: l, _, _, h => link_end (n := x.next) (l := l) h.2
theorem pop_base {l : Lx} {r : List Sx} {y : Sx} (h : l.ini = r ++ [y]) : baseOf (l.pop r y) = baseOf l := by
  unfold baseOf Lx.segs Lx.pop; rw [h]; cases r <;> rfl
theorem pop_cur {l : Lx} {d : Dk} (hl : l.ok d) {r : List Sx} {y : Sx} (h : l.ini = r ++ [y]) : l.cur.base = y.next := by
  have := hl.link
  unfold Lx.segs at this
  rw [h] at this
  exact link_end this
theorem pop_ok {l : Lx} {d : Dk} (hl : l.ok d) {r : List Sx} {y : Sx} (h : l.ini = r ++ [y]) (hs : l.start ≤ y.next) (hh : l.high ≤ y.next) : (l.pop r y).ok (d.del l.cur.nm) := by
  have hlk := hl.link
  rw [pop_segs h] at hlk
  have hin : ∀ s ∈ (l.pop r y).segs, s ∈ l.ini := fun s hs => by rw [h]; exact hs
  refine ⟨hl.pre, fun s hs => ?_, by rw [pop_base h]; exact link_front hlk, fun s hs => hl.ne s (hin s (List.mem_append_left _ hs)), ⟨hl.start.1, by rw [pop_base h]; exact hl.start.2.1, hs⟩, ⟨hl.high.1, hh⟩, hl.most, ?_⟩
  · obtain ⟨e1, e2, e3, e4⟩ := hl.seg s (List.mem_append_left _ (hin s hs))
    obtain ⟨m1, m2⟩ := Dk.file_del_ne d (hl.nm_ne (hin s hs))
    exact ⟨e1, e2, by rw [m2]; exact e3, by rw [m1]; exact e4⟩
  · have := hl.len; rw [pop_segs h, List.length_append] at this; omega
end Go.Proofs.YtglhoenjflpibaaGreatDoor

/- Chapter 6: where a batch of a log is found, in plain Lean. -/
namespace Go.Proofs.YtglhoenjflpibaaGreatDoor
open Go Go.Sp

theorem place_cases {l : Lx} {d : Dk} (h : l.ok d) {i : Nat} {s : Sx} (hs : l.segs[i]? = some s) {b : Bat} (hb : b ∈ (l.segs.drop i).flatMap fun s => s.bs) :
    s.base ≤ b.base ∧ (b ∈ s.bs ∨ (b ∈ (l.segs.drop (i + 1)).flatMap (fun s => s.bs) ∧ ∀ x ∈ s.bs, x.en ≤ b.base)) := by
  have hok := (h.seg s (List.mem_of_getElem? hs)).1
  rw [segs_drop hs] at hb
  by_cases hm : b ∈ s.bs
  · obtain ⟨j, hj⟩ := List.getElem?_of_mem hm
    have h1 := Sx.base_at hok hj
    have h2 := hok.chain.mono hok.good (i := 0) (j := j) (Nat.zero_le _)
    have h3 : nextOf s.base (s.bs.take 0) = s.base := rfl
    exact ⟨by omega, .inl hm⟩
  · have hc := (List.mem_append.1 hb).resolve_left hm
    obtain ⟨p, q, hpq⟩ := List.append_of_mem hc
    have e : l.all = ((l.segs.take i).flatMap (fun s => s.bs) ++ (s.bs ++ p)) ++ b :: q := by
      rw [List.append_assoc, List.append_assoc, ← hpq, ← segs_drop hs, ← List.flatMap_append, List.take_append_drop]; rfl
    have hch := h.chain
    have hgd := h.good
    rw [e] at hch hgd
    have ha := ahead hch fun x hx => hgd x (List.mem_append_left _ hx)
    have hx : ∀ x ∈ s.bs, x.en ≤ b.base := fun x hx => ha x (List.mem_append_right _ (List.mem_append_left _ hx))
    have hlt : i + 1 < l.segs.length := by
      rcases Nat.lt_or_ge (i + 1) l.segs.length with h1 | h1
      · exact h1
      · rw [List.drop_eq_nil_of_le h1] at hc; cases hc
    have hin : s ∈ l.ini := by
      have h1 : l.segs[i]? = l.ini[i]? := by
        unfold Lx.segs at hlt ⊢
        rw [List.length_append] at hlt
        exact List.getElem?_append_left (by simp at hlt; omega)
      rw [h1] at hs; exact List.mem_of_getElem? hs
    obtain ⟨y, hy⟩ := List.exists_mem_of_ne_nil _ (h.ne s hin)
    have h1 := en_base hok hy
    have h2 := hx y hy
    exact ⟨by omega, .inr ⟨hc, hx⟩⟩
theorem seg_first {s : Sx} (h : s.ok) {b : Bat} (hb : b ∈ s.bs) (hs : s.base ≤ b.base) : segRead s b.base 0 = [b] := by
  obtain ⟨r, hr⟩ := first_at h.chain h.good hb rfl
  unfold segRead
  rw [if_neg (by omega), goR_first _ h.good]
  show (keepN b.base s.bs).take 1 = _
  rw [hr]; rfl
theorem seg_none {s : Sx} (h : s.ok) {off : Int} (hx : ∀ x ∈ s.bs, x.en ≤ off) : segRead s off 0 = [] := by
  unfold segRead
  split
  · rfl
  · rw [goR_first _ h.good]
    show (keepN off s.bs).take 1 = _
    rw [keep_none hx]; rfl
end Go.Proofs.YtglhoenjflpibaaGreatDoor

/- Chapter 6: contracts of the library at this program: strings.Trim, CutPrefix, CutSuffix, Cut, Repeat, strconv.Atoi, Itoa (laid by the kit's command). -/
namespace Go.Proofs
open Go.Shelf
def Tryz.lays160_ren : Go.Shelf.Ren := ⟨fun | 160 => 29 | 232 => 53 | 231 => 52 | 227 => 54 | 234 => 56 | 233 => 55 | 236 => 58 | 235 => 57 | 228 => 85 | 271 => 88 | 151 => 87 | 197 => 86 | 120 => 115 | 152 => 114 | 260 => 113 | 137 => 134 | 119 => 135 | 224 => 136 | 225 => 137 | 217 => 138 | 266 => 160 | n => n, fun | 9 => 9 | 4 => 4 | 3 => 3 | 5 => 5 | 117 => 89 | 116 => 88 | 0 => 0 | 124 => 92 | 21 => 21 | 105 => 123 | 46 => 121 | 119 => 167 | 139 => 170 | 138 => 169 | n => n, fun | 3 => 0 | 4 => 1 | n => n⟩
theorem Tryz.lays160 : Go.Proofs.Lays.n160 Tryz.prog Tryz.lays160_ren := {
  mixed := by kernel_rfl
  f119 := Tryz.func135.trans (congrArg some (by kernel_rfl))
  f120 := Tryz.func115.trans (congrArg some (by kernel_rfl))
  f137 := Tryz.func134.trans (congrArg some (by kernel_rfl))
  f151 := Tryz.func87.trans (congrArg some (by kernel_rfl))
  f152 := Tryz.func114.trans (congrArg some (by kernel_rfl))
  f160 := Tryz.func29.trans (congrArg some (by kernel_rfl))
  f197 := Tryz.func86.trans (congrArg some (by kernel_rfl))
  f217 := Tryz.func138.trans (congrArg some (by kernel_rfl))
  f224 := Tryz.func136.trans (congrArg some (by kernel_rfl))
  f225 := Tryz.func137.trans (congrArg some (by kernel_rfl))
  f227 := Tryz.func54.trans (congrArg some (by kernel_rfl))
  f228 := Tryz.func85.trans (congrArg some (by kernel_rfl))
  f231 := Tryz.func52.trans (congrArg some (by kernel_rfl))
  f232 := Tryz.func53.trans (congrArg some (by kernel_rfl))
  f233 := Tryz.func55.trans (congrArg some (by kernel_rfl))
  f234 := Tryz.func56.trans (congrArg some (by kernel_rfl))
  f235 := Tryz.func57.trans (congrArg some (by kernel_rfl))
  f236 := Tryz.func58.trans (congrArg some (by kernel_rfl))
  f260 := Tryz.func113.trans (congrArg some (by kernel_rfl))
  f266 := Tryz.func160.trans (congrArg some (by kernel_rfl))
  f271 := Tryz.func88.trans (congrArg some (by kernel_rfl))
  t0 := Tryz.underlying0
  a0 := Tryz.isAgg0
  z0 := Tryz.sizeOf0
  v0 := Tryz.zeroValue0
  t3 := Tryz.underlying3
  a3 := Tryz.isAgg3
  z3 := Tryz.sizeOf3
  v3 := Tryz.zeroValue3
  t4 := Tryz.underlying4
  a4 := Tryz.isAgg4
  z4 := Tryz.sizeOf4
  v4 := Tryz.zeroValue4
  t5 := Tryz.underlying5
  a5 := Tryz.isAgg5
  z5 := Tryz.sizeOf5
  v5 := Tryz.zeroValue5
  t9 := Tryz.underlying9
  a9 := Tryz.isAgg9
  z9 := Tryz.sizeOf9
  v9 := Tryz.zeroValue9
  t21 := Tryz.underlying21
  a21 := Tryz.isAgg21
  z21 := Tryz.sizeOf21
  v21 := Tryz.zeroValue21
  t46 := Tryz.underlying121
  a46 := Tryz.isAgg121
  z46 := Tryz.sizeOf121
  v46 := Tryz.zeroValue121
  t105 := Tryz.underlying123
  a105 := Tryz.isAgg123
  z105 := Tryz.sizeOf123
  v105 := Tryz.zeroValue123
  t116 := Tryz.underlying88
  a116 := Tryz.isAgg88
  z116 := Tryz.sizeOf88
  t117 := Tryz.underlying89
  a117 := Tryz.isAgg89
  z117 := Tryz.sizeOf89
  v117 := Tryz.zeroValue89
  t119 := Tryz.underlying167
  a119 := Tryz.isAgg167
  z119 := Tryz.sizeOf167
  t124 := Tryz.underlying92
  a124 := Tryz.isAgg92
  z124 := Tryz.sizeOf92
  v124 := Tryz.zeroValue92
  t138 := Tryz.underlying169
  a138 := Tryz.isAgg169
  z138 := Tryz.sizeOf169
  v138 := Tryz.zeroValue169
  t139 := Tryz.underlying170
  a139 := Tryz.isAgg170
  z139 := Tryz.sizeOf170
  v139 := Tryz.zeroValue170
  g3 := by kernel_rfl
  g4 := by kernel_rfl }
def Tryz.lays103_ren : Go.Shelf.Ren := ⟨fun | 103 => 63 | 210 => 91 | 206 => 118 | n => n, fun | 9 => 9 | 4 => 4 | 24 => 94 | 3 => 3 | n => n, fun | n => n⟩
theorem Tryz.lays103 : Go.Proofs.Lays.n103 Tryz.prog Tryz.lays103_ren := {
  mixed := by kernel_rfl
  f103 := Tryz.func63.trans (congrArg some (by kernel_rfl))
  f206 := Tryz.func118.trans (congrArg some (by kernel_rfl))
  f210 := Tryz.func91.trans (congrArg some (by kernel_rfl))
  t3 := Tryz.underlying3
  a3 := Tryz.isAgg3
  z3 := Tryz.sizeOf3
  v3 := Tryz.zeroValue3
  t4 := Tryz.underlying4
  a4 := Tryz.isAgg4
  z4 := Tryz.sizeOf4
  v4 := Tryz.zeroValue4
  t9 := Tryz.underlying9
  a9 := Tryz.isAgg9
  z9 := Tryz.sizeOf9
  v9 := Tryz.zeroValue9
  t24 := Tryz.underlying94
  a24 := Tryz.isAgg94
  z24 := Tryz.sizeOf94
  v24 := Tryz.zeroValue94 }
def Tryz.lays104_ren : Go.Shelf.Ren := ⟨fun | 104 => 60 | 211 => 89 | 207 => 116 | n => n, fun | 9 => 9 | 4 => 4 | 24 => 94 | 3 => 3 | n => n, fun | n => n⟩
theorem Tryz.lays104 : Go.Proofs.Lays.n104 Tryz.prog Tryz.lays104_ren := {
  mixed := by kernel_rfl
  f104 := Tryz.func60.trans (congrArg some (by kernel_rfl))
  f207 := Tryz.func116.trans (congrArg some (by kernel_rfl))
  f211 := Tryz.func89.trans (congrArg some (by kernel_rfl))
  t3 := Tryz.underlying3
  a3 := Tryz.isAgg3
  z3 := Tryz.sizeOf3
  v3 := Tryz.zeroValue3
  t4 := Tryz.underlying4
  a4 := Tryz.isAgg4
  z4 := Tryz.sizeOf4
  v4 := Tryz.zeroValue4
  t9 := Tryz.underlying9
  a9 := Tryz.isAgg9
  z9 := Tryz.sizeOf9
  v9 := Tryz.zeroValue9
  t24 := Tryz.underlying94
  a24 := Tryz.isAgg94
  z24 := Tryz.sizeOf94
  v24 := Tryz.zeroValue94 }
def Tryz.laysM171_ren : Go.Shelf.Ren := ⟨fun | 171 => 66 | 243 => 94 | 246 => 124 | 283 => 143 | 284 => 144 | 285 => 145 | 286 => 146 | 129 => 159 | 317 => 164 | 318 => 165 | 319 => 166 | 320 => 167 | 337 => 174 | 338 => 175 | n => n, fun | 3 => 3 | 9 => 9 | 2 => 2 | 4 => 4 | 171 => 180 | 0 => 0 | 53 => 158 | 37 => 110 | 5 => 5 | 173 => 183 | 212 => 202 | 51 => 143 | 20 => 20 | 213 => 203 | 46 => 121 | 232 => 212 | 233 => 213 | n => n, fun | 17 => 5 | 18 => 6 | 19 => 7 | n => n⟩
theorem Tryz.laysM171 : Go.Proofs.LaysM.n171 Tryz.prog Tryz.laysM171_ren := {
  mixed := by kernel_rfl
  f129 := Tryz.func159.trans (congrArg some (by kernel_rfl))
  f171 := Tryz.func66.trans (congrArg some (by kernel_rfl))
  f243 := Tryz.func94.trans (congrArg some (by kernel_rfl))
  f246 := Tryz.func124.trans (congrArg some (by kernel_rfl))
  f283 := Tryz.func143.trans (congrArg some (by kernel_rfl))
  f284 := Tryz.func144.trans (congrArg some (by kernel_rfl))
  f285 := Tryz.func145.trans (congrArg some (by kernel_rfl))
  f286 := Tryz.func146.trans (congrArg some (by kernel_rfl))
  f317 := Tryz.func164.trans (congrArg some (by kernel_rfl))
  f318 := Tryz.func165.trans (congrArg some (by kernel_rfl))
  f319 := Tryz.func166.trans (congrArg some (by kernel_rfl))
  f320 := Tryz.func167.trans (congrArg some (by kernel_rfl))
  f337 := Tryz.func174.trans (congrArg some (by kernel_rfl))
  f338 := Tryz.func175.trans (congrArg some (by kernel_rfl))
  t0 := Tryz.underlying0
  a0 := Tryz.isAgg0
  z0 := Tryz.sizeOf0
  v0 := Tryz.zeroValue0
  t2 := Tryz.underlying2
  a2 := Tryz.isAgg2
  z2 := Tryz.sizeOf2
  v2 := Tryz.zeroValue2
  t3 := Tryz.underlying3
  a3 := Tryz.isAgg3
  z3 := Tryz.sizeOf3
  v3 := Tryz.zeroValue3
  t4 := Tryz.underlying4
  a4 := Tryz.isAgg4
  z4 := Tryz.sizeOf4
  v4 := Tryz.zeroValue4
  t5 := Tryz.underlying5
  a5 := Tryz.isAgg5
  z5 := Tryz.sizeOf5
  v5 := Tryz.zeroValue5
  t9 := Tryz.underlying9
  a9 := Tryz.isAgg9
  z9 := Tryz.sizeOf9
  v9 := Tryz.zeroValue9
  t20 := Tryz.underlying20
  a20 := Tryz.isAgg20
  z20 := Tryz.sizeOf20
  v20 := Tryz.zeroValue20
  t37 := Tryz.underlying110
  a37 := Tryz.isAgg110
  z37 := Tryz.sizeOf110
  v37 := Tryz.zeroValue110
  t46 := Tryz.underlying121
  a46 := Tryz.isAgg121
  z46 := Tryz.sizeOf121
  v46 := Tryz.zeroValue121
  t51 := Tryz.underlying143
  a51 := Tryz.isAgg143
  z51 := Tryz.sizeOf143
  v51 := Tryz.zeroValue143
  t53 := Tryz.underlying158
  a53 := Tryz.isAgg158
  z53 := Tryz.sizeOf158
  v53 := Tryz.zeroValue158
  t171 := Tryz.underlying180
  a171 := Tryz.isAgg180
  z171 := Tryz.sizeOf180
  v171 := Tryz.zeroValue180
  t173 := Tryz.underlying183
  a173 := Tryz.isAgg183
  z173 := Tryz.sizeOf183
  v173 := Tryz.zeroValue183
  t212 := Tryz.underlying202
  a212 := Tryz.isAgg202
  z212 := Tryz.sizeOf202
  v212 := Tryz.zeroValue202
  t213 := Tryz.underlying203
  a213 := Tryz.isAgg203
  z213 := Tryz.sizeOf203
  t232 := Tryz.underlying212
  a232 := Tryz.isAgg212
  z232 := Tryz.sizeOf212
  v232 := Tryz.zeroValue212
  t233 := Tryz.underlying213
  a233 := Tryz.isAgg213
  z233 := Tryz.sizeOf213
  v233 := Tryz.zeroValue213
  g17 := by kernel_rfl
  g18 := by kernel_rfl
  g19 := by kernel_rfl
  i0 := by kernel_rfl
  i2 := by kernel_rfl
  i3 := by kernel_rfl
  i4 := by kernel_rfl
  i5 := by kernel_rfl
  i9 := by kernel_rfl
  i20 := by kernel_rfl
  i37 := by kernel_rfl
  i46 := by kernel_rfl
  i51 := by kernel_rfl
  i53 := by kernel_rfl
  i171 := by kernel_rfl
  i173 := by kernel_rfl
  i212 := by kernel_rfl
  i232 := by kernel_rfl
  i233 := by kernel_rfl
  m17 := by kernel_rfl
  m18 := by kernel_rfl
  m19 := by kernel_rfl }
def Tryz.laysC172_ren : Go.Shelf.Ren := ⟨fun | 172 => 64 | 244 => 92 | 245 => 93 | 247 => 119 | 279 => 120 | 280 => 121 | 281 => 122 | 282 => 123 | 287 => 140 | 316 => 141 | 171 => 66 | 205 => 142 | 321 => 162 | 322 => 163 | 243 => 94 | 246 => 124 | 283 => 143 | 284 => 144 | 285 => 145 | 286 => 146 | 129 => 159 | 317 => 164 | 318 => 165 | 319 => 166 | 320 => 167 | 337 => 174 | 338 => 175 | n => n, fun | 9 => 9 | 3 => 3 | 75 => 101 | 76 => 102 | 4 => 4 | 5 => 5 | 167 => 149 | 37 => 110 | 0 => 0 | 85 => 150 | 2 => 2 | 168 => 152 | 53 => 158 | 175 => 174 | 46 => 121 | 210 => 178 | 127 => 161 | 145 => 200 | 143 => 198 | 21 => 21 | 171 => 180 | 173 => 183 | 212 => 202 | 51 => 143 | 20 => 20 | 213 => 203 | 232 => 212 | 233 => 213 | 80 => 134 | n => n, fun | 15 => 3 | 16 => 4 | 17 => 5 | 18 => 6 | 19 => 7 | n => n⟩
theorem Tryz.laysC172 : Go.Proofs.LaysC.n172 Tryz.prog Tryz.laysC172_ren := {
  mixed := by kernel_rfl
  f129 := Tryz.func159.trans (congrArg some (by kernel_rfl))
  f171 := Tryz.func66.trans (congrArg some (by kernel_rfl))
  f172 := Tryz.func64.trans (congrArg some (by kernel_rfl))
  f205 := Tryz.func142.trans (congrArg some (by kernel_rfl))
  f243 := Tryz.func94.trans (congrArg some (by kernel_rfl))
  f244 := Tryz.func92.trans (congrArg some (by kernel_rfl))
  f245 := Tryz.func93.trans (congrArg some (by kernel_rfl))
  f246 := Tryz.func124.trans (congrArg some (by kernel_rfl))
  f247 := Tryz.func119.trans (congrArg some (by kernel_rfl))
  f279 := Tryz.func120.trans (congrArg some (by kernel_rfl))
  f280 := Tryz.func121.trans (congrArg some (by kernel_rfl))
  f281 := Tryz.func122.trans (congrArg some (by kernel_rfl))
  f282 := Tryz.func123.trans (congrArg some (by kernel_rfl))
  f283 := Tryz.func143.trans (congrArg some (by kernel_rfl))
  f284 := Tryz.func144.trans (congrArg some (by kernel_rfl))
  f285 := Tryz.func145.trans (congrArg some (by kernel_rfl))
  f286 := Tryz.func146.trans (congrArg some (by kernel_rfl))
  f287 := Tryz.func140.trans (congrArg some (by kernel_rfl))
  f316 := Tryz.func141.trans (congrArg some (by kernel_rfl))
  f317 := Tryz.func164.trans (congrArg some (by kernel_rfl))
  f318 := Tryz.func165.trans (congrArg some (by kernel_rfl))
  f319 := Tryz.func166.trans (congrArg some (by kernel_rfl))
  f320 := Tryz.func167.trans (congrArg some (by kernel_rfl))
  f321 := Tryz.func162.trans (congrArg some (by kernel_rfl))
  f322 := Tryz.func163.trans (congrArg some (by kernel_rfl))
  f337 := Tryz.func174.trans (congrArg some (by kernel_rfl))
  f338 := Tryz.func175.trans (congrArg some (by kernel_rfl))
  t0 := Tryz.underlying0
  a0 := Tryz.isAgg0
  z0 := Tryz.sizeOf0
  v0 := Tryz.zeroValue0
  t2 := Tryz.underlying2
  a2 := Tryz.isAgg2
  z2 := Tryz.sizeOf2
  v2 := Tryz.zeroValue2
  t3 := Tryz.underlying3
  a3 := Tryz.isAgg3
  z3 := Tryz.sizeOf3
  v3 := Tryz.zeroValue3
  t4 := Tryz.underlying4
  a4 := Tryz.isAgg4
  z4 := Tryz.sizeOf4
  v4 := Tryz.zeroValue4
  t5 := Tryz.underlying5
  a5 := Tryz.isAgg5
  z5 := Tryz.sizeOf5
  v5 := Tryz.zeroValue5
  t9 := Tryz.underlying9
  a9 := Tryz.isAgg9
  z9 := Tryz.sizeOf9
  v9 := Tryz.zeroValue9
  t20 := Tryz.underlying20
  a20 := Tryz.isAgg20
  z20 := Tryz.sizeOf20
  v20 := Tryz.zeroValue20
  t21 := Tryz.underlying21
  a21 := Tryz.isAgg21
  z21 := Tryz.sizeOf21
  v21 := Tryz.zeroValue21
  t37 := Tryz.underlying110
  a37 := Tryz.isAgg110
  z37 := Tryz.sizeOf110
  v37 := Tryz.zeroValue110
  t46 := Tryz.underlying121
  a46 := Tryz.isAgg121
  z46 := Tryz.sizeOf121
  v46 := Tryz.zeroValue121
  t51 := Tryz.underlying143
  a51 := Tryz.isAgg143
  z51 := Tryz.sizeOf143
  v51 := Tryz.zeroValue143
  t53 := Tryz.underlying158
  a53 := Tryz.isAgg158
  z53 := Tryz.sizeOf158
  v53 := Tryz.zeroValue158
  t75 := Tryz.underlying101
  a75 := Tryz.isAgg101
  z75 := Tryz.sizeOf101
  v75 := Tryz.zeroValue101
  t76 := Tryz.underlying102
  a76 := Tryz.isAgg102
  z76 := Tryz.sizeOf102
  v76 := Tryz.zeroValue102
  t85 := Tryz.underlying150
  a85 := Tryz.isAgg150
  z85 := Tryz.sizeOf150
  v85 := Tryz.zeroValue150
  t127 := Tryz.underlying161
  a127 := Tryz.isAgg161
  z127 := Tryz.sizeOf161
  v127 := Tryz.zeroValue161
  t143 := Tryz.underlying198
  a143 := Tryz.isAgg198
  z143 := Tryz.sizeOf198
  v143 := Tryz.zeroValue198
  t145 := Tryz.underlying200
  a145 := Tryz.isAgg200
  z145 := Tryz.sizeOf200
  v145 := Tryz.zeroValue200
  t167 := Tryz.underlying149
  a167 := Tryz.isAgg149
  z167 := Tryz.sizeOf149
  v167 := Tryz.zeroValue149
  t168 := Tryz.underlying152
  a168 := Tryz.isAgg152
  z168 := Tryz.sizeOf152
  v168 := Tryz.zeroValue152
  t171 := Tryz.underlying180
  a171 := Tryz.isAgg180
  z171 := Tryz.sizeOf180
  v171 := Tryz.zeroValue180
  t173 := Tryz.underlying183
  a173 := Tryz.isAgg183
  z173 := Tryz.sizeOf183
  v173 := Tryz.zeroValue183
  t175 := Tryz.underlying174
  a175 := Tryz.isAgg174
  z175 := Tryz.sizeOf174
  v175 := Tryz.zeroValue174
  t210 := Tryz.underlying178
  a210 := Tryz.isAgg178
  z210 := Tryz.sizeOf178
  v210 := Tryz.zeroValue178
  t212 := Tryz.underlying202
  a212 := Tryz.isAgg202
  z212 := Tryz.sizeOf202
  v212 := Tryz.zeroValue202
  t213 := Tryz.underlying203
  a213 := Tryz.isAgg203
  z213 := Tryz.sizeOf203
  t232 := Tryz.underlying212
  a232 := Tryz.isAgg212
  z232 := Tryz.sizeOf212
  v232 := Tryz.zeroValue212
  t233 := Tryz.underlying213
  a233 := Tryz.isAgg213
  z233 := Tryz.sizeOf213
  v233 := Tryz.zeroValue213
  g15 := by kernel_rfl
  g16 := by kernel_rfl
  g17 := by kernel_rfl
  g18 := by kernel_rfl
  g19 := by kernel_rfl
  t80 := Tryz.underlying134
  a80 := Tryz.isAgg134
  z80 := Tryz.sizeOf134
  v80 := Tryz.zeroValue134
  i0 := by kernel_rfl
  i2 := by kernel_rfl
  i3 := by kernel_rfl
  i4 := by kernel_rfl
  i5 := by kernel_rfl
  i9 := by kernel_rfl
  i20 := by kernel_rfl
  i21 := by kernel_rfl
  i37 := by kernel_rfl
  i46 := by kernel_rfl
  i51 := by kernel_rfl
  i53 := by kernel_rfl
  i75 := by kernel_rfl
  i76 := by kernel_rfl
  i80 := by kernel_rfl
  i85 := by kernel_rfl
  i127 := by kernel_rfl
  i143 := by kernel_rfl
  i145 := by kernel_rfl
  i167 := by kernel_rfl
  i168 := by kernel_rfl
  i171 := by kernel_rfl
  i173 := by kernel_rfl
  i175 := by kernel_rfl
  i210 := by kernel_rfl
  i212 := by kernel_rfl
  i232 := by kernel_rfl
  i233 := by kernel_rfl
  m15 := by kernel_rfl
  m16 := by kernel_rfl
  m17 := by kernel_rfl
  m18 := by kernel_rfl
  m19 := by kernel_rfl
  c0 := by kernel_rfl
  c2 := by kernel_rfl
  c3 := by kernel_rfl
  c4 := by kernel_rfl
  c5 := by kernel_rfl
  c9 := by kernel_rfl
  c20 := by kernel_rfl
  c21 := by kernel_rfl
  c37 := by kernel_rfl
  c46 := by kernel_rfl
  c51 := by kernel_rfl
  c53 := by kernel_rfl
  c75 := by kernel_rfl
  c76 := by kernel_rfl
  c80 := by kernel_rfl
  c85 := by kernel_rfl
  c127 := by kernel_rfl
  c143 := by kernel_rfl
  c145 := by kernel_rfl
  c167 := by kernel_rfl
  c168 := by kernel_rfl
  c171 := by kernel_rfl
  c173 := by kernel_rfl
  c175 := by kernel_rfl
  c210 := by kernel_rfl
  c212 := by kernel_rfl
  c213 := by kernel_rfl
  c232 := by kernel_rfl
  c233 := by kernel_rfl }
def Tryz.lays145_ren : Go.Shelf.Ren := ⟨fun | 145 => 61 | 220 => 90 | 219 => 117 | 217 => 138 | 225 => 137 | 224 => 136 | 267 => 139 | 266 => 160 | 314 => 161 | n => n, fun | 9 => 9 | 4 => 4 | 59 => 96 | 3 => 3 | 5 => 5 | 46 => 121 | 146 => 156 | 51 => 143 | n => n, fun | 1 => 2 | n => n⟩
theorem Tryz.lays145 : Go.Proofs.Lays.n145 Tryz.prog Tryz.lays145_ren := {
  mixed := by kernel_rfl
  f145 := Tryz.func61.trans (congrArg some (by kernel_rfl))
  f217 := Tryz.func138.trans (congrArg some (by kernel_rfl))
  f219 := Tryz.func117.trans (congrArg some (by kernel_rfl))
  f220 := Tryz.func90.trans (congrArg some (by kernel_rfl))
  f224 := Tryz.func136.trans (congrArg some (by kernel_rfl))
  f225 := Tryz.func137.trans (congrArg some (by kernel_rfl))
  f266 := Tryz.func160.trans (congrArg some (by kernel_rfl))
  f267 := Tryz.func139.trans (congrArg some (by kernel_rfl))
  f314 := Tryz.func161.trans (congrArg some (by kernel_rfl))
  t3 := Tryz.underlying3
  a3 := Tryz.isAgg3
  z3 := Tryz.sizeOf3
  v3 := Tryz.zeroValue3
  t4 := Tryz.underlying4
  a4 := Tryz.isAgg4
  z4 := Tryz.sizeOf4
  v4 := Tryz.zeroValue4
  t5 := Tryz.underlying5
  a5 := Tryz.isAgg5
  z5 := Tryz.sizeOf5
  v5 := Tryz.zeroValue5
  t9 := Tryz.underlying9
  a9 := Tryz.isAgg9
  z9 := Tryz.sizeOf9
  v9 := Tryz.zeroValue9
  t46 := Tryz.underlying121
  a46 := Tryz.isAgg121
  z46 := Tryz.sizeOf121
  v46 := Tryz.zeroValue121
  t51 := Tryz.underlying143
  a51 := Tryz.isAgg143
  z51 := Tryz.sizeOf143
  v51 := Tryz.zeroValue143
  t59 := Tryz.underlying96
  a59 := Tryz.isAgg96
  z59 := Tryz.sizeOf96
  v59 := Tryz.zeroValue96
  t146 := Tryz.underlying156
  a146 := Tryz.isAgg156
  z146 := Tryz.sizeOf156
  v146 := Tryz.zeroValue156
  g1 := by kernel_rfl }
def Tryz.lays105_ren : Go.Shelf.Ren := ⟨fun | 105 => 67 | 212 => 95 | 99 => 96 | 165 => 97 | 166 => 98 | 170 => 99 | 169 => 100 | 263 => 125 | 264 => 126 | 206 => 118 | 240 => 127 | 241 => 128 | 276 => 147 | 277 => 148 | n => n, fun | 9 => 9 | 3 => 3 | 4 => 4 | 20 => 20 | 0 => 0 | 46 => 121 | 109 => 127 | 5 => 5 | 72 => 132 | 76 => 102 | 51 => 143 | 146 => 156 | 53 => 158 | 148 => 159 | 70 => 130 | 37 => 110 | 75 => 101 | 127 => 161 | 164 => 185 | 80 => 134 | n => n, fun | n => n⟩
theorem Tryz.lays105 : Go.Proofs.Lays.n105 Tryz.prog Tryz.lays105_ren := {
  mixed := by kernel_rfl
  f99 := Tryz.func96.trans (congrArg some (by kernel_rfl))
  f105 := Tryz.func67.trans (congrArg some (by kernel_rfl))
  f165 := Tryz.func97.trans (congrArg some (by kernel_rfl))
  f166 := Tryz.func98.trans (congrArg some (by kernel_rfl))
  f169 := Tryz.func100.trans (congrArg some (by kernel_rfl))
  f170 := Tryz.func99.trans (congrArg some (by kernel_rfl))
  f206 := Tryz.func118.trans (congrArg some (by kernel_rfl))
  f212 := Tryz.func95.trans (congrArg some (by kernel_rfl))
  f240 := Tryz.func127.trans (congrArg some (by kernel_rfl))
  f241 := Tryz.func128.trans (congrArg some (by kernel_rfl))
  f263 := Tryz.func125.trans (congrArg some (by kernel_rfl))
  f264 := Tryz.func126.trans (congrArg some (by kernel_rfl))
  f276 := Tryz.func147.trans (congrArg some (by kernel_rfl))
  f277 := Tryz.func148.trans (congrArg some (by kernel_rfl))
  t0 := Tryz.underlying0
  a0 := Tryz.isAgg0
  z0 := Tryz.sizeOf0
  v0 := Tryz.zeroValue0
  t3 := Tryz.underlying3
  a3 := Tryz.isAgg3
  z3 := Tryz.sizeOf3
  v3 := Tryz.zeroValue3
  t4 := Tryz.underlying4
  a4 := Tryz.isAgg4
  z4 := Tryz.sizeOf4
  v4 := Tryz.zeroValue4
  t5 := Tryz.underlying5
  a5 := Tryz.isAgg5
  z5 := Tryz.sizeOf5
  v5 := Tryz.zeroValue5
  t9 := Tryz.underlying9
  a9 := Tryz.isAgg9
  z9 := Tryz.sizeOf9
  v9 := Tryz.zeroValue9
  t20 := Tryz.underlying20
  a20 := Tryz.isAgg20
  z20 := Tryz.sizeOf20
  v20 := Tryz.zeroValue20
  t37 := Tryz.underlying110
  a37 := Tryz.isAgg110
  z37 := Tryz.sizeOf110
  v37 := Tryz.zeroValue110
  t46 := Tryz.underlying121
  a46 := Tryz.isAgg121
  z46 := Tryz.sizeOf121
  v46 := Tryz.zeroValue121
  t51 := Tryz.underlying143
  a51 := Tryz.isAgg143
  z51 := Tryz.sizeOf143
  v51 := Tryz.zeroValue143
  t53 := Tryz.underlying158
  a53 := Tryz.isAgg158
  z53 := Tryz.sizeOf158
  v53 := Tryz.zeroValue158
  t70 := Tryz.underlying130
  a70 := Tryz.isAgg130
  z70 := Tryz.sizeOf130
  v70 := Tryz.zeroValue130
  t72 := Tryz.underlying132
  a72 := Tryz.isAgg132
  z72 := Tryz.sizeOf132
  v72 := Tryz.zeroValue132
  t75 := Tryz.underlying101
  a75 := Tryz.isAgg101
  z75 := Tryz.sizeOf101
  v75 := Tryz.zeroValue101
  t76 := Tryz.underlying102
  a76 := Tryz.isAgg102
  z76 := Tryz.sizeOf102
  v76 := Tryz.zeroValue102
  t109 := Tryz.underlying127
  a109 := Tryz.isAgg127
  z109 := Tryz.sizeOf127
  v109 := Tryz.zeroValue127
  t127 := Tryz.underlying161
  a127 := Tryz.isAgg161
  z127 := Tryz.sizeOf161
  v127 := Tryz.zeroValue161
  t146 := Tryz.underlying156
  a146 := Tryz.isAgg156
  z146 := Tryz.sizeOf156
  v146 := Tryz.zeroValue156
  t148 := Tryz.underlying159
  a148 := Tryz.isAgg159
  z148 := Tryz.sizeOf159
  v148 := Tryz.zeroValue159
  t164 := Tryz.underlying185
  a164 := Tryz.isAgg185
  z164 := Tryz.sizeOf185
  v164 := Tryz.zeroValue185 }
theorem Tryz.Builder_Extra_105 : Builder.Extra Tryz.prog Tryz.lays105_ren := {
  sizeBuilder := by kernel_rfl
  liesBuilder := by kernel_rfl
  t5 := Tryz.underlying5
  a5 := Tryz.isAgg5
  z5 := Tryz.sizeOf5
  v5 := Tryz.zeroValue5
  infoByte := by kernel_rfl
  cellsByte := by kernel_rfl
  sizeByte := by kernel_rfl
  neB5 := by decide }
end Go.Proofs

/- A separation logic over the given machine. Part 22: more on regions that draw. -/
namespace Go.Sp
open Go
section
variable {P : Program} {N : Nat} {ops : Array Oper} {E : Env} {Γ ΓS : List SProp} {K : Env → List SProp → Prop} {fuel : Nat} {listed : Array Bool} {L : List Nat}
theorem RunD.cast {X X' : SProp} (h : X = X') (n : RunD P N ops L ΓS fuel listed E (X' :: Γ) K) : RunD P N ops L ΓS fuel listed E (X :: Γ) K := by subst h; exact n
theorem RunD.nilArr (e s : Nat) (a : Option Addr) (n : RunD P N ops L ΓS fuel listed E (arr e s a 0 [] :: Γ) K) : RunD P N ops L ΓS fuel listed E Γ K := fun A F w ac Z hz hf hs k => n A F w ac Z hz hf hs.arr_none k
end
end Go.Sp

/- A separation logic over the given machine. Part 23: contracts of the library that leave what was there as it was; interfaces held against nil. -/
namespace Go.Sp
open Go Go.RowKit
theorem Sat.keptBelow {A w w' Γ} (s : Sat A w Γ) (b : Below w.heap.size w w') : Sat A w' Γ := by
  obtain ⟨ha, h, hf, hs⟩ := s
  refine ⟨?_, h, fun k x hk => ?_, hs⟩
  · rw [← ha]; unfold amb; rw [b.os, b.tape, b.output]
  · have h1 := hf k x hk
    rw [b.block k (by have := (Array.getElem?_eq_some_iff.1 h1).1; exact this)]; exact h1
theorem Cn.calls {P f} {args : List Value} {φ : World → Prop} {q : Value → Prop} (able : Able P f) (h : ∀ w, φ w → Calls P f args.toArray w fun e w' => ∃ v, e = .returned v ∧ q v ∧ Below w.heap.size w w') : Cn P f args φ [] fun v G => q v ∧ G = [] := fun R kR => by
  refine ⟨able, fun A F w s => ?_⟩
  have s1 : Sat A w ([R] ++ F) := s
  refine (h w (kR A w s1.left)).mono fun e w' ⟨v, he, hq, hb⟩ => ⟨v, [R], he, ⟨[], ⟨hq, rfl⟩, rfl⟩, s1.keptBelow hb⟩
/-- A call that makes one row. -/
theorem Cn.callsRow {P f} {args : List Value} {φ : World → Prop} {e : TypeId} {cs : List Value} (able : Able P f) (ho : ones cs) (h : ∀ w, φ w → Calls P f args.toArray w fun x w' => x = .returned (.slice (some ⟨w.heap.size, 0, none⟩) cs.length cs.length) ∧ w' = w.alloc (.cells cs.toArray e)) :
    Cn P f args φ [] fun v G => ∃ b, v = .slice (some ⟨b, 0, none⟩) cs.length cs.length ∧ G = [arr e 1 (some ⟨b, 0, none⟩) cs.length cs] := fun R kR => by
  refine ⟨able, fun A F w s => ?_⟩
  have s1 : Sat A w ([R] ++ F) := s
  refine (h w (kR A w s1.left)).mono fun x w' ⟨he, hw⟩ => ?_
  subst hw
  refine ⟨_, [arr e 1 (some ⟨w.heap.size, 0, none⟩) cs.length cs, R], he, ⟨[_], ⟨w.heap.size, rfl, rfl⟩, rfl⟩, ?_⟩
  have s2 : Sat A (w.alloc (.cells cs.toArray e)) (own w.heap.size (.cells cs.toArray e (0, 0)) :: ([R] ++ F)) := Sat.alloc s1 _
  have s3 := Sat.blk_of s2 ho (.inl rfl)
  have s4 : Sat A (w.alloc (.cells cs.toArray e)) ([blk w.heap.size cs e] ++ ([R] ++ F)) := s3
  exact Sat.close (fun h H => blk.arr_all (b := w.heap.size) (e := e) (s := 1) (c := cs.length) (by rw [Nat.mul_one]) (by obtain ⟨h1, _, _, l, _, H', _⟩ := H; exact blk_mono l H')) s4
section
variable {P : Program} {N : Nat} {E : Env} {Γ : List SProp} {dst : Option Tmp} {ty : TypeId} {pos : String} {after : Array Edge} {guard : Option (Nat × Bool)}
def notNil : Value → Bool
  | .nilIface => false
  | _ => true
theorem Reads.neNilI {t x t' ms} {v : Value} (hu : P.underlying t = some (.interface ms)) (hx : ev E x = some v) (hv : v = .nilIface ∨ ∃ te pe, v = .iface te pe) :
    Reads P N E Γ ⟨dst, .binOp .neq t x (.const .nilIface) t', ty, pos, after, guard⟩ (.bool (notNil v)) := by
  rcases hv with rfl | ⟨te, pe, rfl⟩
  · refine .bin hx rfl (fun w => by unfold eqGuard; simp) fun w => ?_
    refine binOp_neq (b := true) (fun _ => rfl) w ?_
    rw [Op.equalIn.eq_def]; simp [underlying, hu]
  · refine .bin hx rfl (fun w => by unfold eqGuard; simp) fun w => ?_
    refine binOp_neq (b := false) (fun _ => rfl) w ?_
    rw [Op.equalIn.eq_def]; simp [underlying, hu]
end
end Go.Sp

/- Chapter 6: contracts of the library at this program, for the walks. -/
namespace Go.Proofs.YtglhoenjflpibaaGreatDoor
open Go Go.Sp Go.RowKit

/-- The name of the table of tens. -/
abbrev powName : String := (Go.Proofs.YtglhoenjflpibaaGreatDoor.Rows.plogWholeRow.laid.getD 2 ("", DataW.nil)).1
/-- What the package variables hold that these contracts read. -/
def LV (w : World) : Prop := (∃ m, w.cell? ⟨2, 0, none⟩ = some (.int .i64 m)) ∧ Lib.TabIs Tryz.prog w powName .u64 Lib.pow10Tab
theorem below_drewN (w : World) (k : Nat) : Below w.heap.size w (w.drewN k) := ⟨rfl, rfl, rfl, Nat.le_refl _, fun _ _ => rfl⟩
theorem below_grow {w : World} (k : Nat) (os : Array Obj) : Below w.heap.size w (Go.Sort.grow (w.drewN k) os) := by
  have h := below_drewN w k
  refine ⟨h.os, h.tape, h.output, Nat.le_trans h.size (by unfold Go.Sort.grow; simp), fun j hj => ?_⟩
  have hs := h.size
  rw [← h.block j hj]
  unfold Go.Sort.grow
  rw [Array.getElem?_append_left (by omega)]
theorem able29 : Able Tryz.prog 29 := ⟨_, Tryz.func29, by kernel_rfl, rfl⟩
theorem able60 : Able Tryz.prog 60 := ⟨_, Tryz.func60, by kernel_rfl, rfl⟩
theorem able61 : Able Tryz.prog 61 := ⟨_, Tryz.func61, by kernel_rfl, rfl⟩
theorem able63 : Able Tryz.prog 63 := ⟨_, Tryz.func63, by kernel_rfl, rfl⟩
theorem able64 : Able Tryz.prog 64 := ⟨_, Tryz.func64, by kernel_rfl, rfl⟩
theorem able66 : Able Tryz.prog 66 := ⟨_, Tryz.func66, by kernel_rfl, rfl⟩
theorem able67 : Able Tryz.prog 67 := ⟨_, Tryz.func67, by kernel_rfl, rfl⟩
theorem trim_ok (s cs : List UInt8) (hs : s.length ≤ 9223372036854775807) (hc : cs.length < 4294967281) (ha : cs.all (fun b => decide (b.toNat < 128)) = true) : Cn Tryz.prog 29 [.string (str s), .string (str cs)] (fun _ => True) [] fun v G => v = .string (str (Lib.trimS s cs)) ∧ G = [] :=
  Cn.calls (q := fun v => v = .string (str (Lib.trimS s cs))) able29 fun w _ => (Any.strings_Trim_laid Tryz.lays160 (by kernel_rfl) (str s) (str cs) w (by rw [str_size]; exact hs) (by rw [str_size]; exact hc) (ascii_of_all ha)).mono fun e w' ⟨he, hb⟩ => ⟨_, he, rfl, hb⟩
theorem cutp_ok (s p : List UInt8) : Cn Tryz.prog 63 [.string (str s), .string (str p)] (fun _ => True) [] fun v G => v = .tuple #[.string (str (Lib.trimPrefix s p)), .bool (Lib.hasPrefix s p)] ∧ G = [] :=
  Cn.calls (q := fun v => v = .tuple #[.string (str (Lib.trimPrefix s p)), .bool (Lib.hasPrefix s p)]) able63 fun w _ => (Any.strings_CutPrefix Tryz.lays103 (str s) (str p) w).mono fun e w' ⟨he, hw⟩ => ⟨_, he, rfl, hw ▸ Below.refl _ _⟩
theorem cuts_ok (s p : List UInt8) (hs : s.length ≤ 9223372036854775807) : Cn Tryz.prog 60 [.string (str s), .string (str p)] (fun _ => True) [] fun v G => v = .tuple #[.string (str (Lib.trimSuffix s p)), .bool (Lib.hasSuffix s p)] ∧ G = [] :=
  Cn.calls (q := fun v => v = .tuple #[.string (str (Lib.trimSuffix s p)), .bool (Lib.hasSuffix s p)]) able60 fun w _ => (Any.strings_CutSuffix Tryz.lays104 (str s) (str p) w (by rw [str_size]; exact hs)).mono fun e w' ⟨he, hw⟩ => ⟨_, he, rfl, hw ▸ Below.refl _ _⟩
theorem cut_ok (s p : List UInt8) (hs : s.length < 4294967281) : Cn Tryz.prog 61 [.string (str s), .string (str p)] LV [] fun v G => v = .tuple #[.string (str (Lib.cut s p).1), .string (str (Lib.cut s p).2.1), .bool (Lib.cut s p).2.2] ∧ G = [] :=
  Cn.calls (q := fun v => v = .tuple #[.string (str (Lib.cut s p).1), .string (str (Lib.cut s p).2.1), .bool (Lib.cut s p).2.2]) able61 fun w ⟨⟨m, hm⟩, _⟩ => (Any.strings_Cut Tryz.lays145 (str s) (str p) m w (by rw [str_size]; exact hs) hm).mono fun e w' ⟨he, k, hw⟩ => ⟨_, he, rfl, hw ▸ below_drewN w k⟩
theorem rep_ok (s : List UInt8) (c : Nat) (hc : c ≤ 1000) (hs : s.length ≤ 1000) : Cn Tryz.prog 67 [.string (str s), .int .i64 (c : Int)] (fun _ => True) [] fun v G => v = .string (str (Lib.repeatL s c)) ∧ G = [] :=
  Cn.calls (q := fun v => v = .string (str (Lib.repeatL s c))) able67 fun w _ => (Any.strings_Repeat Tryz.lays105 Tryz.Builder_Extra_105 (str s) c w (by omega) (by rw [str_size]; exact Nat.le_trans (Nat.mul_le_mul hs hc) (by decide))).mono fun e w' ⟨he, hb⟩ => ⟨_, he, rfl, hb⟩
theorem itoa_ok (n : Nat) (h1 : n ≤ 9223372036854775807) : Cn Tryz.prog 66 [.int .i64 (n : Int)] LV [] fun v G => v = .string (str (Lib.decDigits n)) ∧ G = [] :=
  Cn.calls (q := fun v => v = .string (str (Lib.decDigits n))) able66 fun w ⟨_, ht⟩ => (Any.strconv_Itoa Tryz.laysM171 (n : Int) (by omega) (by omega) w ht).mono fun e w' ⟨he, k, os, hw⟩ => ⟨_, he, by rw [Lib.itoa_nonneg]; rfl, by rw [hw]; exact below_grow k os⟩
theorem atoi_ok (l : List UInt8) (h0 : l ≠ []) (hd : ∀ c ∈ l, digit c) (hl : l.length ≤ 18) : Cn Tryz.prog 64 [.string (str l)] (fun _ => True) [] fun v G => v = .tuple #[.int .i64 (val 0 l : Int), .nilIface] ∧ G = [] :=
  Cn.calls (q := fun v => v = .tuple #[.int .i64 (val 0 l : Int), .nilIface]) able64 fun w _ => (Any.strconv_Atoi_ok Tryz.laysC172 (str l) (by rw [str_size]; omega) _ (atoi_val h0 hd hl) w).mono fun e w' ⟨he, hw⟩ => ⟨_, he, rfl, by
    rcases hw with rfl | ⟨t, rfl⟩
    · exact Below.refl _ _
    · exact Lib.bytesWorld_below _ _ _⟩
end Go.Proofs.YtglhoenjflpibaaGreatDoor

/- A separation logic over the given machine. Part 24: parts of structs that are values. -/
namespace Go.Sp
open Go
variable {P : Program} {N : Nat} {E : Env} {Γ : List SProp} {dst : Option Tmp} {ty : TypeId} {pos : String} {after : Array Edge} {guard : Option (Nat × Bool)}

/-- Where a struct's part lies, which is of one cell. -/
def FO (P : Program) (s f off : Nat) : Prop := ∃ fs fd, P.underlying s = some (.struct fs) ∧ fs[f]? = some fd ∧ fd.offset = off ∧ NotAgg P fd.type
theorem FO.of {s f off : Nat} {t : TypeId} {fs : Array Field} (hu : P.underlying s = some (.struct fs)) (h1 : (fs[f]?).map (fun d => (d.offset, d.type)) = some (off, t)) (hn : NotAgg P t) : FO P s f off := by
  cases e : fs[f]? with
  | none => simp [e] at h1
  | some d =>
    simp [e] at h1
    obtain ⟨h2, rfl⟩ := h1
    exact ⟨fs, d, hu, e, h2, hn⟩
theorem Reads.field {s x f off v} {cs : Array Value} (hd : FO P s f off) (hx : ev E x = some (.agg cs)) (hv : cs[off]? = some v) : Reads P N E Γ ⟨dst, .field s x f, ty, pos, after, guard⟩ v := fun _ w a hf _ => by
  obtain ⟨fs, fd, h1, h2, h3, h4⟩ := hd
  have := part1 (P := P) (cs := cs) (off := fd.offset) (v := v) h4 (by rw [h3]; exact hv) w
  simp [execOp, hf.eval hx, Instr.field, underlying, h1, h2, asAgg, this]
/-- A nil interface held against nil. -/
theorem Reads.eqNilI {t x t' ms} (hu : P.underlying t = some (.interface ms)) (hx : ev E x = some .nilIface) :
    Reads P N E Γ ⟨dst, .binOp .eql t x (.const .nilIface) t', ty, pos, after, guard⟩ (.bool true) := by
  refine .bin hx rfl (fun w => by unfold eqGuard; simp) fun w => ?_
  refine binOp_eql (b := true) (fun _ => rfl) w ?_
  rw [Op.equalIn.eq_def]; simp [underlying, hu]
end Go.Sp

namespace Go.Proofs.YtglhoenjflpibaaGreatDoor
open Go Go.Sp

set_option linter.unusedVariables false

namespace dk0
theorem fd60_0 : FD Tryz.prog 60 0 0 := .of Tryz.underlying60 (by kernel_rfl)
theorem na3 : NotAgg Tryz.prog 3 := ⟨_, Tryz.underlying3, trivial⟩
theorem fd60_1 : FD Tryz.prog 60 1 1 := .of Tryz.underlying60 (by kernel_rfl)
theorem fd60_2 : FD Tryz.prog 60 2 2 := .of Tryz.underlying60 (by kernel_rfl)
theorem na58 : NotAgg Tryz.prog 58 := ⟨_, Tryz.underlying58, trivial⟩
theorem ti82 : TI Tryz.prog 82 2 24 (.agg #[.string ⟨#[]⟩, .int .i64 0]) := .of (by kernel_rfl)
theorem na9 : NotAgg Tryz.prog 9 := ⟨_, Tryz.underlying9, trivial⟩
theorem fo82_0 : FO Tryz.prog 82 0 0 := .of Tryz.underlying82 (by kernel_rfl) na9
theorem fo82_1 : FO Tryz.prog 82 1 1 := .of Tryz.underlying82 (by kernel_rfl) na3
theorem ts82 : TS Tryz.prog 82 2 := .of (by kernel_rfl)
theorem fd82_0 : FD Tryz.prog 82 0 0 := .of Tryz.underlying82 (by kernel_rfl)
theorem ts3 : TS Tryz.prog 3 1 := .of (by kernel_rfl)
theorem ia82 : IsAgg Tryz.prog 82 := ⟨_, Tryz.underlying82, trivial⟩
theorem bld82_0_1 (x0 : ByteArray) (x1 : Int) (w : World) : (Instr.build 82 (([0, 1] : List Nat).zip [.string x0, .int .i64 x1]).toArray).run Tryz.prog w = .ok (.agg #[.string x0, .int .i64 x1]) w := by kernel_rfl
theorem fd82_1 : FD Tryz.prog 82 1 1 := .of Tryz.underlying82 (by kernel_rfl)
theorem bld82_  (w : World) : (Instr.build 82 (([] : List Nat).zip []).toArray).run Tryz.prog w = .ok (.agg #[.string ⟨#[]⟩, .int .i64 0]) w := by kernel_rfl
theorem bld60_0_2 (x0 : Int) (x1 : Option Nat) (w : World) : (Instr.build 60 (([0, 2] : List Nat).zip [.int .i64 x0, .map x1]).toArray).run Tryz.prog w = .ok (.agg #[.int .i64 x0, .int .i64 0, .map x1]) w := by kernel_rfl
end dk0
open dk0

theorem kl58 : KL Tryz.prog 9 nmv := (KL.string Tryz.underlying9).comap str str_one
theorem put_cells {d : Dk} (hd : d.ok) (db mb : Nat) (n : Nm) (f : Fl) : blk db [.int .i64 (d.size : Int), .int .i64 ((d.used : Int) + ((f.b.length : Int) - ((d.file n).b.length : Int))), .map (some mb)] 60 = blk db ((d.put n f).cells mb) 60 := by
  have := Dk.used_put hd n f
  have e : (d.used : Int) + ((f.b.length : Int) - ((d.file n).b.length : Int)) = ((d.put n f).used : Int) := by omega
  rw [e]; rfl
theorem del_cells {d : Dk} (hd : d.ok) (db mb : Nat) (n : Nm) : blk db ((d.put n fl0).cells mb) 60 = blk db ((d.del n).cells mb) 60 := by
  have := Dk.used_put hd n fl0
  have := Dk.used_del hd n
  have e : (d.put n fl0).used = (d.del n).used := by have : fl0.b.length = 0 := rfl; omega
  unfold Dk.cells; rw [e]; rfl
theorem del_put (d : Dk) (n : Nm) (f : Fl) : mdel (d.put n f).fs n = (d.del n).fs := by
  unfold Dk.put Dk.del mset mdel
  dsimp only
  split
  · rw [List.filter_map]
    have : ∀ l : Fs, List.map (fun p => if n = p.1 then (p.1, f) else p) (l.filter (fun p => !decide (n = p.1))) = l.filter (fun p => !decide (n = p.1)) := fun l => by
      refine (List.map_congr_left (g := id) fun p hp => ?_).trans (List.map_id _)
      have := (List.mem_filter.1 hp).2
      rw [if_neg (by simpa using this)]; rfl
    have e : ((fun p : Nm × Fl => !decide (n = p.1)) ∘ fun p : Nm × Fl => if n = p.1 then (p.1, f) else p) = fun p => !decide (n = p.1) := by
      funext p; simp only [Function.comp]; split <;> rfl
    rw [e]; exact this _
  · rw [List.filter_append]; simp

set_option maxRecDepth 20000 in
theorem Free_ok (db mb : Nat) (d : Dk) (hd : d.ok) : Cn Tryz.prog 108 [.pointer (some ⟨db, 0, none⟩)] (fun _ => True) [blk db (d.cells mb) 60] fun v G => v = .int .i64 ((d.size : Int) - (d.used : Int)) ∧ G = [blk db (d.cells mb) 60] := by
  refine .enter Tryz.func108 rfl (by kernel_rfl) rfl fun R k => ?_
  have hu := hd.used
  have hz := hd.size
  refine .seq ?_
  refine .region ?_
  refine .rd (.assign rfl) ?_
  refine .nil ?_
  refine .seq ?_
  refine .draws [3, 7] [blk db (d.cells mb) 60] (by kernel_rfl) ?_
  refine .rp 0 rfl (by kernel_rfl) (by kernel_rfl) (by kernel_rfl) (Reads.pure (.move rfl)) ?_
  refine .rp 1 rfl (by kernel_rfl) (by kernel_rfl) (by kernel_rfl) (Reads.pure (.nilCheck rfl)) ?_
  refine .rp 2 rfl (by kernel_rfl) (by kernel_rfl) (by kernel_rfl) (Reads.pure (.fieldAddr fd60_0 rfl)) ?_
  refine .rd 3 rfl rfl (by kernel_rfl) (by kernel_rfl) (by kernel_rfl) (.ld na3 rfl .head rfl) (.cons .head .nil) ?_
  refine .rp 4 rfl (by kernel_rfl) (by kernel_rfl) (by kernel_rfl) (Reads.pure (.move rfl)) ?_
  refine .rp 5 rfl (by kernel_rfl) (by kernel_rfl) (by kernel_rfl) (Reads.pure (.nilCheck rfl)) ?_
  refine .rp 6 rfl (by kernel_rfl) (by kernel_rfl) (by kernel_rfl) (Reads.pure (.fieldAddr fd60_1 rfl)) ?_
  refine .rd 7 rfl rfl (by kernel_rfl) (by kernel_rfl) (by kernel_rfl) (.ld na3 rfl .head rfl) (.cons .head .nil) ?_
  refine .rp 8 rfl (by kernel_rfl) (by kernel_rfl) (by kernel_rfl) (Reads.pure (.sub rfl rfl (by omega) (by omega))) ?_
  refine .rp 9 rfl (by kernel_rfl) (by kernel_rfl) (by kernel_rfl) (Reads.pure (.assign rfl)) ?_
  refine .done (by kernel_rfl) ?_
  refine .retP Tryz.func108 (.cons (.tmp rfl) .nil) (.cons .head (.cons .head .nil)) ?_
  exact ⟨[_], ⟨rfl, rfl⟩, rfl⟩

set_option maxRecDepth 20000 in
theorem Size_ok (db mb : Nat) (d : Dk) (n : Nm) : Cn Tryz.prog 79 [.pointer (some ⟨db, 0, none⟩), nmv n] (fun _ => True) [blk db (d.cells mb) 60, mp nmv Fl.val mb d.fs] fun v G => v = .int .i64 ((d.file n).b.length : Int) ∧ G = [blk db (d.cells mb) 60, mp nmv Fl.val mb d.fs] := by
  refine .enter Tryz.func79 rfl (by kernel_rfl) rfl fun R k => ?_
  refine .seq ?_
  refine .region ?_
  refine .rd (.assign rfl) ?_
  refine .nil ?_
  refine .seq ?_
  refine .region ?_
  refine .rd (.move rfl) ?_
  refine .rd (.nilCheck rfl) ?_
  refine .rd (.fieldAddr fd60_2 rfl) ?_
  refine .rd (.ld na58 rfl .head rfl) ?_
  refine .rd (.move rfl) ?_
  refine .rd (.lookup (q := n) kl58 Tryz.underlying58 (fun w => ti82.zero w) rfl rfl (.tail .head)) ?_
  refine .alter (t := 10) (v' := (d.file n).val) rfl (lkNo d n) ?_
  refine .rd (.field fo82_0 rfl rfl) ?_
  refine .rd (.lenT rfl rfl Tryz.underlying9 rfl) ?_
  refine .rd (.assign rfl) ?_
  refine .nil ?_
  refine .retP Tryz.func79 (.cons (.tmp rfl) .nil) (.cons .head (.cons .head (.cons .head .nil))) ?_
  exact ⟨[_, _], ⟨rfl, rfl⟩, rfl⟩

set_option maxRecDepth 20000 in
theorem Synced_ok (db mb : Nat) (d : Dk) (n : Nm) : Cn Tryz.prog 49 [.pointer (some ⟨db, 0, none⟩), nmv n] (fun _ => True) [blk db (d.cells mb) 60, mp nmv Fl.val mb d.fs] fun v G => v = .int .i64 ((d.file n).safe : Int) ∧ G = [blk db (d.cells mb) 60, mp nmv Fl.val mb d.fs] := by
  refine .enter Tryz.func49 rfl (by kernel_rfl) rfl fun R k => ?_
  refine .seq ?_
  refine .region ?_
  refine .rd (.assign rfl) ?_
  refine .nil ?_
  refine .seq ?_
  refine .region ?_
  refine .rd (.move rfl) ?_
  refine .rd (.nilCheck rfl) ?_
  refine .rd (.fieldAddr fd60_2 rfl) ?_
  refine .rd (.ld na58 rfl .head rfl) ?_
  refine .rd (.move rfl) ?_
  refine .rd (.lookup (q := n) kl58 Tryz.underlying58 (fun w => ti82.zero w) rfl rfl (.tail .head)) ?_
  refine .alter (t := 10) (v' := (d.file n).val) rfl (lkNo d n) ?_
  refine .rd (.field fo82_1 rfl rfl) ?_
  refine .rd (.assign rfl) ?_
  refine .nil ?_
  refine .retP Tryz.func49 (.cons (.tmp rfl) .nil) (.cons .head (.cons .head (.cons .head .nil))) ?_
  exact ⟨[_, _], ⟨rfl, rfl⟩, rfl⟩

set_option maxRecDepth 20000 in
theorem Read_ok (db mb : Nat) (d : Dk) (n : Nm) : Cn Tryz.prog 59 [.pointer (some ⟨db, 0, none⟩), nmv n] (fun _ => True) [blk db (d.cells mb) 60, mp nmv Fl.val mb d.fs] fun v G => v = .tuple #[.string (str (d.file n).b), .int .i64 (if (d.get n).isSome = true then 0 else 8)] ∧ G = [blk db (d.cells mb) 60, mp nmv Fl.val mb d.fs] := by
  refine .enter Tryz.func59 rfl (by kernel_rfl) rfl fun R k => ?_
  refine .seq ?_
  refine .region ?_
  refine .rd (.assign rfl) ?_
  refine .rd (.assign rfl) ?_
  refine .nil ?_
  refine .seq ?_
  refine .region ?_
  refine .rd (.move rfl) ?_
  refine .rd (.nilCheck rfl) ?_
  refine .rd (.fieldAddr fd60_2 rfl) ?_
  refine .rd (.ld na58 rfl .head rfl) ?_
  refine .rd (.move rfl) ?_
  refine .rd (.lookupOk (q := n) kl58 Tryz.underlying58 (fun w => ti82.zero w) rfl rfl (.tail .head)) ?_
  refine .alter (t := 14) (v' := .tuple #[(d.file n).val, .bool (d.get n).isSome]) rfl (lkOk d n) ?_
  refine .rd (.move rfl) ?_
  refine .rd (.extract rfl rfl) ?_
  refine .rd (.extract rfl rfl) ?_
  refine .ef (.alloc ti82 rfl (ones.of rfl)) ?_
  rintro _ _ ⟨b6, rfl, rfl⟩
  refine .ef0 (.storeAll ts82 rfl rfl (by rfl) .head rfl (ones.of rfl)) ?_
  rintro _ _ rfl
  refine .rd (.assign rfl) ?_
  refine .nil ?_
  refine .seq ?_
  refine .seq ?_
  refine .region ?_
  refine .rd (.move rfl) ?_
  refine .rd (.not rfl) ?_
  refine .nil ?_
  refine .cond rfl (fun c2 => ?_) (fun c2 => ?_)
  · refine .seq ?_
    refine .region ?_
    refine .rd (.assign rfl) ?_
    refine .rd (.assign rfl) ?_
    refine .nil ?_
    refine .retP Tryz.func59 (.cons (.tmp rfl) (.cons (.tmp rfl) .nil)) (.cons (.tail .head) (.cons (.tail .head) (.cons (.tail .head) .nil))) ?_
    exact ⟨[_, _], ⟨by rw [(rdNo c2).1, (rdNo c2).2]; rfl, rfl⟩, rfl⟩
  · refine .skip ?_
    refine .seq ?_
    refine .region ?_
    refine .rd (.fieldAddr fd82_0 rfl) ?_
    refine .rd (.ld na9 rfl .head rfl) ?_
    refine .rd (.assign rfl) ?_
    refine .rd (.assign rfl) ?_
    refine .nil ?_
    refine .retP Tryz.func59 (.cons (.tmp rfl) (.cons (.tmp rfl) .nil)) (.cons (.tail .head) (.cons (.tail .head) (.cons (.tail .head) .nil))) ?_
    exact ⟨[_, _], ⟨by rw [rdYes c2]; rfl, rfl⟩, rfl⟩

set_option maxRecDepth 20000 in
theorem put_ok (db mb : Nat) (d : Dk) (n : Nm) (f : Fl) (hd : d.ok) (hf : f.b.length ≤ 16777216) : Cn Tryz.prog 47 [.pointer (some ⟨db, 0, none⟩), nmv n, f.val] (fun _ => True) [blk db (d.cells mb) 60, mp nmv Fl.val mb d.fs] fun v G => G = [blk db ((d.put n f).cells mb) 60, mp nmv Fl.val mb (d.put n f).fs] := by
  refine .enter Tryz.func47 rfl (by kernel_rfl) rfl fun R k => ?_
  have hu := hd.used
  have hz := hd.size
  have hfl := Dk.file_le (d := d) n
  refine .seq ?_
  refine .region ?_
  refine .ef (.box (l := [.string (str f.b), .int .i64 (f.safe : Int)]) rfl rfl (ones.of rfl)) ?_
  rintro _ _ ⟨b5, rfl, rfl⟩
  refine .nil ?_
  refine .seq ?_
  refine .draws [3, 5, 10, 12] [blk db (d.cells mb) 60, mp nmv Fl.val mb d.fs, blk b5 [.string (str f.b), .int .i64 (f.safe : Int)] 82] (by kernel_rfl) ?_
  refine .rp 0 rfl (by kernel_rfl) (by kernel_rfl) (by kernel_rfl) (Reads.pure (.move rfl)) ?_
  refine .rp 1 rfl (by kernel_rfl) (by kernel_rfl) (by kernel_rfl) (Reads.pure (.nilCheck rfl)) ?_
  refine .rp 2 rfl (by kernel_rfl) (by kernel_rfl) (by kernel_rfl) (Reads.pure (.fieldAddr fd60_1 rfl)) ?_
  refine .rd 3 rfl rfl (by kernel_rfl) (by kernel_rfl) (by kernel_rfl) (.ld na3 rfl .head rfl) (.cons (.tail .head) (.cons (.tail .head) (.cons .head .nil))) ?_
  refine .rp 4 rfl (by kernel_rfl) (by kernel_rfl) (by kernel_rfl) (Reads.pure (.fieldAddr fd82_0 rfl)) ?_
  refine .rd 5 rfl rfl (by kernel_rfl) (by kernel_rfl) (by kernel_rfl) (.ld na9 rfl (.tail (.tail .head)) rfl) (.cons (.tail .head) (.cons (.tail .head) (.cons .head .nil))) ?_
  refine .rp 6 rfl (by kernel_rfl) (by kernel_rfl) (by kernel_rfl) (Reads.pure (.lenT rfl rfl Tryz.underlying9 rfl)) ?_
  refine .rp 7 rfl (by kernel_rfl) (by kernel_rfl) (by kernel_rfl) (Reads.pure (.move rfl)) ?_
  refine .rp 8 rfl (by kernel_rfl) (by kernel_rfl) (by kernel_rfl) (Reads.pure (.nilCheck rfl)) ?_
  refine .rp 9 rfl (by kernel_rfl) (by kernel_rfl) (by kernel_rfl) (Reads.pure (.fieldAddr fd60_2 rfl)) ?_
  refine .rd 10 rfl rfl (by kernel_rfl) (by kernel_rfl) (by kernel_rfl) (.ld na58 rfl .head rfl) (.cons (.tail .head) (.cons (.tail .head) (.cons .head .nil))) ?_
  refine .rp 11 rfl (by kernel_rfl) (by kernel_rfl) (by kernel_rfl) (Reads.pure (.move rfl)) ?_
  refine .rd 12 rfl rfl (by kernel_rfl) (by kernel_rfl) (by kernel_rfl) (.lookup (q := n) kl58 Tryz.underlying58 (fun w => ti82.zero w) rfl rfl (.tail .head)) (.cons (.tail .head) (.cons (.tail .head) (.cons .head .nil))) ?_
  refine .alter (t := 18) (v' := (d.file n).val) rfl (lkNo d n) ?_
  refine .rp 13 rfl (by kernel_rfl) (by kernel_rfl) (by kernel_rfl) (Reads.pure (.field fo82_0 rfl rfl)) ?_
  refine .rp 14 rfl (by kernel_rfl) (by kernel_rfl) (by kernel_rfl) (Reads.pure (.lenT rfl rfl Tryz.underlying9 rfl)) ?_
  refine .rp 15 rfl (by kernel_rfl) (by kernel_rfl) (by kernel_rfl) (Reads.pure (.sub rfl rfl (by omega) (by omega))) ?_
  refine .rp 16 rfl (by kernel_rfl) (by kernel_rfl) (by kernel_rfl) (Reads.pure (.add rfl rfl (by omega) (by omega))) ?_
  refine .rp 17 rfl (by kernel_rfl) (by kernel_rfl) (by kernel_rfl) (Reads.pure (.nilCheck rfl)) ?_
  refine .rp 18 rfl (by kernel_rfl) (by kernel_rfl) (by kernel_rfl) (Reads.pure (.fieldAddr fd60_1 rfl)) ?_
  refine .ef0 19 (by kernel_rfl) rfl (.store ts3 rfl rfl (.tail .head) rfl (Nat.le_of_ble_eq_true rfl)) ?_
  rintro _ _ rfl
  refine ⟨.inl (by kernel_rfl), ?_⟩
  refine .done (by kernel_rfl) ?_
  refine .cast (X' := blk db ((d.put n f).cells mb) 60) (put_cells hd db mb n f) ?_
  refine .draws [3, 5] [blk db ((d.put n f).cells mb) 60, blk b5 [.string (str f.b), .int .i64 (f.safe : Int)] 82] (by kernel_rfl) ?_
  refine .rp 0 rfl (by kernel_rfl) (by kernel_rfl) (by kernel_rfl) (Reads.pure (.move rfl)) ?_
  refine .rp 1 rfl (by kernel_rfl) (by kernel_rfl) (by kernel_rfl) (Reads.pure (.nilCheck rfl)) ?_
  refine .rp 2 rfl (by kernel_rfl) (by kernel_rfl) (by kernel_rfl) (Reads.pure (.fieldAddr fd60_2 rfl)) ?_
  refine .rd 3 rfl rfl (by kernel_rfl) (by kernel_rfl) (by kernel_rfl) (.ld na58 rfl .head rfl) (.cons .head (.cons .head .nil)) ?_
  refine .rp 4 rfl (by kernel_rfl) (by kernel_rfl) (by kernel_rfl) (Reads.pure (.move rfl)) ?_
  refine .rd 5 rfl rfl (by kernel_rfl) (by kernel_rfl) (by kernel_rfl) (.ldN ia82 ts82 rfl (.tail .head) rfl) (.cons .head (.cons .head .nil)) ?_
  refine .ef0 6 (by kernel_rfl) rfl (.mapUpdate (u := f) kl58 Tryz.underlying58 rfl rfl rfl (.tail (.tail .head))) ?_
  rintro _ _ rfl
  refine ⟨.inl (by kernel_rfl), ?_⟩
  refine .done (by kernel_rfl) ?_
  refine .endP Tryz.func47 .nil (.cons (.tail .head) (.cons .head (.cons (.tail .head) .nil))) ?_
  exact ⟨[_, _], rfl, rfl⟩

set_option maxRecDepth 20000 in
theorem Sync_ok (db mb : Nat) (d : Dk) (n : Nm) (hd : d.ok) (hx : (d.get n).isSome = true) : Cn Tryz.prog 48 [.pointer (some ⟨db, 0, none⟩), nmv n] (fun _ => True) [blk db (d.cells mb) 60, mp nmv Fl.val mb d.fs] fun v G => v = .int .i64 0 ∧ G = [blk db ((d.put n ⟨(d.file n).b, (d.file n).b.length⟩).cells mb) 60, mp nmv Fl.val mb (d.put n ⟨(d.file n).b, (d.file n).b.length⟩).fs] := by
  refine .enter Tryz.func48 rfl (by kernel_rfl) rfl fun R k => ?_
  have hu := hd.used
  have hz := hd.size
  have hfl := Dk.file_le (d := d) n
  refine .seq ?_
  refine .region ?_
  refine .rd (.assign rfl) ?_
  refine .nil ?_
  refine .seq ?_
  refine .region ?_
  refine .rd (.move rfl) ?_
  refine .rd (.nilCheck rfl) ?_
  refine .rd (.fieldAddr fd60_2 rfl) ?_
  refine .rd (.ld na58 rfl .head rfl) ?_
  refine .rd (.move rfl) ?_
  refine .rd (.lookupOk (q := n) kl58 Tryz.underlying58 (fun w => ti82.zero w) rfl rfl (.tail .head)) ?_
  refine .alter (t := 13) (v' := .tuple #[(d.file n).val, .bool (d.get n).isSome]) rfl (lkOk d n) ?_
  refine .rd (.move rfl) ?_
  refine .rd (.extract rfl rfl) ?_
  refine .rd (.extract rfl rfl) ?_
  refine .ef (.alloc ti82 rfl (ones.of rfl)) ?_
  rintro _ _ ⟨b5, rfl, rfl⟩
  refine .ef0 (.storeAll ts82 rfl rfl (by rfl) .head rfl (ones.of rfl)) ?_
  rintro _ _ rfl
  refine .rd (.assign rfl) ?_
  refine .nil ?_
  refine .cast (X' := blk b5 [.string (str (d.file n).b), .int .i64 ((d.file n).safe : Int)] 82) (rfl) ?_
  refine .seq ?_
  refine .seq ?_
  refine .region ?_
  refine .rd (.move rfl) ?_
  refine .alter (t := 16) (v' := .bool true) rfl (congrArg Value.bool hx) ?_
  refine .rd (.not rfl) ?_
  refine .nil ?_
  refine .condF rfl ?_
  refine .skip ?_
  refine .seq ?_
  refine .region ?_
  refine .rd (.move rfl) ?_
  refine .rd (.move rfl) ?_
  refine .rd (.fieldAddr fd82_0 rfl) ?_
  refine .rd (.ld na9 rfl .head rfl) ?_
  refine .rd (.fieldAddr fd82_0 rfl) ?_
  refine .rd (.ld na9 rfl .head rfl) ?_
  refine .rd (.lenT rfl rfl Tryz.underlying9 rfl) ?_
  refine .rd (.build rfl (bld82_0_1 _ _)) ?_
  refine .fn rfl rfl (.cons (.tail .head) (.cons (.tail .head) .nil)) (fun _ _ _ => trivial) (put_ok db mb d n ⟨(d.file n).b, (d.file n).b.length⟩ hd (by show (d.file n).b.length ≤ _; omega)) (fun v G1 hq => ?_)
  obtain rfl := hq
  simp only [List.cons_append, List.nil_append]
  refine .nil ?_
  refine .seq ?_
  refine .region ?_
  refine .rd (.assign rfl) ?_
  refine .nil ?_
  refine .retP Tryz.func48 (.cons (.tmp rfl) .nil) (.cons .head (.cons .head (.cons (.tail .head) .nil))) ?_
  exact ⟨[_, _], ⟨rfl, rfl⟩, rfl⟩

set_option maxRecDepth 20000 in
theorem Cut_ok (db mb : Nat) (d : Dk) (n : Nm) (z : Nat) (hd : d.ok) (hx : (d.get n).isSome = true) (hk : z ≤ (d.file n).b.length) : Cn Tryz.prog 76 [.pointer (some ⟨db, 0, none⟩), nmv n, .int .i64 (z : Int)] (fun _ => True) [blk db (d.cells mb) 60, mp nmv Fl.val mb d.fs] fun v G => v = .int .i64 0 ∧ G = [blk db ((d.put n ⟨(d.file n).b.take z, min (d.file n).safe z⟩).cells mb) 60, mp nmv Fl.val mb (d.put n ⟨(d.file n).b.take z, min (d.file n).safe z⟩).fs] := by
  refine .enter Tryz.func76 rfl (by kernel_rfl) rfl fun R k => ?_
  have hu := hd.used
  have hz := hd.size
  have hfl := Dk.file_le (d := d) n
  have hsf := Dk.safe_le hd (Dk.get_some.1 hx)
  refine .seq ?_
  refine .region ?_
  refine .rd (.assign rfl) ?_
  refine .nil ?_
  refine .seq ?_
  refine .region ?_
  refine .rd (.move rfl) ?_
  refine .rd (.nilCheck rfl) ?_
  refine .rd (.fieldAddr fd60_2 rfl) ?_
  refine .rd (.ld na58 rfl .head rfl) ?_
  refine .rd (.move rfl) ?_
  refine .rd (.lookupOk (q := n) kl58 Tryz.underlying58 (fun w => ti82.zero w) rfl rfl (.tail .head)) ?_
  refine .alter (t := 15) (v' := .tuple #[(d.file n).val, .bool (d.get n).isSome]) rfl (lkOk d n) ?_
  refine .rd (.move rfl) ?_
  refine .rd (.extract rfl rfl) ?_
  refine .rd (.extract rfl rfl) ?_
  refine .ef (.alloc ti82 rfl (ones.of rfl)) ?_
  rintro _ _ ⟨b7, rfl, rfl⟩
  refine .ef0 (.storeAll ts82 rfl rfl (by rfl) .head rfl (ones.of rfl)) ?_
  rintro _ _ rfl
  refine .rd (.assign rfl) ?_
  refine .nil ?_
  refine .cast (X' := blk b7 [.string (str (d.file n).b), .int .i64 ((d.file n).safe : Int)] 82) (rfl) ?_
  refine .seq ?_
  refine .seq ?_
  refine .region ?_
  refine .rd (.move rfl) ?_
  refine .alter (t := 18) (v' := .bool true) rfl (congrArg Value.bool hx) ?_
  refine .rd (.not rfl) ?_
  refine .nil ?_
  refine .condF rfl ?_
  refine .skip ?_
  refine .seq ?_
  refine .seq ?_
  refine .region ?_
  refine .rd (.move rfl) ?_
  refine .rd (.lt rfl rfl) ?_
  refine .alter (t := 21) (v' := .bool false) rfl (congrArg Value.bool (decide_eq_false (by omega))) ?_
  refine .rd (.move rfl) ?_
  refine .on (t := 22) rfl rfl ?_
  refine .rd (.move rfl) ?_
  refine .on (t := 22) rfl rfl ?_
  refine .rd (.fieldAddr fd82_0 rfl) ?_
  refine .on (t := 22) rfl rfl ?_
  refine .rd (.ld na9 rfl .head rfl) ?_
  refine .on (t := 22) rfl rfl ?_
  refine .rd (.lenT rfl rfl Tryz.underlying9 rfl) ?_
  refine .on (t := 22) rfl rfl ?_
  refine .rd (.gt rfl rfl) ?_
  refine .alter (t := 27) (v' := .bool false) rfl (congrArg Value.bool (decide_eq_false (by omega))) ?_
  refine .rd (.pickF rfl rfl) ?_
  refine .nil ?_
  refine .condF rfl ?_
  refine .skip ?_
  refine .seq ?_
  refine .draws [3, 7] [blk db (d.cells mb) 60, mp nmv Fl.val mb d.fs, blk b7 [.string (str (d.file n).b), .int .i64 ((d.file n).safe : Int)] 82] (by kernel_rfl) ?_
  refine .rp 0 rfl (by kernel_rfl) (by kernel_rfl) (by kernel_rfl) (Reads.pure (.move rfl)) ?_
  refine .rp 1 rfl (by kernel_rfl) (by kernel_rfl) (by kernel_rfl) (Reads.pure (.move rfl)) ?_
  refine .rp 2 rfl (by kernel_rfl) (by kernel_rfl) (by kernel_rfl) (Reads.pure (.fieldAddr fd82_0 rfl)) ?_
  refine .rd 3 rfl rfl (by kernel_rfl) (by kernel_rfl) (by kernel_rfl) (.ld na9 rfl (.tail (.tail .head)) rfl) (.cons (.tail .head) (.cons (.tail .head) (.cons .head .nil))) ?_
  refine .rp 4 rfl (by kernel_rfl) (by kernel_rfl) (by kernel_rfl) (Reads.pure (.move rfl)) ?_
  refine .rp 5 rfl (by kernel_rfl) (by kernel_rfl) (by kernel_rfl) (Reads.pure (.sliceT (l := (d.file n).b) (a := 0) (h := z) Tryz.underlying9 rfl rfl ⟨_, rfl⟩ (by omega) (by omega))) ?_
  refine .rp 6 rfl (by kernel_rfl) (by kernel_rfl) (by kernel_rfl) (Reads.pure (.fieldAddr fd82_1 rfl)) ?_
  refine .rd 7 rfl rfl (by kernel_rfl) (by kernel_rfl) (by kernel_rfl) (.ld na3 rfl (.tail (.tail .head)) rfl) (.cons (.tail .head) (.cons (.tail .head) (.cons .head .nil))) ?_
  refine .rp 8 rfl (by kernel_rfl) (by kernel_rfl) (by kernel_rfl) (Reads.pure (.move rfl)) ?_
  refine .rp 9 rfl (by kernel_rfl) (by kernel_rfl) (by kernel_rfl) (Reads.pure (.min2 rfl rfl rfl)) ?_
  refine .alter (t := 38) (v' := .int .i64 (((min (d.file n).safe z : Nat) : Int))) rfl (congrArg (Value.int .i64) (by omega)) ?_
  refine .rp 10 rfl (by kernel_rfl) (by kernel_rfl) (by kernel_rfl) (Reads.pure (.build rfl (bld82_0_1 _ _))) ?_
  refine .alter (t := 39) (v' := (Fl.val ⟨(d.file n).b.take z, min (d.file n).safe z⟩)) rfl (by simp [Fl.val]) ?_
  refine .ef 11 (by kernel_rfl) rfl (.fn rfl rfl (.cons (.tail .head) (.cons (.tail .head) .nil)) (fun _ _ _ => trivial) (put_ok db mb d n ⟨(d.file n).b.take z, min (d.file n).safe z⟩ hd (by rw [List.length_take]; omega))) ?_
  rintro v _ ⟨G1, hq, rfl⟩
  obtain rfl := hq
  simp only [List.cons_append, List.nil_append]
  refine ⟨.inl (by kernel_rfl), ?_⟩
  refine .done (by kernel_rfl) ?_
  refine .seq ?_
  refine .region ?_
  refine .rd (.assign rfl) ?_
  refine .nil ?_
  refine .retP Tryz.func76 (.cons (.tmp rfl) .nil) (.cons .head (.cons .head (.cons (.tail .head) .nil))) ?_
  exact ⟨[_, _], ⟨rfl, rfl⟩, rfl⟩

set_option maxRecDepth 20000 in
theorem Remove_ok (db mb : Nat) (d : Dk) (n : Nm) (hd : d.ok) (hx : (d.get n).isSome = true) : Cn Tryz.prog 33 [.pointer (some ⟨db, 0, none⟩), nmv n] (fun _ => True) [blk db (d.cells mb) 60, mp nmv Fl.val mb d.fs] fun v G => v = .int .i64 0 ∧ G = [blk db ((d.del n).cells mb) 60, mp nmv Fl.val mb (d.del n).fs] := by
  refine .enter Tryz.func33 rfl (by kernel_rfl) rfl fun R k => ?_
  have hu := hd.used
  have hz := hd.size
  refine .seq ?_
  refine .region ?_
  refine .rd (.assign rfl) ?_
  refine .nil ?_
  refine .seq ?_
  refine .seq ?_
  refine .region ?_
  refine .rd (.move rfl) ?_
  refine .rd (.nilCheck rfl) ?_
  refine .rd (.fieldAddr fd60_2 rfl) ?_
  refine .rd (.ld na58 rfl .head rfl) ?_
  refine .rd (.move rfl) ?_
  refine .rd (.lookupOk (q := n) kl58 Tryz.underlying58 (fun w => ti82.zero w) rfl rfl (.tail .head)) ?_
  refine .alter (t := 13) (v' := .tuple #[(d.file n).val, .bool (d.get n).isSome]) rfl (lkOk d n) ?_
  refine .rd (.move rfl) ?_
  refine .rd (.extract rfl rfl) ?_
  refine .rd (.extract rfl rfl) ?_
  refine .ef (.alloc ti82 rfl (ones.of rfl)) ?_
  rintro _ _ ⟨b5, rfl, rfl⟩
  refine .ef0 (.storeAll ts82 rfl rfl (by rfl) .head rfl (ones.of rfl)) ?_
  rintro _ _ rfl
  refine .rd (.assign rfl) ?_
  refine .nil ?_
  refine .cast (X' := blk b5 [.string (str (d.file n).b), .int .i64 ((d.file n).safe : Int)] 82) (rfl) ?_
  refine .seq ?_
  refine .region ?_
  refine .rd (.move rfl) ?_
  refine .alter (t := 16) (v' := .bool true) rfl (congrArg Value.bool hx) ?_
  refine .rd (.not rfl) ?_
  refine .nil ?_
  refine .condF rfl ?_
  refine .skip ?_
  refine .seq ?_
  refine .region ?_
  refine .rd (.move rfl) ?_
  refine .rd (.move rfl) ?_
  refine .rd (.build rfl (bld82_)) ?_
  refine .fn rfl rfl (.cons (.tail .head) (.cons (.tail .head) .nil)) (fun _ _ _ => trivial) (put_ok db mb d n fl0 hd (by decide)) (fun v G1 hq => ?_)
  obtain rfl := hq
  simp only [List.cons_append, List.nil_append]
  refine .nil ?_
  refine .seq ?_
  refine .region ?_
  refine .rd (.move rfl) ?_
  refine .rd (.nilCheck rfl) ?_
  refine .rd (.fieldAddr fd60_2 rfl) ?_
  refine .rd (.ld na58 rfl .head rfl) ?_
  refine .rd (.move rfl) ?_
  refine .ef0 (.mapDelete kl58 rfl rfl Tryz.underlying58 rfl rfl (.tail .head)) ?_
  rintro _ _ rfl
  refine .cast (X' := mp nmv Fl.val mb (d.del n).fs) (congrArg _ (del_put d n fl0)) ?_
  refine .nil ?_
  refine .seq ?_
  refine .perm (.cons (.tail .head) (.cons .head (.cons .head (.cons .head .nil)))) ?_
  refine .cast (X' := blk db ((d.del n).cells mb) 60) (del_cells hd db mb n) ?_
  refine .region ?_
  refine .rd (.assign rfl) ?_
  refine .nil ?_
  refine .retP Tryz.func33 (.cons (.tmp rfl) .nil) (.cons .head (.cons .head (.cons (.tail .head) .nil))) ?_
  exact ⟨[_, _], ⟨rfl, rfl⟩, rfl⟩

set_option maxRecDepth 20000 in
theorem New_ok (z : Nat) (h1 : 1 ≤ z) (h2 : z ≤ 16777216) : Cn Tryz.prog 9 [.int .i64 (z : Int)] (fun _ => True) [] fun v G => ∃ db mb, v = .tuple #[.pointer (some ⟨db, 0, none⟩), .int .i64 0] ∧ G = [blk db ((Dk.mk z []).cells mb) 60, mp nmv Fl.val mb (Dk.mk z []).fs] := by
  refine .enter Tryz.func9 rfl (by kernel_rfl) rfl fun R k => ?_
  refine .seq ?_
  refine .region ?_
  refine .rd (.assign rfl) ?_
  refine .rd (.assign rfl) ?_
  refine .nil ?_
  refine .seq ?_
  refine .seq ?_
  refine .region ?_
  refine .rd (.move rfl) ?_
  refine .rd (.lt rfl rfl) ?_
  refine .alter (t := 5) (v' := .bool false) rfl (congrArg Value.bool (decide_eq_false (by omega))) ?_
  refine .rd (.move rfl) ?_
  refine .on (t := 6) rfl rfl ?_
  refine .rd (.move rfl) ?_
  refine .on (t := 6) rfl rfl ?_
  refine .rd (.gt rfl rfl) ?_
  refine .alter (t := 8) (v' := .bool false) rfl (congrArg Value.bool (decide_eq_false (by omega))) ?_
  refine .rd (.pickF rfl rfl) ?_
  refine .nil ?_
  refine .condF rfl ?_
  refine .skip ?_
  refine .seq ?_
  refine .region ?_
  refine .rd (.move rfl) ?_
  refine .ef (.makeMap (κ := Nm) (ν := Fl) (enc := nmv) (venc := Fl.val)) ?_
  rintro _ _ ⟨mb, rfl, rfl⟩
  refine .rd (.build rfl (bld60_0_2 _ _)) ?_
  refine .ef (.box (l := [.int .i64 (z : Int), .int .i64 0, .map (some mb)]) rfl rfl (ones.of rfl)) ?_
  rintro _ _ ⟨db, rfl, rfl⟩
  refine .rd (.assign rfl) ?_
  refine .rd (.assign rfl) ?_
  refine .nil ?_
  refine .retP Tryz.func9 (.cons (.tmp rfl) (.cons (.tmp rfl) .nil)) (.cons .head (.cons .head (.cons .head .nil))) ?_
  exact ⟨[_, _], ⟨_, _, rfl, rfl⟩, rfl⟩

end Go.Proofs.YtglhoenjflpibaaGreatDoor

