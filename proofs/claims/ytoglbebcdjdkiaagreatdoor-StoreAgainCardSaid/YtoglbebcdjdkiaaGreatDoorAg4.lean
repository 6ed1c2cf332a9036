/- Part 4 of a claim's texts: rules for the machine's steps, and steps through functions of the program, under the conditions that each theorem states. -/
import Derived.Test.YtoglbebcdjdkiaaGreatDoorProg
import Derived.Lib.IndexMore
import Derived.Shelf.Strings.Builder1
import Derived.Test.YtoglbebcdjdkiaaGreatDoorAg0
import Derived.Test.YtoglbebcdjdkiaaGreatDoorAg1
import Derived.Test.YtoglbebcdjdkiaaGreatDoorAg2
import Derived.Test.YtoglbebcdjdkiaaGreatDoorAg3
set_option linter.unusedVariables false
namespace Go.Proofs.YtoglbebcdjdkiaaGreatDoor
open Go Go.Sp
set_option linter.unusedVariables false
namespace log12
theorem na3 : NotAgg Tryz.prog 3 := ⟨_, Tryz.underlying3, trivial⟩
theorem na40 : NotAgg Tryz.prog 55 := ⟨_, Tryz.underlying55, trivial⟩
theorem ts39 : TS Tryz.prog 54 1 := .of (by kernel_rfl)
theorem na39 : NotAgg Tryz.prog 54 := ⟨_, Tryz.underlying54, trivial⟩
theorem na24 : NotAgg Tryz.prog 24 := ⟨_, Tryz.underlying24, trivial⟩
theorem ts40 : TS Tryz.prog 55 1 := .of (by kernel_rfl)
end log12
open log12
theorem placed (db mb : Nat) (d : Dk) (l : Lx) (off : Int) (hl : l.ok d) (h : off = l.next ∨ ∃ b ∈ l.all, b.base = off) : Cn Tryz.prog 89 [.pointer (some ⟨l.lb, 0, none⟩), .int .i64 off] (LogAt db l) [blk db (d.cells mb) 74, mp nmv Fl.val mb d.fs] fun v G => v = .bool true ∧ G = [blk db (d.cells mb) 74, mp nmv Fl.val mb d.fs] := by
 rcases h with rfl | ⟨b, hb, rfl⟩
 ·
  exact placeEnd_ok db mb d l hl
 ·
  exact place_ok db mb d l b hl hb
theorem Knows.arrCap {Γ Γ' : List SProp} {e s : Nat} {a : Option Addr} {c : Nat} {cs : List Value} (p : Pick (arr e s a c cs) Γ Γ') : Knows Γ fun _ => cs.length ≤ c * s := fun _ _ h => (h.map fun _ => p.sat).arr_len.1
theorem arr_cap {e s : Nat} {a : Option Addr} {c : Nat} {cs : List Value} {h : Hp} (H : arr e s a c cs h) : cs.length ≤ c * s := by
 rcases H with ⟨_, h3⟩ | ⟨b, pre, post, e1, e2, e3⟩
 ·
  subst h3; exact Nat.zero_le _
 ·
  omega
theorem arr_up {e s : Nat} {a : Option Addr} {c : Nat} {cs : List Value} {h k : Hp} (hl : Hp.le h k) (H : arr e s a c cs h) : arr e s a c cs k := by
 rcases H with h1 | ⟨b, pre, post, e1, e2, e3⟩
 ·
  exact .inl h1
 ·
  exact .inr ⟨b, pre, post, e1, e2, blk_mono hl e3⟩
theorem less_cells {q : Lx} {x : Sx} {r : List Sx} {db : Nat} {la : Option Addr} (hx : q.ini = x :: r) : lcells (some ⟨q.cur.b, 0, none⟩) db q.pre q.most q.start q.high la q.ini.length (q.lc - 1) = (q.less la).cells db := by
 unfold Lx.cells Lx.less; rw [hx]; rfl
theorem less_arr {q : Lx} {x : Sx} {r : List Sx} {b o : Nat} (hx : q.ini = x :: r) (h9 : q.la = some ⟨b, o, none⟩) {h : Hp} (H : sat [arr 54 1 q.la q.lc (q.segs.flatMap sp)] h) : arr 54 1 (q.less (some ⟨b, o + 1, none⟩)).la (q.less (some ⟨b, o + 1, none⟩)).lc ((q.less (some ⟨b, o + 1, none⟩)).segs.flatMap sp) h := by
 obtain ⟨h1, _, _, hle, _, H1, _⟩ := H
 rw [h9, less_segs hx (some ⟨b, o + 1, none⟩), List.flatMap_cons] at H1
 have hc : q.lc = (q.lc - 1) + 1 := by
  have := arr_cap H1
  rw [List.length_append, sp_len] at this; omega
 rw [hc] at H1
 exact arr_up hle (arr_tail H1)
set_option maxHeartbeats 1000000 in
set_option maxRecDepth 20000 in
theorem Delete_ok (db mb : Nat) (d : Dk) (l : Lx) (off : Nat) (hd : d.ok) (hl : l.ok d) (h1 : l.start ≤ (off : Int)) (hp : (off : Int) = l.next ∨ ∃ b ∈ l.all, b.base = (off : Int)) (h2 : (off : Int) ≤ l.next) (hr : (d.get (metaOf l.pre)).isSome = true ∨ d.fs.length < 256) (hs : d.used + 22 ≤ d.size) : Cn Tryz.prog 53 [.pointer (some ⟨l.lb, 0, none⟩), .int .i64 (off : Int)] LV [LG db l, blk db (d.cells mb) 74, mp nmv Fl.val mb d.fs] fun v G => ∃ q e, v = .int .i64 0 ∧ DelTo l d off (max l.high off).toNat q e ∧ G = [LG db q, blk db (e.cells mb) 74, mp nmv Fl.val mb e.fs] := by
 refine .enter Tryz.func53 rfl (by kernel_rfl) rfl fun R k => ?_
 have hst := hl.start
 have hhi := hl.high
 have hcn := hl.cur.1.next_le
 have hnn : l.next = l.cur.next := rfl
 refine .unpack (L := [blk l.lb (l.cells db) 57, arr 54 1 l.la l.lc (l.segs.flatMap sp), bag (SG db) l.segs]) .head ?_
 simp only [List.cons_append, List.nil_append]
 refine .goO fds 11 ?_
 refine .rd (.ld na3 rfl .head rfl) ?_
 refine .rd (.lt rfl rfl) ?_
 refine .alter (t := 11) (v' := .bool false) rfl (congrArg Value.bool (decide_eq_false (by omega))) ?_
 refine .go fds 3 ?_
 refine .on (t := 12) rfl rfl ?_
 refine .fn rfl rfl (.cons (.tail (.tail (.tail .head))) (.cons (.tail (.tail (.tail .head))) .nil)) ((Knows.blk .head).and ((Knows.arr (.tail .head)).and (Knows.allSG (.tail (.tail .head))))) (placed db mb d l (off : Int) hl hp) (fun v G1 hq => ?_)
 obtain ⟨rfl, rfl⟩ := hq
 simp only [List.cons_append, List.nil_append]
 refine .goO fds 13 ?_
 refine .rd (.ld na3 rfl (.tail (.tail .head)) rfl) ?_
 refine .rd (.move rfl) ?_
 refine .rd (.max2 rfl rfl rfl) ?_
 refine .alter (t := 25) (v' := .int .i64 ((max l.high off).toNat : Nat)) rfl (congrArg (Value.int .i64) (by omega)) ?_
 refine .fn rfl rfl (.cons (.tail (.tail .head)) (.cons .head (.cons .head .nil))) (Knows.pick (.tail (.tail .head)) k) (keep_ok l.lb db mb d (some ⟨l.cur.b, 0, none⟩) l.pre l.most l.start l.high l.la (l.ini.length + 1) l.lc off (max l.high off).toNat (by omega) (by omega) hd hl.pre hr hs) (fun v G1 hq => ?_)
 obtain ⟨rfl, rfl⟩ := hq
 simp only [List.cons_append, List.nil_append]
 refine .goR fds 7 ?_
 have hD : DelTo l d off (max l.high off).toNat ({ l with start := (off : Int), high := (((max l.high off).toNat : Nat) : Int) } : Lx) (d.put (metaOf l.pre) ⟨mt off (max l.high off).toNat, (mt off (max l.high off).toNat).length⟩) := .begin hl hd h1 (by omega) (by omega) (by omega) (by omega) hs
 refine .cast (X' := blk ({ l with start := (off : Int), high := (((max l.high off).toNat : Nat) : Int) } : Lx).lb (({ l with start := (off : Int), high := (((max l.high off).toNat : Nat) : Int) } : Lx).cells db) 57) (rfl) ?_
 refine .perm (.cons (.tail (.tail (.tail .head))) (.cons .head (.cons .head (.cons .head (.cons .head (.cons .head .nil)))))) ?_
 refine .cast (X' := arr 54 1 ({ l with start := (off : Int), high := (((max l.high off).toNat : Nat) : Int) } : Lx).la ({ l with start := (off : Int), high := (((max l.high off).toNat : Nat) : Int) } : Lx).lc (({ l with start := (off : Int), high := (((max l.high off).toNat : Nat) : Int) } : Lx).segs.flatMap sp)) (rfl) ?_
 refine .perm (.cons (.tail (.tail (.tail (.tail .head)))) (.cons .head (.cons .head (.cons .head (.cons .head (.cons .head .nil)))))) ?_
 refine .cast (X' := bag (SG db) ({ l with start := (off : Int), high := (((max l.high off).toNat : Nat) : Int) } : Lx).segs) (rfl) ?_
 refine .go fds 4 ?_
 refine .loop (σ := Lx × Dk) (fun ⟨q, e⟩ => DelTo l d off (max l.high off).toNat q e) (fun ⟨q, e⟩ => q.ini.length) (fun ⟨q, e⟩ => [(0, .pointer (some ⟨q.lb, 0, none⟩)), (1, .int .i64 (off : Nat))]) (fun ⟨q, e⟩ => [blk q.lb (q.cells db) 57, arr 54 1 q.la q.lc (q.segs.flatMap sp), bag (SG db) q.segs, blk db (e.cells mb) 74, mp nmv Fl.val mb e.fs, R]) (({ l with start := (off : Int), high := (((max l.high off).toNat : Nat) : Int) } : Lx), (d.put (metaOf l.pre) ⟨mt off (max l.high off).toNat, (mt off (max l.high off).toNat).length⟩)) hD (.cons rfl (.cons rfl .nil)) (.cons (.tail (.tail .head)) (.cons (.tail .head) (.cons .head (.cons .head (.cons .head (.cons .head .nil)))))) (fun s' hI ih => ?_)
 obtain ⟨q, e⟩ := s'
 dsimp only at hI ih ⊢
 have hD := hI
 have hql := hD.ok.len
 have hqs : q.segs.length = q.ini.length + 1 := by unfold Lx.segs; simp
 refine .goO fds 6 ?_
 refine .rd (.ld na40 rfl .head rfl) ?_
 refine .rd (.lenL rfl rfl Tryz.underlying55 rfl) ?_
 refine .go fds 2 ?_
 refine .split (t := 36) rfl (fun g6_6 => ?_) (fun g6_6 => ?_)
 ·
  replace g6_6 := of_decide_eq_true g6_6
  obtain ⟨x, r, hx⟩ : ∃ x r, q.ini = x :: r := by
   cases h : q.ini with
   | nil => rw [h] at g6_6; exact absurd g6_6 (by decide)
   | cons x r => exact ⟨x, r, rfl⟩
  have hini : (q.less none).ini = r := by unfold Lx.less; rw [hx]; rfl
  have hss : q.segs = x :: (r ++ [q.cur]) := by unfold Lx.segs; rw [hx]; rfl
  have hxin : x ∈ q.segs := by rw [hss]; exact .head _
  obtain ⟨hxok, hxnm, hxs, hxf⟩ := hD.ok.seg x hxin
  have hx0 : q.segs[0]? = some x := by rw [hss]; rfl
  have hxb0 := hxok.base0
  have hxb1 := hxok.base1
  refine .tell (φ := ∃ b o, q.la = some ⟨b, o, none⟩) ((Knows.arr (.tail .head)).mono fun _ h => RowAt.addr h (by rw [flat_length sp_len]; omega)) (fun hh => ?_)
  obtain ⟨b9, o9, h9⟩ := hh
  refine .tell (Knows.arrCap (.tail .head)) (fun hh => ?_)
  have hcap : q.ini.length + 1 ≤ q.lc := by rw [flat_length sp_len, hqs] at hh; omega
  clear hh
  have hlen1 : q.ini.length = r.length + 1 := by rw [hx]; rfl
  refine .go fds 3 ?_
  refine .on (t := 36) rfl rfl ?_
  refine .rd (.ld na40 rfl .head rfl) ?_
  refine .on (t := 36) rfl rfl ?_
  refine .rd (.indexAddr (b := b9) (o := o9) Tryz.underlying55 ts39 (by show some (Value.slice (q.la) _ _) = _; rw [h9]) rfl (by omega) (by omega)) ?_
  refine .on (t := 36) rfl rfl ?_
  refine .rd (.load na39 rfl (Knows.one (i := 0) (Knows.elem (f := sp) sp_len (by decide) ((Knows.arr (.tail .head)).mono fun _ h => h9 ▸ h) hx0) rfl)) ?_
  refine .on (t := 36) rfl rfl ?_
  refine .fn rfl rfl .nil ((Knows.allSG (.tail (.tail .head))).mono fun _ h => h x hxin) (Next_ok db x hxok) (fun v G1 hq => ?_)
  obtain ⟨rfl, rfl⟩ := hq
  simp only [List.nil_append]
  refine .goR fds 4 ?_
  refine .condP rfl (fun c6 => ?_) (fun c6 => ?_)
  ·
   have hle : x.next ≤ (off : Int) := c6
   refine .go fds 3 ?_
   refine .draws [3, 8, 10] [blk q.lb (q.cells db) 57, arr 54 1 q.la q.lc (q.segs.flatMap sp)] (by kernel_rfl) ?_
   refine .goD fds [0] ?_
   refine .goD fds [1] ?_
   refine .goD fds [2] ?_
   refine .rd 3 rfl rfl (by kernel_rfl) (by kernel_rfl) (by kernel_rfl) (.ld na24 rfl .head rfl) (.cons .head (.cons .head .nil)) ?_
   refine .goD fds [4] ?_
   refine .goD fds [5] ?_
   refine .goD fds [6] ?_
   refine .goD fds [7] ?_
   refine .rd 8 rfl rfl (by kernel_rfl) (by kernel_rfl) (by kernel_rfl) (.ld na40 rfl .head rfl) (.cons .head (.cons .head .nil)) ?_
   refine .rp 9 rfl (by kernel_rfl) (by kernel_rfl) (by kernel_rfl) (Reads.pure (.indexAddr (b := b9) (o := o9) Tryz.underlying55 ts39 (by show some (Value.slice (q.la) _ _) = _; rw [h9]) rfl (by omega) (by omega))) ?_
   refine .rd 10 rfl rfl (by kernel_rfl) (by kernel_rfl) (by kernel_rfl) (.load na39 rfl (Knows.one (i := 0) (Knows.elem (f := sp) sp_len (by decide) ((Knows.arr (.tail .head)).mono fun _ h => h9 ▸ h) hx0) rfl)) (.cons .head (.cons .head .nil)) ?_
   refine .ef 11 (by kernel_rfl) rfl (.fn rfl rfl .nil ((Knows.allSG (.tail (.tail .head))).mono fun _ h => h x hxin) (Base_ok db x)) ?_
   rintro v _ ⟨G1, hq, rfl⟩
   obtain ⟨rfl, rfl⟩ := hq
   simp only [List.nil_append]
   refine ⟨.inr ⟨_, (.cons .head (.cons .head .nil))⟩, ?_⟩
   refine .alter (t := 58) (v' := .int .i64 (x.base.toNat : Nat)) rfl (congrArg (Value.int .i64) (by omega)) ?_
   refine .ef 12 (by kernel_rfl) rfl (.fn rfl rfl .nil ((Knows.blk .head).and (Knows.pick (.tail (.tail (.tail (.tail (.tail .head))))) k)) (name_ok q.lb db (some ⟨q.cur.b, 0, none⟩) q.pre q.most q.start q.high q.la (q.ini.length + 1) q.lc x.base.toNat (by omega) hD.ok.pre.len)) ?_
   rintro v _ ⟨G1, hq, rfl⟩
   obtain ⟨rfl, rfl⟩ := hq
   simp only [List.nil_append]
   refine ⟨.inr ⟨_, (.cons .head (.cons .head .nil))⟩, ?_⟩
   refine .alter (t := 59) (v' := .string (str x.nm)) rfl (by rw [hxnm]; rfl) ?_
   refine .ef 13 (by kernel_rfl) rfl (.fn rfl rfl (.cons (.tail (.tail (.tail .head))) (.cons (.tail (.tail (.tail .head))) .nil)) (fun _ _ _ => trivial) (Remove_ok db mb e x.nm hD.dok hxs)) ?_
   rintro v _ ⟨G1, hq, rfl⟩
   obtain ⟨rfl, rfl⟩ := hq
   simp only [List.cons_append, List.nil_append]
   refine ⟨.inl (by kernel_rfl), ?_⟩
   refine .done (by kernel_rfl) ?_
   refine .goO fds 5 ?_
   refine .rd (.ld na40 rfl (.tail (.tail .head)) rfl) ?_
   refine .rd (.slice (l := 1) (h := q.ini.length + 1) (m := q.lc) Tryz.underlying55 ts39 rfl rfl ⟨rfl, rfl⟩ ⟨_, rfl⟩ (by omega) (by omega) (by omega)) ?_
   refine .alter (t := 66) (v' := .slice (some ⟨b9, o9 + 1, none⟩) q.ini.length (q.lc - 1)) rfl (by rw [if_neg (by omega), h9]; rfl) ?_
   refine .go fds 2 ?_
   refine .ef0 (.store ts40 rfl rfl (.tail (.tail .head)) rfl (Nat.le_of_ble_eq_true rfl)) ?_
   rintro _ _ rfl
   refine .nil ?_
   refine .takeBag (f := SG db) (x := x) (m := (q.less (some ⟨b9, o9 + 1, none⟩)).segs) (.tail (.tail (.tail (.tail .head)))) (by rw [less_segs hx (some ⟨b9, o9 + 1, none⟩)]) ?_
   refine .perm (.cons (.tail (.tail .head)) (.cons .head (.cons .head (.cons .head (.cons .head (.cons .head (.cons .head .nil))))))) ?_
   refine .cast (X' := blk (q.less (some ⟨b9, o9 + 1, none⟩)).lb ((q.less (some ⟨b9, o9 + 1, none⟩)).cells db) 57) (congrArg (fun z => blk q.lb z 57) (less_cells (db := db) (la := some ⟨b9, o9 + 1, none⟩) hx)) ?_
   refine .close (X := arr 54 1 (q.less (some ⟨b9, o9 + 1, none⟩)).la (q.less (some ⟨b9, o9 + 1, none⟩)).lc ((q.less (some ⟨b9, o9 + 1, none⟩)).segs.flatMap sp)) (.cons (.tail (.tail (.tail (.tail (.tail .head))))) .nil) (fun h H => less_arr hx h9 H) ?_
   refine .inBlock ?_
   exact (ih (q.less (some ⟨b9, o9 + 1, none⟩), e.del x.nm) (hD.step hx hle _) (by show (q.ini.tail).length < q.ini.length; rw [hx]; exact Nat.lt_succ_self _)).to (.cons rfl (.cons rfl .nil)) (.cons (.tail .head) (.cons .head (.cons (.tail .head) (.cons (.tail .head) (.cons (.tail .head) (.cons (.tail .head) .nil))))))
  ·
   refine .go fds 5 ?_
   refine .pack (L := [blk q.lb (q.cells db) 57, arr 54 1 q.la q.lc (q.segs.flatMap sp), bag (SG db) q.segs]) (.cons .head (.cons .head (.cons .head .nil))) ?_
   refine .retP Tryz.func53 (.cons (.tmp rfl) .nil) (.cons .head (.cons .head (.cons .head (.cons .head .nil)))) ?_
   exact ⟨[_, _, _], ⟨q, e, rfl, hD, rfl⟩, rfl⟩
 ·
  replace g6_6 := of_decide_eq_false g6_6
  refine .goR fds 17 ?_
  refine .pack (L := [blk q.lb (q.cells db) 57, arr 54 1 q.la q.lc (q.segs.flatMap sp), bag (SG db) q.segs]) (.cons .head (.cons .head (.cons .head .nil))) ?_
  refine .retP Tryz.func53 (.cons (.tmp rfl) .nil) (.cons .head (.cons .head (.cons .head (.cons .head .nil)))) ?_
  exact ⟨[_, _, _], ⟨q, e, rfl, hD, rfl⟩, rfl⟩
end Go.Proofs.YtoglbebcdjdkiaaGreatDoor
namespace Go.Proofs.YtoglbebcdjdkiaaGreatDoor
open Go Go.Sp
set_option linter.unusedVariables false
namespace log13
theorem na3 : NotAgg Tryz.prog 3 := ⟨_, Tryz.underlying3, trivial⟩
theorem na39 : NotAgg Tryz.prog 54 := ⟨_, Tryz.underlying54, trivial⟩
theorem na40 : NotAgg Tryz.prog 55 := ⟨_, Tryz.underlying55, trivial⟩
theorem ts39 : TS Tryz.prog 54 1 := .of (by kernel_rfl)
theorem na24 : NotAgg Tryz.prog 24 := ⟨_, Tryz.underlying24, trivial⟩
theorem ts40 : TS Tryz.prog 55 1 := .of (by kernel_rfl)
theorem ts3 : TS Tryz.prog 3 1 := .of (by kernel_rfl)
end log13
open log13
theorem CutI.base_le {l q : Lx} {d e : Dk} {off : Int} (h : CutI l d off q e) (hc : q.ini = [] ∨ q.cur.base < off) (h1 : l.start ≤ off) (h2 : baseOf l ≤ l.start) : q.cur.base ≤ off := by
 rcases hc with hc | hc
 ·
  have : baseOf q = q.cur.base := by unfold baseOf Lx.segs; rw [hc]; rfl
  have := h.base
  omega
 ·
  omega
theorem chop_cells {l q : Lx} {d e : Dk} {off : Int} (h : CutI l d off q e) (hqs : q.segs.length = q.ini.length + 1) {z db : Nat} {sm : List Nat} {n : Int} : blk l.lb (lcells (some ⟨q.cur.b, 0, none⟩) db l.pre l.most l.start n l.la q.segs.length l.lc) 57 = blk (l.chop q z sm n).lb ((l.chop q z sm n).cells db) 57 := by
 rw [hqs, ← h.lb, ← h.pre, ← h.most, ← h.start]; rfl
theorem chop_arr {l q : Lx} {t : List Sx} (ht : l.segs = q.segs ++ t) {z : Nat} {sm : List Nat} {n : Int} {h : Hp} (H : sat [arr 54 1 l.la l.lc (l.segs.flatMap sp)] h) : arr 54 1 l.la l.lc ((l.chop q z sm n).segs.flatMap sp) h := by
 obtain ⟨h1, _, _, hle, _, H1, _⟩ := H
 have e : (l.chop q z sm n).segs.flatMap sp = q.segs.flatMap sp := by
  unfold Lx.segs Lx.chop; rw [List.flatMap_append, List.flatMap_append]; rfl
 rw [e]
 rw [ht, List.flatMap_append] at H1
 exact arr_up hle (arr.shrink H1)
set_option maxHeartbeats 1000000 in
set_option maxRecDepth 20000 in
theorem LCut_ok (db mb : Nat) (d : Dk) (l : Lx) (off : Int) (hd : d.ok) (hl : l.ok d) (h1 : l.start ≤ off) (h2 : off ≤ l.next) (hge : l.start ≤ nextOf (baseOf l) (cutN off l.all)) : Cn Tryz.prog 50 [.pointer (some ⟨l.lb, 0, none⟩), .int .i64 off] LV [LG db l, blk db (d.cells mb) 74, mp nmv Fl.val mb d.fs] fun v G => ∃ q e, v = .int .i64 0 ∧ CutTo l d off q e ∧ G = [LG db q, blk db (e.cells mb) 74, mp nmv Fl.val mb e.fs] := by
 refine .enter Tryz.func50 rfl (by kernel_rfl) rfl fun R k => ?_
 have hst := hl.start
 have hhi := hl.high
 have hcn := hl.cur.1.next_le
 have hnn : l.next = l.cur.next := rfl
 have hll := hl.len
 have hls : l.segs.length = l.ini.length + 1 := by unfold Lx.segs; simp
 have hD0 : CutI l d off { l with high := l.start } d := .begin hl hd h2
 refine .unpack (L := [blk l.lb (l.cells db) 57, arr 54 1 l.la l.lc (l.segs.flatMap sp), bag (SG db) l.segs]) .head ?_
 simp only [List.cons_append, List.nil_append]
 refine .perm (.cons (.tail (.tail .head)) (.cons .head (.cons .head (.cons .head (.cons .head (.cons .head .nil)))))) ?_
 refine .cast (X' := bag (SG db) ({ l with high := l.start } : Lx).segs) (rfl) ?_
 refine .goO fds 11 ?_
 refine .rd (.ld na3 rfl (.tail .head) rfl) ?_
 refine .rd (.lt rfl rfl) ?_
 refine .alter (t := 11) (v' := .bool false) rfl (congrArg Value.bool (decide_eq_false (by omega))) ?_
 refine .go fds 5 ?_
 refine .on (t := 12) rfl rfl ?_
 refine .rd (.ld na39 rfl (.tail .head) rfl) ?_
 refine .on (t := 12) rfl rfl ?_
 refine .fn rfl rfl .nil ((Knows.allSG .head).mono fun _ h => h l.cur l.cur_in) (Next_ok db l.cur hl.cur.1) (fun v G1 hq => ?_)
 obtain ⟨rfl, rfl⟩ := hq
 simp only [List.nil_append]
 refine .go fds 1 ?_
 refine .alter (t := 19) (v' := .bool false) rfl (congrArg Value.bool (decide_eq_false (by omega))) ?_
 refine .goO fds 9 ?_
 refine .rd (.ld na40 rfl (.tail .head) rfl) ?_
 refine .rd (.lenL rfl rfl Tryz.underlying55 rfl) ?_
 refine .goR fds 2 ?_
 refine .alter (t := 5) (v' := .int .i64 (({ l with high := l.start } : Lx).segs.length : Nat)) rfl (by rw [← hls]; rfl) ?_
 refine .go fds 2 ?_
 refine .loop (σ := Lx × Dk) (fun ⟨q, e⟩ => CutI l d off q e) (fun ⟨q, e⟩ => q.ini.length) (fun ⟨q, e⟩ => [(0, .pointer (some ⟨l.lb, 0, none⟩)), (1, .int .i64 off), (5, .int .i64 (q.segs.length : Nat))]) (fun ⟨q, e⟩ => [blk l.lb (l.cells db) 57, arr 54 1 l.la l.lc (l.segs.flatMap sp), bag (SG db) q.segs, blk db (e.cells mb) 74, mp nmv Fl.val mb e.fs, R]) ({ l with high := l.start }, d) hD0 (.cons rfl (.cons rfl (.cons rfl .nil))) (.cons (.tail .head) (.cons (.tail .head) (.cons .head (.cons .head (.cons .head (.cons .head .nil)))))) (fun s' hI ih => ?_)
 obtain ⟨q, e⟩ := s'
 dsimp only at hI ih ⊢
 have hD := hI
 obtain ⟨t, ht⟩ := hD.seg
 have hqs : q.segs.length = q.ini.length + 1 := by unfold Lx.segs; simp
 have hql : q.segs.length ≤ l.segs.length := by rw [ht, List.length_append]; omega
 have hqc : l.segs[q.segs.length - 1]? = some q.cur := by
  rw [ht, List.getElem?_append_left (by omega)]; unfold Lx.segs; simp
 obtain ⟨hcok, hcnm, hcs, hcf⟩ := hD.ok.cur
 have hcb0 := hcok.base0
 have hcb1 := hcok.base1
 refine .go fds 2 ?_
 refine .tell (φ := ∃ b o, l.la = some ⟨b, o, none⟩) ((Knows.arr (.tail .head)).mono fun _ h => RowAt.addr h (by rw [flat_length sp_len]; omega)) (fun hh => ?_)
 obtain ⟨b9, o9, h9⟩ := hh
 refine .goO fds 4 ?_
 refine .split (t := 28) rfl (fun g4_2 => ?_) (fun g4_2 => ?_)
 ·
  replace g4_2 := of_decide_eq_true g4_2
  obtain ⟨r, y, hi⟩ : ∃ r y, q.ini = r ++ [y] := ⟨q.ini.dropLast, q.ini.getLast (fun h => by rw [h] at hqs; simp at hqs; omega), (List.dropLast_concat_getLast _).symm⟩
  have hql2 : q.segs.length - 1 = (q.pop r y).segs.length := by rw [pop_segs hi, List.length_append]; rfl
  refine .go fds 3 ?_
  refine .on (t := 28) rfl rfl ?_
  refine .rd (.ld na40 rfl .head rfl) ?_
  refine .go fds 1 ?_
  refine .on (t := 28) rfl rfl ?_
  refine .rd (.sub rfl rfl (by omega) (by omega)) ?_
  refine .alter (t := 34) (v' := .int .i64 ((q.segs.length - 1 : Nat) : Int)) rfl (congrArg (Value.int .i64) (by omega)) ?_
  refine .on (t := 28) rfl rfl ?_
  refine .rd (.indexAddr (b := b9) (o := o9) (j := ((q.segs.length - 1 : Nat) : Int)) Tryz.underlying55 ts39 (by show some (Value.slice (l.la) _ _) = _; rw [h9]) rfl (by omega) (by omega)) ?_
  refine .on (t := 28) rfl rfl ?_
  refine .rd (.load na39 rfl (Knows.one (i := 0) (Knows.elem (f := sp) sp_len (by decide) ((Knows.arr (.tail .head)).mono fun _ h => h9 ▸ h) hqc) rfl)) ?_
  refine .on (t := 28) rfl rfl ?_
  refine .fn rfl rfl .nil ((Knows.allSG (.tail (.tail .head))).mono fun _ h => h q.cur q.cur_in) (Base_ok db q.cur) (fun v G1 hq => ?_)
  obtain ⟨rfl, rfl⟩ := hq
  simp only [List.nil_append]
  refine .goR fds 4 ?_
  refine .condP rfl (fun c4 => ?_) (fun c4 => ?_)
  ·
   have hoc : off ≤ q.cur.base := c4
   refine .go fds 3 ?_
   refine .draws [3, 8, 12] [blk l.lb (l.cells db) 57, arr 54 1 l.la l.lc (l.segs.flatMap sp)] (by kernel_rfl) ?_
   refine .goD fds [0] ?_
   refine .goD fds [1] ?_
   refine .goD fds [2] ?_
   refine .rd 3 rfl rfl (by kernel_rfl) (by kernel_rfl) (by kernel_rfl) (.ld na24 rfl .head rfl) (.cons .head (.cons .head .nil)) ?_
   refine .goD fds [4] ?_
   refine .goD fds [5] ?_
   refine .goD fds [6] ?_
   refine .goD fds [7] ?_
   refine .rd 8 rfl rfl (by kernel_rfl) (by kernel_rfl) (by kernel_rfl) (.ld na40 rfl .head rfl) (.cons .head (.cons .head .nil)) ?_
   refine .goD fds [9] ?_
   refine .rp 10 rfl (by kernel_rfl) (by kernel_rfl) (by kernel_rfl) (Reads.pure (.sub rfl rfl (by omega) (by omega))) ?_
   refine .alter (t := 53) (v' := .int .i64 ((q.segs.length - 1 : Nat) : Int)) rfl (congrArg (Value.int .i64) (by omega)) ?_
   refine .rp 11 rfl (by kernel_rfl) (by kernel_rfl) (by kernel_rfl) (Reads.pure (.indexAddr (b := b9) (o := o9) (j := ((q.segs.length - 1 : Nat) : Int)) Tryz.underlying55 ts39 (by show some (Value.slice (l.la) _ _) = _; rw [h9]) rfl (by omega) (by omega))) ?_
   refine .rd 12 rfl rfl (by kernel_rfl) (by kernel_rfl) (by kernel_rfl) (.load na39 rfl (Knows.one (i := 0) (Knows.elem (f := sp) sp_len (by decide) ((Knows.arr (.tail .head)).mono fun _ h => h9 ▸ h) hqc) rfl)) (.cons .head (.cons .head .nil)) ?_
   refine .ef 13 (by kernel_rfl) rfl (.fn rfl rfl .nil ((Knows.allSG (.tail (.tail .head))).mono fun _ h => h q.cur q.cur_in) (Base_ok db q.cur)) ?_
   rintro v _ ⟨G1, hq, rfl⟩
   obtain ⟨rfl, rfl⟩ := hq
   simp only [List.nil_append]
   refine ⟨.inr ⟨_, (.cons .head (.cons .head .nil))⟩, ?_⟩
   refine .alter (t := 56) (v' := .int .i64 (q.cur.base.toNat : Nat)) rfl (congrArg (Value.int .i64) (by omega)) ?_
   refine .ef 14 (by kernel_rfl) rfl (.fn rfl rfl .nil ((Knows.blk .head).and (Knows.pick (.tail (.tail (.tail (.tail (.tail .head))))) k)) (name_ok l.lb db (some ⟨l.cur.b, 0, none⟩) l.pre l.most l.start l.high l.la (l.ini.length + 1) l.lc q.cur.base.toNat (by omega) hl.pre.len)) ?_
   rintro v _ ⟨G1, hq, rfl⟩
   obtain ⟨rfl, rfl⟩ := hq
   simp only [List.nil_append]
   refine ⟨.inr ⟨_, (.cons .head (.cons .head .nil))⟩, ?_⟩
   refine .alter (t := 57) (v' := .string (str q.cur.nm)) rfl (by rw [hcnm, hD.pre]; rfl) ?_
   refine .ef 15 (by kernel_rfl) rfl (.fn rfl rfl (.cons (.tail (.tail (.tail .head))) (.cons (.tail (.tail (.tail .head))) .nil)) (fun _ _ _ => trivial) (Remove_ok db mb e q.cur.nm hD.dok hcs)) ?_
   rintro v _ ⟨G1, hq, rfl⟩
   obtain ⟨rfl, rfl⟩ := hq
   simp only [List.cons_append, List.nil_append]
   refine ⟨.inl (by kernel_rfl), ?_⟩
   refine .done (by kernel_rfl) ?_
   refine .goO fds 3 ?_
   refine .rd (.sub rfl rfl (by omega) (by omega)) ?_
   refine .alter (t := 42) (v' := .int .i64 ((q.segs.length - 1 : Nat) : Int)) rfl (congrArg (Value.int .i64) (by omega)) ?_
   refine .goR fds 2 ?_
   refine .alter (t := 5) (v' := .int .i64 ((q.pop r y).segs.length : Nat)) rfl (by rw [hql2]) ?_
   refine .takeBag (f := SG db) (x := q.cur) (m := (q.pop r y).segs) (.tail (.tail (.tail (.tail .head)))) (by rw [pop_segs hi]; exact List.perm_append_comm) ?_
   exact (ih (q.pop r y, e.del q.cur.nm) (hD.step hi hoc h1) (by show r.length < q.ini.length; rw [hi, List.length_append]; exact Nat.lt_succ_self _)).to (.cons rfl (.cons rfl (.cons rfl .nil))) (.cons (.tail (.tail (.tail (.tail .head)))) (.cons (.tail (.tail (.tail (.tail .head)))) (.cons (.tail .head) (.cons (.tail .head) (.cons (.tail .head) (.cons (.tail .head) .nil))))))
  ·
   have hc : q.ini = [] ∨ q.cur.base < off := .inr (by omega)
   refine .go fds 2 ?_
   refine .tell (φ := ∃ b o, l.la = some ⟨b, o, none⟩) ((Knows.arr (.tail .head)).mono fun _ h => RowAt.addr h (by rw [flat_length sp_len]; omega)) (fun hh => ?_)
   obtain ⟨b9, o9, h9⟩ := hh
   refine .tell (Knows.arrCap (.tail .head)) (fun hh => ?_)
   have hcap : l.segs.length ≤ l.lc := by rw [flat_length sp_len] at hh; omega
   clear hh
   refine .goO fds 5 ?_
   refine .rd (.ld na40 rfl .head rfl) ?_
   refine .rd (.move rfl) ?_
   refine .rd (.slice (l := 0) (h := q.segs.length) (m := l.lc) Tryz.underlying55 ts39 rfl rfl ⟨_, rfl⟩ rfl (by omega) (by omega) (by omega)) ?_
   refine .alter (t := 65) (v' := .slice l.la q.segs.length l.lc) rfl (by rw [h9]; simp [Addr_add]) ?_
   refine .go fds 2 ?_
   refine .ef0 (.store ts40 rfl rfl .head rfl (Nat.le_of_ble_eq_true rfl)) ?_
   rintro _ _ rfl
   refine .nil ?_
   refine .cast (X' := blk l.lb (lcells (some ⟨l.cur.b, 0, none⟩) db l.pre l.most l.start l.high l.la q.segs.length l.lc) 57) (rfl) ?_
   refine .goO fds 6 ?_
   refine .rd (.ld na40 rfl .head rfl) ?_
   refine .rd (.move rfl) ?_
   refine .rd (.sub rfl rfl (by omega) (by omega)) ?_
   refine .alter (t := 74) (v' := .int .i64 ((q.segs.length - 1 : Nat) : Int)) rfl (congrArg (Value.int .i64) (by omega)) ?_
   refine .rd (.indexAddr (b := b9) (o := o9) (j := ((q.segs.length - 1 : Nat) : Int)) Tryz.underlying55 ts39 (by show some (Value.slice (l.la) _ _) = _; rw [h9]) rfl (by omega) (by omega)) ?_
   refine .rd (.load na39 rfl (Knows.one (i := 0) (Knows.elem (f := sp) sp_len (by decide) ((Knows.arr (.tail .head)).mono fun _ h => h9 ▸ h) hqc) rfl)) ?_
   refine .go fds 2 ?_
   refine .ef0 (.store ts39 rfl rfl .head rfl (Nat.le_of_ble_eq_true rfl)) ?_
   rintro _ _ rfl
   refine .nil ?_
   refine .cast (X' := blk l.lb (lcells (some ⟨q.cur.b, 0, none⟩) db l.pre l.most l.start l.high l.la q.segs.length l.lc) 57) (rfl) ?_
   refine .takeBag (f := SG db) (x := q.cur) (m := q.ini) (.tail (.tail .head)) (segs_perm q) ?_
   refine .unpack (L := [blk q.cur.b (q.cur.cells db) 110, arr 112 4 q.cur.aa q.cur.ac q.cur.rows, arr 3 1 q.cur.ia q.cur.ic (q.cur.sm.flatMap icN)]) .head ?_
   simp only [List.cons_append, List.nil_append]
   refine .goO fds 5 ?_
   refine .rd (.ld na39 rfl (.tail (.tail (.tail (.tail .head)))) rfl) ?_
   refine .rd (.move rfl) ?_
   refine .fn rfl rfl (.cons (.tail (.tail (.tail (.tail (.tail (.tail .head)))))) (.cons (.tail (.tail (.tail (.tail (.tail (.tail .head)))))) (.cons .head (.cons .head (.cons .head .nil))))) (fun _ _ _ => trivial) (SegCut_ok db mb e q.cur off hD.dok hcok hcs hcf (hD.base_le hc h1 hst.2.1) (by omega)) (fun v G1 hq => ?_)
   obtain ⟨rfl, z, d', sm, hz, hz1, hz2, hix, hd', rfl⟩ := hq
   simp only [List.cons_append, List.nil_append]
   refine .nil ?_
   have hT : CutTo l d off (l.chop q z sm (min l.high (nextOf q.cur.base (q.cur.bs.take z)))) d' := hD.last hc hz hz1 hz2 hix hd' hge hhi.1 _ rfl
   have hcok2 : (Sx.mk q.cur.b q.cur.nm q.cur.base (q.cur.bs.take z) sm q.cur.aa q.cur.ac q.cur.ia q.cur.ic).ok := (hT.ok.seg _ (Lx.cur_in _)).1
   have hnx2 : (Sx.mk q.cur.b q.cur.nm q.cur.base (q.cur.bs.take z) sm q.cur.aa q.cur.ac q.cur.ia q.cur.ic).next = (nextOf q.cur.base (q.cur.bs.take z)) := rfl
   have hnx3 : l.start ≤ (nextOf q.cur.base (q.cur.bs.take z)) := by have h5 := hT.ok.start.2.2; have h6 := hT.start; have h7 : (l.chop q z sm (min l.high (nextOf q.cur.base (q.cur.bs.take z)))).next = (nextOf q.cur.base (q.cur.bs.take z)) := rfl; omega
   refine .go fds 2 ?_
   refine .draws [3, 8] [blk l.lb (lcells (some ⟨q.cur.b, 0, none⟩) db l.pre l.most l.start l.high l.la q.segs.length l.lc) 57] (by kernel_rfl) ?_
   refine .goD fds [0] ?_
   refine .goD fds [1] ?_
   refine .goD fds [2] ?_
   refine .rd 3 rfl rfl (by kernel_rfl) (by kernel_rfl) (by kernel_rfl) (.ld na39 rfl .head rfl) (.cons (.tail (.tail (.tail (.tail (.tail (.tail .head)))))) .nil) ?_
   refine .goD fds [5] ?_
   refine .goD fds [6] ?_
   refine .goD fds [7] ?_
   refine .rd 8 rfl rfl (by kernel_rfl) (by kernel_rfl) (by kernel_rfl) (.ld na3 rfl .head rfl) (.cons (.tail (.tail (.tail (.tail (.tail (.tail .head)))))) .nil) ?_
   refine .ef 4 (by kernel_rfl) rfl (.fn rfl rfl .nil ((Knows.blk (.tail (.tail .head))).and ((Knows.arr (.tail (.tail (.tail .head)))).and (Knows.arr (.tail (.tail (.tail (.tail .head))))))) (Next_ok db (Sx.mk q.cur.b q.cur.nm q.cur.base (q.cur.bs.take z) sm q.cur.aa q.cur.ac q.cur.ia q.cur.ic) hcok2)) ?_
   rintro v _ ⟨G1, hq, rfl⟩
   obtain ⟨rfl, rfl⟩ := hq
   simp only [List.nil_append]
   refine ⟨.inr ⟨_, (.cons (.tail (.tail (.tail (.tail (.tail (.tail .head)))))) .nil)⟩, ?_⟩
   refine .alter (t := 89) (v' := .int .i64 (nextOf q.cur.base (q.cur.bs.take z))) rfl (rfl) ?_
   refine .goD fds [9] ?_
   refine .alter (t := 94) (v' := .bool false) rfl (congrArg Value.bool (decide_eq_false (by show ¬ (nextOf q.cur.base (q.cur.bs.take z)) < l.start; omega))) ?_
   refine .done (by kernel_rfl) ?_
   refine .go fds 3 ?_
   refine .draws [4, 8] [blk l.lb (lcells (some ⟨q.cur.b, 0, none⟩) db l.pre l.most l.start l.high l.la q.segs.length l.lc) 57] (by kernel_rfl) ?_
   refine .goD fds [0] ?_
   refine .goD fds [1] ?_
   refine .goD fds [2] ?_
   refine .goD fds [3] ?_
   refine .rd 4 rfl rfl (by kernel_rfl) (by kernel_rfl) (by kernel_rfl) (.ld na3 rfl .head rfl) (.cons (.tail (.tail (.tail (.tail (.tail (.tail .head)))))) .nil) ?_
   refine .goD fds [5] ?_
   refine .goD fds [6] ?_
   refine .goD fds [7] ?_
   refine .rd 8 rfl rfl (by kernel_rfl) (by kernel_rfl) (by kernel_rfl) (.ld na39 rfl .head rfl) (.cons (.tail (.tail (.tail (.tail (.tail (.tail .head)))))) .nil) ?_
   refine .ef 9 (by kernel_rfl) rfl (.fn rfl rfl .nil ((Knows.blk (.tail (.tail .head))).and ((Knows.arr (.tail (.tail (.tail .head)))).and (Knows.arr (.tail (.tail (.tail (.tail .head))))))) (Next_ok db (Sx.mk q.cur.b q.cur.nm q.cur.base (q.cur.bs.take z) sm q.cur.aa q.cur.ac q.cur.ia q.cur.ic) hcok2)) ?_
   rintro v _ ⟨G1, hq, rfl⟩
   obtain ⟨rfl, rfl⟩ := hq
   simp only [List.nil_append]
   refine ⟨.inr ⟨_, (.cons (.tail (.tail (.tail (.tail (.tail (.tail .head)))))) .nil)⟩, ?_⟩
   refine .alter (t := 110) (v' := .int .i64 (nextOf q.cur.base (q.cur.bs.take z))) rfl (rfl) ?_
   refine .rp 10 rfl (by kernel_rfl) (by kernel_rfl) (by kernel_rfl) (Reads.pure (.min2 rfl rfl rfl)) ?_
   refine .alter (t := 111) (v' := .int .i64 (min l.high (nextOf q.cur.base (q.cur.bs.take z)))) rfl (congrArg (Value.int .i64) (by omega)) ?_
   refine .goD fds [11] ?_
   refine .goD fds [12] ?_
   refine .ef0 13 (by kernel_rfl) rfl (.store ts3 rfl rfl (.tail (.tail (.tail (.tail (.tail (.tail .head)))))) rfl (Nat.le_of_ble_eq_true rfl)) ?_
   rintro _ _ rfl
   refine ⟨.inl (by kernel_rfl), ?_⟩
   refine .done (by kernel_rfl) ?_
   refine .go fds 4 ?_
   refine .cast (X' := blk (l.chop q z sm (min l.high (nextOf q.cur.base (q.cur.bs.take z)))).lb ((l.chop q z sm (min l.high (nextOf q.cur.base (q.cur.bs.take z)))).cells db) 57) ((chop_cells hD hqs)) ?_
   refine .pack (L := [blk q.cur.b ((Sx.mk q.cur.b q.cur.nm q.cur.base (q.cur.bs.take z) sm q.cur.aa q.cur.ac q.cur.ia q.cur.ic).cells db) 110, arr 112 4 q.cur.aa q.cur.ac (Sx.mk q.cur.b q.cur.nm q.cur.base (q.cur.bs.take z) sm q.cur.aa q.cur.ac q.cur.ia q.cur.ic).rows, arr 3 1 q.cur.ia q.cur.ic (sm.flatMap icN)]) (.cons (.tail (.tail (.tail .head))) (.cons (.tail (.tail (.tail .head))) (.cons (.tail (.tail (.tail .head))) .nil))) ?_
   refine .close (X := bag (SG db) (l.chop q z sm (min l.high (nextOf q.cur.base (q.cur.bs.take z)))).segs) (.cons .head (.cons (.tail (.tail (.tail .head))) .nil)) (fun h H => put_segs (ini := q.ini) (s := (l.chop q z sm (min l.high (nextOf q.cur.base (q.cur.bs.take z)))).cur) H) ?_
   refine .close (X := arr 54 1 l.la l.lc ((l.chop q z sm (min l.high (nextOf q.cur.base (q.cur.bs.take z)))).segs.flatMap sp)) (.cons (.tail (.tail (.tail (.tail .head)))) .nil) (fun h H => chop_arr ht H) ?_
   refine .pack (L := [blk (l.chop q z sm (min l.high (nextOf q.cur.base (q.cur.bs.take z)))).lb ((l.chop q z sm (min l.high (nextOf q.cur.base (q.cur.bs.take z)))).cells db) 57, arr 54 1 l.la l.lc ((l.chop q z sm (min l.high (nextOf q.cur.base (q.cur.bs.take z)))).segs.flatMap sp), bag (SG db) (l.chop q z sm (min l.high (nextOf q.cur.base (q.cur.bs.take z)))).segs]) (.cons (.tail (.tail .head)) (.cons .head (.cons .head .nil))) ?_
   refine .retP Tryz.func50 (.cons (.tmp rfl) .nil) (.cons .head (.cons .head (.cons .head (.cons .head .nil)))) ?_
   exact ⟨[_, _, _], ⟨_, _, rfl, hT, rfl⟩, rfl⟩
 ·
  replace g4_2 := of_decide_eq_false g4_2
  have hc : q.ini = [] ∨ q.cur.base < off := .inl (List.eq_nil_of_length_eq_zero (by omega))
  refine .goR fds 16 ?_
  refine .tell (φ := ∃ b o, l.la = some ⟨b, o, none⟩) ((Knows.arr (.tail .head)).mono fun _ h => RowAt.addr h (by rw [flat_length sp_len]; omega)) (fun hh => ?_)
  obtain ⟨b9, o9, h9⟩ := hh
  refine .tell (Knows.arrCap (.tail .head)) (fun hh => ?_)
  have hcap : l.segs.length ≤ l.lc := by rw [flat_length sp_len] at hh; omega
  clear hh
  refine .goO fds 5 ?_
  refine .rd (.ld na40 rfl .head rfl) ?_
  refine .rd (.move rfl) ?_
  refine .rd (.slice (l := 0) (h := q.segs.length) (m := l.lc) Tryz.underlying55 ts39 rfl rfl ⟨_, rfl⟩ rfl (by omega) (by omega) (by omega)) ?_
  refine .alter (t := 65) (v' := .slice l.la q.segs.length l.lc) rfl (by rw [h9]; simp [Addr_add]) ?_
  refine .go fds 2 ?_
  refine .ef0 (.store ts40 rfl rfl .head rfl (Nat.le_of_ble_eq_true rfl)) ?_
  rintro _ _ rfl
  refine .nil ?_
  refine .cast (X' := blk l.lb (lcells (some ⟨l.cur.b, 0, none⟩) db l.pre l.most l.start l.high l.la q.segs.length l.lc) 57) (rfl) ?_
  refine .goO fds 6 ?_
  refine .rd (.ld na40 rfl .head rfl) ?_
  refine .rd (.move rfl) ?_
  refine .rd (.sub rfl rfl (by omega) (by omega)) ?_
  refine .alter (t := 74) (v' := .int .i64 ((q.segs.length - 1 : Nat) : Int)) rfl (congrArg (Value.int .i64) (by omega)) ?_
  refine .rd (.indexAddr (b := b9) (o := o9) (j := ((q.segs.length - 1 : Nat) : Int)) Tryz.underlying55 ts39 (by show some (Value.slice (l.la) _ _) = _; rw [h9]) rfl (by omega) (by omega)) ?_
  refine .rd (.load na39 rfl (Knows.one (i := 0) (Knows.elem (f := sp) sp_len (by decide) ((Knows.arr (.tail .head)).mono fun _ h => h9 ▸ h) hqc) rfl)) ?_
  refine .go fds 2 ?_
  refine .ef0 (.store ts39 rfl rfl .head rfl (Nat.le_of_ble_eq_true rfl)) ?_
  rintro _ _ rfl
  refine .nil ?_
  refine .cast (X' := blk l.lb (lcells (some ⟨q.cur.b, 0, none⟩) db l.pre l.most l.start l.high l.la q.segs.length l.lc) 57) (rfl) ?_
  refine .takeBag (f := SG db) (x := q.cur) (m := q.ini) (.tail (.tail .head)) (segs_perm q) ?_
  refine .unpack (L := [blk q.cur.b (q.cur.cells db) 110, arr 112 4 q.cur.aa q.cur.ac q.cur.rows, arr 3 1 q.cur.ia q.cur.ic (q.cur.sm.flatMap icN)]) .head ?_
  simp only [List.cons_append, List.nil_append]
  refine .goO fds 5 ?_
  refine .rd (.ld na39 rfl (.tail (.tail (.tail (.tail .head)))) rfl) ?_
  refine .rd (.move rfl) ?_
  refine .fn rfl rfl (.cons (.tail (.tail (.tail (.tail (.tail (.tail .head)))))) (.cons (.tail (.tail (.tail (.tail (.tail (.tail .head)))))) (.cons .head (.cons .head (.cons .head .nil))))) (fun _ _ _ => trivial) (SegCut_ok db mb e q.cur off hD.dok hcok hcs hcf (hD.base_le hc h1 hst.2.1) (by omega)) (fun v G1 hq => ?_)
  obtain ⟨rfl, z, d', sm, hz, hz1, hz2, hix, hd', rfl⟩ := hq
  simp only [List.cons_append, List.nil_append]
  refine .nil ?_
  have hT : CutTo l d off (l.chop q z sm (min l.high (nextOf q.cur.base (q.cur.bs.take z)))) d' := hD.last hc hz hz1 hz2 hix hd' hge hhi.1 _ rfl
  have hcok2 : (Sx.mk q.cur.b q.cur.nm q.cur.base (q.cur.bs.take z) sm q.cur.aa q.cur.ac q.cur.ia q.cur.ic).ok := (hT.ok.seg _ (Lx.cur_in _)).1
  have hnx2 : (Sx.mk q.cur.b q.cur.nm q.cur.base (q.cur.bs.take z) sm q.cur.aa q.cur.ac q.cur.ia q.cur.ic).next = (nextOf q.cur.base (q.cur.bs.take z)) := rfl
  have hnx3 : l.start ≤ (nextOf q.cur.base (q.cur.bs.take z)) := by have h5 := hT.ok.start.2.2; have h6 := hT.start; have h7 : (l.chop q z sm (min l.high (nextOf q.cur.base (q.cur.bs.take z)))).next = (nextOf q.cur.base (q.cur.bs.take z)) := rfl; omega
  refine .go fds 2 ?_
  refine .draws [3, 8] [blk l.lb (lcells (some ⟨q.cur.b, 0, none⟩) db l.pre l.most l.start l.high l.la q.segs.length l.lc) 57] (by kernel_rfl) ?_
  refine .goD fds [0] ?_
  refine .goD fds [1] ?_
  refine .goD fds [2] ?_
  refine .rd 3 rfl rfl (by kernel_rfl) (by kernel_rfl) (by kernel_rfl) (.ld na39 rfl .head rfl) (.cons (.tail (.tail (.tail (.tail (.tail (.tail .head)))))) .nil) ?_
  refine .goD fds [5] ?_
  refine .goD fds [6] ?_
  refine .goD fds [7] ?_
  refine .rd 8 rfl rfl (by kernel_rfl) (by kernel_rfl) (by kernel_rfl) (.ld na3 rfl .head rfl) (.cons (.tail (.tail (.tail (.tail (.tail (.tail .head)))))) .nil) ?_
  refine .ef 4 (by kernel_rfl) rfl (.fn rfl rfl .nil ((Knows.blk (.tail (.tail .head))).and ((Knows.arr (.tail (.tail (.tail .head)))).and (Knows.arr (.tail (.tail (.tail (.tail .head))))))) (Next_ok db (Sx.mk q.cur.b q.cur.nm q.cur.base (q.cur.bs.take z) sm q.cur.aa q.cur.ac q.cur.ia q.cur.ic) hcok2)) ?_
  rintro v _ ⟨G1, hq, rfl⟩
  obtain ⟨rfl, rfl⟩ := hq
  simp only [List.nil_append]
  refine ⟨.inr ⟨_, (.cons (.tail (.tail (.tail (.tail (.tail (.tail .head)))))) .nil)⟩, ?_⟩
  refine .alter (t := 89) (v' := .int .i64 (nextOf q.cur.base (q.cur.bs.take z))) rfl (rfl) ?_
  refine .goD fds [9] ?_
  refine .alter (t := 94) (v' := .bool false) rfl (congrArg Value.bool (decide_eq_false (by show ¬ (nextOf q.cur.base (q.cur.bs.take z)) < l.start; omega))) ?_
  refine .done (by kernel_rfl) ?_
  refine .go fds 3 ?_
  refine .draws [4, 8] [blk l.lb (lcells (some ⟨q.cur.b, 0, none⟩) db l.pre l.most l.start l.high l.la q.segs.length l.lc) 57] (by kernel_rfl) ?_
  refine .goD fds [0] ?_
  refine .goD fds [1] ?_
  refine .goD fds [2] ?_
  refine .goD fds [3] ?_
  refine .rd 4 rfl rfl (by kernel_rfl) (by kernel_rfl) (by kernel_rfl) (.ld na3 rfl .head rfl) (.cons (.tail (.tail (.tail (.tail (.tail (.tail .head)))))) .nil) ?_
  refine .goD fds [5] ?_
  refine .goD fds [6] ?_
  refine .goD fds [7] ?_
  refine .rd 8 rfl rfl (by kernel_rfl) (by kernel_rfl) (by kernel_rfl) (.ld na39 rfl .head rfl) (.cons (.tail (.tail (.tail (.tail (.tail (.tail .head)))))) .nil) ?_
  refine .ef 9 (by kernel_rfl) rfl (.fn rfl rfl .nil ((Knows.blk (.tail (.tail .head))).and ((Knows.arr (.tail (.tail (.tail .head)))).and (Knows.arr (.tail (.tail (.tail (.tail .head))))))) (Next_ok db (Sx.mk q.cur.b q.cur.nm q.cur.base (q.cur.bs.take z) sm q.cur.aa q.cur.ac q.cur.ia q.cur.ic) hcok2)) ?_
  rintro v _ ⟨G1, hq, rfl⟩
  obtain ⟨rfl, rfl⟩ := hq
  simp only [List.nil_append]
  refine ⟨.inr ⟨_, (.cons (.tail (.tail (.tail (.tail (.tail (.tail .head)))))) .nil)⟩, ?_⟩
  refine .alter (t := 110) (v' := .int .i64 (nextOf q.cur.base (q.cur.bs.take z))) rfl (rfl) ?_
  refine .rp 10 rfl (by kernel_rfl) (by kernel_rfl) (by kernel_rfl) (Reads.pure (.min2 rfl rfl rfl)) ?_
  refine .alter (t := 111) (v' := .int .i64 (min l.high (nextOf q.cur.base (q.cur.bs.take z)))) rfl (congrArg (Value.int .i64) (by omega)) ?_
  refine .goD fds [11] ?_
  refine .goD fds [12] ?_
  refine .ef0 13 (by kernel_rfl) rfl (.store ts3 rfl rfl (.tail (.tail (.tail (.tail (.tail (.tail .head)))))) rfl (Nat.le_of_ble_eq_true rfl)) ?_
  rintro _ _ rfl
  refine ⟨.inl (by kernel_rfl), ?_⟩
  refine .done (by kernel_rfl) ?_
  refine .go fds 4 ?_
  refine .cast (X' := blk (l.chop q z sm (min l.high (nextOf q.cur.base (q.cur.bs.take z)))).lb ((l.chop q z sm (min l.high (nextOf q.cur.base (q.cur.bs.take z)))).cells db) 57) ((chop_cells hD hqs)) ?_
  refine .pack (L := [blk q.cur.b ((Sx.mk q.cur.b q.cur.nm q.cur.base (q.cur.bs.take z) sm q.cur.aa q.cur.ac q.cur.ia q.cur.ic).cells db) 110, arr 112 4 q.cur.aa q.cur.ac (Sx.mk q.cur.b q.cur.nm q.cur.base (q.cur.bs.take z) sm q.cur.aa q.cur.ac q.cur.ia q.cur.ic).rows, arr 3 1 q.cur.ia q.cur.ic (sm.flatMap icN)]) (.cons (.tail (.tail (.tail .head))) (.cons (.tail (.tail (.tail .head))) (.cons (.tail (.tail (.tail .head))) .nil))) ?_
  refine .close (X := bag (SG db) (l.chop q z sm (min l.high (nextOf q.cur.base (q.cur.bs.take z)))).segs) (.cons .head (.cons (.tail (.tail (.tail .head))) .nil)) (fun h H => put_segs (ini := q.ini) (s := (l.chop q z sm (min l.high (nextOf q.cur.base (q.cur.bs.take z)))).cur) H) ?_
  refine .close (X := arr 54 1 l.la l.lc ((l.chop q z sm (min l.high (nextOf q.cur.base (q.cur.bs.take z)))).segs.flatMap sp)) (.cons (.tail (.tail (.tail (.tail .head)))) .nil) (fun h H => chop_arr ht H) ?_
  refine .pack (L := [blk (l.chop q z sm (min l.high (nextOf q.cur.base (q.cur.bs.take z)))).lb ((l.chop q z sm (min l.high (nextOf q.cur.base (q.cur.bs.take z)))).cells db) 57, arr 54 1 l.la l.lc ((l.chop q z sm (min l.high (nextOf q.cur.base (q.cur.bs.take z)))).segs.flatMap sp), bag (SG db) (l.chop q z sm (min l.high (nextOf q.cur.base (q.cur.bs.take z)))).segs]) (.cons (.tail (.tail .head)) (.cons .head (.cons .head .nil))) ?_
  refine .retP Tryz.func50 (.cons (.tmp rfl) .nil) (.cons .head (.cons .head (.cons .head (.cons .head .nil)))) ?_
  exact ⟨[_, _, _], ⟨_, _, rfl, hT, rfl⟩, rfl⟩
end Go.Proofs.YtoglbebcdjdkiaaGreatDoor
namespace Go.Proofs.YtoglbebcdjdkiaaGreatDoor
open Go Go.Sp
set_option linter.unusedVariables false
namespace log9
end log9
open log9
end Go.Proofs.YtoglbebcdjdkiaaGreatDoor
namespace Go.Proofs.YtoglbebcdjdkiaaGreatDoor
open Go Go.Sp
set_option linter.unusedVariables false
namespace log6
theorem na3 : NotAgg Tryz.prog 3 := ⟨_, Tryz.underlying3, trivial⟩
theorem na39 : NotAgg Tryz.prog 54 := ⟨_, Tryz.underlying54, trivial⟩
theorem na40 : NotAgg Tryz.prog 55 := ⟨_, Tryz.underlying55, trivial⟩
theorem ts39 : TS Tryz.prog 54 1 := .of (by kernel_rfl)
theorem ts34 : TS Tryz.prog 41 6 := .of (by kernel_rfl)
theorem ia34 : IsAgg Tryz.prog 41 := ⟨_, Tryz.underlying41, trivial⟩
theorem ti34 : TI Tryz.prog 41 6 64 (.agg #[.int .i64 0, .int .i64 0, .int .i64 0, .int .i64 0, .int .i64 0, .slice none 0 0]) := .of (by kernel_rfl)
end log6
open log6
end Go.Proofs.YtoglbebcdjdkiaaGreatDoor
namespace Go.Proofs.YtoglbebcdjdkiaaGreatDoor
open Go Go.Sp
set_option linter.unusedVariables false
namespace seg8
theorem na39 : NotAgg Tryz.prog 54 := ⟨_, Tryz.underlying54, trivial⟩
theorem na24 : NotAgg Tryz.prog 24 := ⟨_, Tryz.underlying24, trivial⟩
theorem na9 : NotAgg Tryz.prog 9 := ⟨_, Tryz.underlying9, trivial⟩
theorem ti3 : TI Tryz.prog 3 1 8 (.int .i64 0) := .of (by kernel_rfl)
theorem ts3 : TS Tryz.prog 3 1 := .of (by kernel_rfl)
theorem na67 : NotAgg Tryz.prog 108 := ⟨_, Tryz.underlying108, trivial⟩
theorem na3 : NotAgg Tryz.prog 3 := ⟨_, Tryz.underlying3, trivial⟩
theorem ts71 : TS Tryz.prog 112 4 := .of (by kernel_rfl)
theorem fd71_1 : FD Tryz.prog 112 1 1 := .of Tryz.underlying112 (by kernel_rfl)
end seg8
open seg8
def pS (s : Sx) (k : Int) (i : Nat) : Bool := decide (k < ((s.bs[i]?).map fun b => (((flat (s.bs.take i)).length + (enc b).length : Nat) : Int)).getD 0)
end Go.Proofs.YtoglbebcdjdkiaaGreatDoor
/- Chapter 6: what Open leaves where there was no log; the examples' numbers, in plain Lean. -/
namespace Go.Proofs.YtoglbebcdjdkiaaGreatDoor
open Go Go.Sp
def Short (d : Dk) : Prop := ∀ n, (d.get n).isSome = true → n.length ≤ 64
theorem Short.all {d : Dk} (h : Short d) : ∀ p ∈ d.fs, p.1.length ≤ 64 := fun _ hp => h _ (get_in.2 (List.mem_map_of_mem hp))
theorem Short.put {d : Dk} (h : Short d) {n : Nm} {f : Fl} (hn : n.length ≤ 64) : Short (d.put n f) := fun m hm => by
 rw [Dk.get_put] at hm
 split at hm
 ·
  rename_i e; rw [e]; exact hn
 ·
  exact h m hm
structure Free (pre : Nm) (d : Dk) : Prop where
 nums : (d.get (metaOf pre)).isSome = false
 segs : ∀ u, u ≤ 1000000000 → (d.get (nameOf pre u)).isSome = false
structure OpenTo (pre0 : Nm) (most : Int) (d : Dk) (l : Lx) (d' : Dk) : Prop where
 ok : l.ok d'
 dok : d'.ok
 pre : l.pre = pre0
 most : l.most = most
 start : l.start = 0
 high : l.high = 0
 ini : l.ini = []
 bs : l.cur.bs = []
 base : l.cur.base = 0
 size : d'.size = d.size
 used : d'.used = d.used
 len : d'.fs.length ≤ d.fs.length + 1
 own : Own l d'
 safe : (d'.file l.cur.nm).safe = 0
 far : ∀ n, (∀ u, u ≤ 1000000000 → n ≠ nameOf pre0 u) → d'.file n = d.file n ∧ d'.get n = d.get n
theorem OpenTo.full {pre most d l d'} (h : OpenTo pre most d l d') : Full l d' := fun s hs => by rw [h.ini] at hs; cases hs
theorem OpenTo.all {pre most d l d'} (h : OpenTo pre most d l d') : l.all = [] := by unfold Lx.all Lx.segs; rw [h.ini]; simp [h.bs]
theorem OpenTo.next {pre most d l d'} (h : OpenTo pre most d l d') : l.next = 0 := by show nextOf l.cur.base l.cur.bs = 0; rw [h.bs, h.base]; rfl
theorem OpenTo.base' {pre most d l d'} (h : OpenTo pre most d l d') : baseOf l = 0 := by unfold baseOf Lx.segs; rw [h.ini]; exact h.base
theorem OpenTo.segs {pre most d l d'} (h : OpenTo pre most d l d') : l.segs.length = 1 := by unfold Lx.segs; rw [h.ini]; rfl
theorem free_bases {pre : Nm} {d : Dk} (h : Free pre d) : basesOf pre (sorted (d.fs.map (·.1))) = [] := by
 refine List.eq_nil_iff_forall_not_mem.2 fun u hu => ?_
 rw [basesOf_mem, sorted_mem, ← get_in] at hu
 rw [h.segs u hu.1] at hu
 cases hu.2
theorem Open_ok7 (db mb : Nat) (d : Dk) (pre : Nm) (most : Int) (hd : d.ok) (hp : Pre pre) (hs : Short d) (hn : d.fs.length < 256) (hf : Free pre d) (h1 : 256 ≤ most) (h2 : most ≤ 1000000) : Cn Tryz.prog 32 [.pointer (some ⟨db, 0, none⟩), nmv pre, .int .i64 most] LV [blk db (d.cells mb) 74, mp nmv Fl.val mb d.fs] fun v G => ∃ l d', v = .tuple #[.pointer (some ⟨l.lb, 0, none⟩), .int .i64 0] ∧ OpenTo pre most d l d' ∧ G = [LG db l, blk db (d'.cells mb) 74, mp nmv Fl.val mb d'.fs] := by
 have h0 : d.file (nameOf pre 0) = fl0 := Dk.file_none (hf.segs 0 (by decide))
 refine (Open0_ok db mb d pre most hd hp hs.all (by omega) h1 h2 hf.nums (free_bases hf) hn (by rw [h0]; rfl)).mono fun v G h => ?_
 obtain ⟨lx, sb, sm, aa, ac, ia, ic, qa, qc, rfl, hix, rfl⟩ := h
 have hu := Dk.used_put hd (nameOf pre 0) ⟨[], 0⟩
 rw [h0] at hu
 have e0 : fl0.b.length = 0 := rfl
 dsimp only [List.length_nil] at hu
 refine ⟨newL lx pre most sb sm aa ac ia ic qa qc, d.put (nameOf pre 0) ⟨[], 0⟩, rfl, ⟨newL_ok hp h1 h2 hix, Dk.ok_put hd (by dsimp only [List.length_nil]; have := hd.used; omega) (Nat.le_refl _), rfl, rfl, rfl, rfl, rfl, rfl, rfl, rfl, by omega, mset_len_le _ _ _, fun u hu hg => ⟨_, .head _, ?_⟩, by show ((d.put _ _).file (nameOf pre 0)).safe = 0; rw [Dk.file_put], fun n hn => Dk.file_put_ne _ _ (hn 0 (by decide))⟩, rfl⟩
 show (0 : Int).toNat = u
 by_cases hx : nameOf pre u = nameOf pre 0
 ·
  exact (nameOf_inj hx).symm
 ·
  have hg' : (d.get (nameOf pre u)).isSome = true := by rw [← (Dk.file_put_ne d _ hx).2]; exact hg
  rw [hf.segs u hu] at hg'; cases hg'
theorem AppTo.short {l l' : Lx} {d d' : Dk} {b : Bat} (h : AppTo l d b l' d') (hp : Pre l.pre) (hs : Short d) : Short d' := fun n hn => by
 by_cases hx : ∃ u, u ≤ 1000000000 ∧ n = nameOf l.pre u
 ·
  obtain ⟨u, hu, rfl⟩ := hx
  rw [nameOf_len (by omega)]; have := hp.len; omega
 ·
  rw [(h.far n fun u hu e => hx ⟨u, hu, e⟩).2] at hn; exact hs n hn
theorem OpenTo.short {pre : Nm} {most : Int} {l : Lx} {d d' : Dk} (h : OpenTo pre most d l d') (hp : Pre pre) (hs : Short d) : Short d' := fun n hn => by
 by_cases hx : ∃ u, u ≤ 1000000000 ∧ n = nameOf pre u
 ·
  obtain ⟨u, hu, rfl⟩ := hx
  rw [nameOf_len (by omega)]; have := hp.len; omega
 ·
  rw [(h.far n fun u hu e => hx ⟨u, hu, e⟩).2] at hn; exact hs n hn
theorem DelTo.short {l l' : Lx} {d d' : Dk} {off w : Nat} (h : DelTo l d off w l' d') (hl : l.ok d) (hs : Short d) : Short d' := fun n hn => by
 have hpl := hl.pre.len
 by_cases hx : n = metaOf l.pre
 ·
  subst hx; unfold metaOf; rw [List.length_append]; show _ + 5 ≤ 64; omega
 ·
  by_cases hy : ∃ s ∈ l.ini, n = s.nm
  ·
   obtain ⟨s, hs', rfl⟩ := hy
   obtain ⟨k1, k2, _, _⟩ := hl.seg s (List.mem_append_left _ hs')
   have := k1.base0; have := k1.base1
   rw [k2, nameOf_len (by omega)]; omega
  ·
   rw [h.far n hx fun s hs' => .inr fun e => hy ⟨s, hs', e⟩] at hn; exact hs n hn
def sync (l : Lx) (d : Dk) : Dk := d.put l.cur.nm ⟨(d.file l.cur.nm).b, (d.file l.cur.nm).b.length⟩
structure SyncTo (l : Lx) (d d' : Dk) : Prop where
 ok : l.ok d'
 dok : d'.ok
 size : d'.size = d.size
 used : d'.used = d.used
 len : d'.fs.length = d.fs.length
 own : Own l d → Own l d'
 full : Full l d → Full l d'
 file : d'.file l.cur.nm = ⟨(d.file l.cur.nm).b, (d.file l.cur.nm).b.length⟩
 far : ∀ n, n ≠ l.cur.nm → d'.file n = d.file n ∧ d'.get n = d.get n
 names : ∀ n, (d'.get n).isSome = (d.get n).isSome
theorem sync_to {l : Lx} {d : Dk} (hl : l.ok d) (hd : d.ok) : SyncTo l d (sync l d) := by
 obtain ⟨c1, c2, c3, c4⟩ := hl.cur
 have hnm : ∀ n, ((sync l d).get n).isSome = (d.get n).isSome := fun n => by
  unfold sync; rw [Dk.get_put]
  split
  ·
   rename_i e; rw [e, c3]; rfl
  ·
   rfl
 have hu := Dk.used_put hd l.cur.nm ⟨(d.file l.cur.nm).b, (d.file l.cur.nm).b.length⟩
 have hfar : ∀ n, n ≠ l.cur.nm → (sync l d).file n = d.file n ∧ (sync l d).get n = d.get n := fun n hn => Dk.file_put_ne _ _ hn
 refine ⟨⟨hl.pre, fun s hs => ?_, hl.link, hl.ne, hl.start, hl.high, hl.most, hl.len⟩, Dk.ok_put hd (by dsimp only; have := hd.used; omega) (Nat.le_refl _), rfl, by dsimp only at hu; unfold sync; omega, mset_len_in c3, fun ho u hu hg => ho u hu (by rw [← hnm]; exact hg), fun hf s hs => ?_, Dk.file_put _ _ _, hfar, hnm⟩
 ·
  rcases List.mem_append.1 hs with hs | hs
  ·
   obtain ⟨k1, k2, k3, k4⟩ := hl.seg s (List.mem_append_left _ hs)
   obtain ⟨m1, m2⟩ := hfar s.nm (hl.nm_ne hs)
   exact ⟨k1, k2, by rw [m2]; exact k3, by rw [m1]; exact k4⟩
  ·
   rw [List.mem_singleton.1 hs]
   exact ⟨c1, c2, by rw [hnm]; exact c3, by unfold sync; rw [Dk.file_put]; exact c4⟩
 ·
  rw [(hfar s.nm (hl.nm_ne hs)).1]; exact hf s hs
end Go.Proofs.YtoglbebcdjdkiaaGreatDoor
/- Chapter 13: what a store leaves on the disk, in plain Lean. -/
namespace Go.Proofs.YtoglbebcdjdkiaaGreatDoor
open Go Go.Sp
set_option linter.unusedVariables false
structure Beside (l : Lx) (nm : Nm) (d e : Dk) : Prop where
 dok : e.ok
 ok : l.ok e
 own : Own l d → Own l e
 full : Full l d → Full l e
 short : Short d → Short e
 size : e.size = d.size
 len : e.fs.length ≤ d.fs.length + 1
 far : ∀ n, n ≠ nm → e.file n = d.file n ∧ e.get n = d.get n
theorem Beside.put {l : Lx} {d : Dk} {nm : Nm} {f : Fl} (hd : d.ok) (hl : l.ok d) (hn : nm.length ≤ 64) (hf : ∀ u, u ≤ 1000000000 → nm ≠ nameOf l.pre u) (hu : d.used + f.b.length ≤ d.size + (d.file nm).b.length) (hs : f.safe ≤ f.b.length) : Beside l nm d (d.put nm f) := by
 have hfar : ∀ s ∈ l.segs, s.nm ≠ nm := fun s hs e => by
  obtain ⟨k1, k2, _, _⟩ := hl.seg s hs
  have := k1.base0; have := k1.base1
  exact hf s.base.toNat (by omega) (e ▸ k2)
 refine ⟨Dk.ok_put hd hu hs, ⟨hl.pre, fun s hs => ?_, hl.link, hl.ne, hl.start, hl.high, hl.most, hl.len⟩, fun ho u hu hg => ho u hu ?_, fun h s hs => ?_, fun h => h.put hn, rfl, mset_len_le _ _ _, fun n hn => Dk.file_put_ne _ _ hn⟩
 ·
  obtain ⟨k1, k2, k3, k4⟩ := hl.seg s hs
  obtain ⟨m1, m2⟩ := Dk.file_put_ne d f (hfar s hs)
  exact ⟨k1, k2, by rw [m2]; exact k3, by rw [m1]; exact k4⟩
 ·
  rw [← (Dk.file_put_ne d f (fun e => hf u hu e.symm)).2]; exact hg
 ·
  rw [(Dk.file_put_ne d f (hfar s (List.mem_append_left _ hs))).1]; exact h s hs
theorem Beside.refl {l : Lx} {d : Dk} {nm : Nm} (hd : d.ok) (hl : l.ok d) : Beside l nm d d := ⟨hd, hl, id, id, id, rfl, Nat.le_succ _, fun _ _ => ⟨rfl, rfl⟩⟩
def HoldsE (d : Dk) (nm : Nm) (es : List Ep) : Prop := ((d.get nm).isSome = false ∧ es = []) ∨ ((d.get nm).isSome = true ∧ d.file nm = ⟨summed (bodyE es), (summed (bodyE es)).length⟩)
theorem HoldsE.len {d : Dk} {nm : Nm} {es : List Ep} (h : HoldsE d nm es) (he : EpsOk es) : (d.file nm).b.length ≤ 4020 := by
 rcases h with ⟨h, _⟩ | ⟨_, h⟩
 ·
  rw [Dk.file_none h]; exact Nat.zero_le _
 ·
  rw [h]; have := bodyE_le he; have := he.len; show (summed (bodyE es)).length ≤ _; rw [summed_len]; omega
theorem HoldsE.same {d e : Dk} {nm : Nm} {es : List Ep} (h : HoldsE d nm es) (hf : e.file nm = d.file nm) (hg : (e.get nm).isSome = (d.get nm).isSome) : HoldsE e nm es := by
 unfold HoldsE; rw [hf, hg]; exact h
theorem summedE_le {es : List Ep} (he : EpsOk es) : (summed (bodyE es)).length ≤ 4014 := by
 rw [summed_len]; have := bodyE_le he; have := he.len; omega
theorem kept_facts {d : Dk} {l : Lx} {c : Cx} {es : List Ep} (hd : d.ok) (hl : l.ok d) (hc : c.nm = nmE l.pre) (he : EpsOk es) (hr : d.used + 4020 ≤ d.size) (hh : HoldsE d c.nm c.es) : Beside l (nmE l.pre) d (keptE d c es) ∧ HoldsE (keptE d c es) c.nm es ∧ (keptE d c es).used + (d.file (nmE l.pre)).b.length ≤ d.used + max 4014 (d.file (nmE l.pre)).b.length := by
 have hle := summedE_le he
 unfold keptE
 by_cases h : es = c.es
 ·
  rw [if_pos h]; exact ⟨.refl hd hl, h ▸ hh, by omega⟩
 ·
  rw [if_neg h, hc]
  have hu := Dk.used_put hd (nmE l.pre) ⟨summed (bodyE es), (summed (bodyE es)).length⟩
  dsimp only at hu
  exact ⟨.put hd hl (nmE_named hl.pre).2.1 (fun u hu => nmE_far hu) (by dsimp only; omega) (Nat.le_refl _), .inr ⟨Dk.some_put _ _ _, Dk.file_put _ _ _⟩, by omega⟩
def nextE (es : List Ep) (ep off : Int) : List Ep := if lastE es < ep then cutE off es ++ [(ep, off)] else es
theorem EpsOk.next {es : List Ep} (h : EpsOk es) {ep off : Int} (h1 : mayN ep) (h2 : mayN off) (hn : es.length < 200) : EpsOk (nextE es ep off) := by
 unfold nextE
 split
 ·
  rename_i hl
  have hc := h.cut off
  refine hc.more (x := (ep, off)) h1 h2 ?_ (fun e he => of_decide_eq_true (List.mem_filter.1 he).2) (Nat.lt_of_le_of_lt (List.length_filter_le ..) hn)
  show lastE (cutE off es) < ep
  cases hg : (cutE off es).getLast? with
  | none => unfold lastE; rw [hg]; unfold mayN at h1; show (-1 : Int) < ep; omega
  | some x =>
   unfold lastE; rw [hg]
   have := h.le_last x (List.mem_filter.1 (List.mem_of_getLast? hg)).1
   show x.1 < ep; omega
 ·
  exact h
structure TookTo (s : St) (d : Dk) (b : Bat) (s' : St) (d' : Dk) : Prop where
 app : AppTo s.l (keptE d s.c (nextE s.c.es b.epoch b.base)) b s'.l d'
 sx : s'.sx = s.sx
 nm : s'.c.nm = s.c.nm
 es : s'.c.es = nextE s.c.es b.epoch b.base
 t : pur s'.t.m = note (pur s.t.m) b
structure CutS (s : St) (d : Dk) (off : Int) (s' : St) (d' : Dk) : Prop where
 cut : ∃ e, CutTo s.l d off s'.l e ∧ d' = keptE e s.c (cutE s'.l.next s.c.es)
 sx : s'.sx = s.sx
 nm : s'.c.nm = s.c.nm
 es : s'.c.es = cutE s'.l.next s.c.es
 t : pur s'.t.m = cutT s'.l.next (pur s.t.m)
def putP (d : Dk) (s : St) : Dk := d.put (nmP s.l.pre) ⟨keepT (pur s.t.m), (keepT (pur s.t.m)).length⟩
structure DelS (s : St) (d : Dk) (off : Nat) (s' : St) (d' : Dk) : Prop where
 del : ∃ e, DelTo s.l (putP d s) off (max s.l.high off).toNat s'.l e ∧ d' = keptE e s.c (delE off s.c.es)
 sx : s'.sx = s.sx
 nm : s'.c.nm = s.c.nm
 es : s'.c.es = delE off s.c.es
 t : pur s'.t.m = delT off (pur s.t.m)
end Go.Proofs.YtoglbebcdjdkiaaGreatDoor
/- Chapter 13: a store that is opened, in plain Lean. -/
namespace Go.Proofs.YtoglbebcdjdkiaaGreatDoor
open Go Go.Sp
def NotesOk (t : Tm) (bs : List Bat) : Prop := ∀ i b, bs[i]? = some b → TabOk ((bs.take i).foldl note t) ∧ 0 < b.pid ∧ b.fits ∧ right b = 0 ∧ late (notesOf ((bs.take i).foldl note t) b.pid) b = false
def Lx.vis (l : Lx) : List Bat := keepN l.start l.all
def HoldsP (d : Dk) (nm : Nm) (D : Tm) : Prop := ((d.get nm).isSome = false ∧ D = []) ∨ ((d.get nm).isSome = true ∧ (d.file nm).b = keepR D ∧ RowsOk D ∧ D.length ≤ 1000000 ∧ sizeT D ≤ 400000000)
theorem TabOk.nil : TabOk [] := ⟨.nil, fun _ h => (by cases h), fun _ h => (by cases h), fun _ h => (by cases h), fun _ h => (by cases h)⟩
theorem HoldsP.tab {d : Dk} {nm : Nm} {D : Tm} (h : HoldsP d nm D) : TabOk D := by
 rcases h with ⟨_, rfl⟩ | h
 ·
  exact .nil
 ·
  exact h.2.2.1.toTabOk
structure OpenF (pre : Nm) (es : List Ep) (D : Tm) (l : Lx) (d : Dk) : Prop where
 dok : d.ok
 ok : l.ok d
 prem : l.pre = pre
 cap : l.all.length ≤ 100000000
 esok : EpsOk es
 holdsE : HoldsE d (nmE pre) es
 holdsP : HoldsP d (nmP pre) D
 room : d.used + 4020 ≤ d.size
 len : d.fs.length < 254
 ep : ∀ b ∈ l.vis, b.epoch ≤ lastE (cutE l.next es)
 notes : NotesOk (cutT l.start D) l.vis
structure OpenS (pre : Nm) (es : List Ep) (D : Tm) (s : St) (e d' : Dk) : Prop where
 dsk : d' = keptE e ⟨s.c.cb, nmE pre, es, none, 0⟩ (cutE s.l.next es)
 nm : s.c.nm = nmE pre
 es : s.c.es = cutE s.l.next es
 t : pur s.t.m = s.l.vis.foldl note (cutT s.l.start D)
theorem HoldsE.old {d : Dk} {nm : Nm} {es : List Ep} (h : HoldsE d nm es) : ((d.get nm).isSome = false ∧ es = []) ∨ ((d.get nm).isSome = true ∧ (d.file nm).b = summed (bodyE es)) := by
 rcases h with h | ⟨h1, h2⟩
 ·
  exact .inl h
 ·
  exact .inr ⟨h1, by rw [h2]⟩
end Go.Proofs.YtoglbebcdjdkiaaGreatDoor
/- Chapter 13: the statements' batches, in plain Lean. -/
namespace Go.Proofs.YtoglbebcdjdkiaaGreatDoor
open Go Go.Sp
def smB (ep pid pe seq : Int) (n : Nat) (u : Int) : Bat := ⟨u, ep, pid, pe, seq, List.replicate n vrec⟩
structure SmOk (ep pid pe seq : Int) (n : Nat) (u : Int) : Prop where
 ep : mayN ep
 pid : 1 ≤ pid ∧ pid ≤ 1000000000
 pe : 0 ≤ pe ∧ pe ≤ 1000000000
 seq : 0 ≤ seq ∧ seq ≤ 100000
 n : 1 ≤ n ∧ n ≤ 64
 u : 0 ≤ u ∧ u ≤ 100000000
theorem sm_recs (ep pid pe seq : Int) (n : Nat) (u : Int) : (smB ep pid pe seq n u).recs.length = n := List.length_replicate ..
theorem sm_en (ep pid pe seq : Int) (n : Nat) (u : Int) : (smB ep pid pe seq n u).en = u + n := by unfold Bat.en; rw [sm_recs]; rfl
theorem sm_mem {ep pid pe seq u : Int} {n : Nat} {r : Rec} (h : r ∈ (smB ep pid pe seq n u).recs) : r = vrec := List.eq_of_mem_replicate h
theorem SmOk.fits {ep pid pe seq u : Int} {n : Nat} (h : SmOk ep pid pe seq n u) : (smB ep pid pe seq n u).fits := by
 have h1 := h.ep; have h2 := h.pid; have h3 := h.pe; have h4 := h.seq; have h5 := h.n; have h6 := h.u
 unfold mayN at h1
 refine ⟨⟨by show _ ≤ u; omega, by show u ≤ _; omega⟩, ⟨by show _ ≤ ep; omega, by show ep ≤ _; omega⟩, ⟨by show _ ≤ pid; omega, by show pid ≤ _; omega⟩, ⟨by show _ ≤ pe; omega, by show pe ≤ _; omega⟩, ⟨by show _ ≤ seq; omega, by show seq ≤ _; omega⟩, fun r hr => ?_, fun r hr => ?_, fun r hr => ?_, by rw [sm_recs]; omega⟩
 ·
  rw [sm_mem hr]; exact ⟨by decide, by decide⟩
 ·
  rw [sm_mem hr]; decide
 ·
  rw [sm_mem hr]; decide
theorem SmOk.body {ep pid pe seq u : Int} {n : Nat} (h : SmOk ep pid pe seq n u) : (body (smB ep pid pe seq n u)).length ≤ 60 + n * 8 := by
 have h2 := six_len h.fits 6
 rw [show (six (smB ep pid pe seq n u)).take 6 = six (smB ep pid pe seq n u) from rfl] at h2
 have h3 := flat_le (f := recBody) (k := 8) (smB ep pid pe seq n u).recs fun r hr => by rw [sm_mem hr, vbody]; exact Nat.le_refl _
 rw [sm_recs] at h3
 rw [body_six, List.length_append]; omega
theorem SmOk.right {ep pid pe seq u : Int} {n : Nat} (h : SmOk ep pid pe seq n u) : right (smB ep pid pe seq n u) = 0 := by
 have hb := h.body
 have h1 := h.ep; have h2 := h.pid; have h3 := h.pe; have h4 := h.seq; have h5 := h.n; have h6 := h.u
 unfold mayN at h1
 rw [right_on (b := smB ep pid pe seq n u) _ (fun r hr => by rw [sm_mem hr]; exact ⟨by decide, by decide⟩), if_neg (by rw [sm_recs]; omega), if_neg, if_neg, if_neg (by omega)]
 ·
  rw [sm_recs]; show ¬ (_ < u ∨ _ < seq); omega
 ·
  intro h
  obtain ⟨r, hr, h2⟩ := List.any_eq_true.1 h
  rw [sm_mem hr] at h2; exact absurd h2 (by decide)
 ·
  unfold Bat.off
  rw [sm_recs]
  show ¬ (u < 0 ∨ ¬ ((0 : Int) ≤ ep ∧ ep ≤ 1000000000) ∨ ¬ ((0 : Int) ≤ pid ∧ pid ≤ 1000000000) ∨ ¬ ((0 : Int) ≤ pe ∧ pe ≤ 1000000000) ∨ ¬ ((0 : Int) ≤ seq ∧ seq ≤ 1000000000) ∨ (pid = 0 ∧ (pe ≠ 0 ∨ seq ≠ 0)) ∨ n = 0)
  omega
theorem SmOk.good {ep pid pe seq u : Int} {n : Nat} (h : SmOk ep pid pe seq n u) : (smB ep pid pe seq n u).good := ⟨h.right, h.fits, by rw [sm_en]; have := h.n; have := h.u; omega⟩
theorem SmOk.enc {ep pid pe seq u : Int} {n : Nat} (h : SmOk ep pid pe seq n u) : (enc (smB ep pid pe seq n u)).length ≤ 68 + n * 8 := by
 rw [h.good.enc_len]; have := h.body; omega
end Go.Proofs.YtoglbebcdjdkiaaGreatDoor
/- Chapter 13: a producer's next batch, in plain Lean. -/
namespace Go.Proofs.YtoglbebcdjdkiaaGreatDoor
open Go Go.Sp
set_option linter.unusedVariables false
theorem lateFrom_same {l : List Nt} : ∀ (k i : Nat), (∀ j, i ≤ j → j < l.length → sameE l j = true) → ∀ j, lateFrom l k i ≤ j → j < l.length → sameE l j = true
 | 0, i, h => h
 | k + 1, i, h => by
  unfold lateFrom
  split
  ·
   rename_i hc
   refine lateFrom_same k (i - 1) fun j hj hl => ?_
   by_cases e : j = i - 1
   ·
    rw [e]; exact hc.2
   ·
    exact h j (by omega) hl
  ·
   exact h
theorem sameE_last {l : List Nt} (h : l ≠ []) : sameE l (l.length - 1) = true := by
 unfold sameE; rw [List.getLast?_eq_getElem?]; exact decide_eq_true rfl
theorem latest_ne {l : List Nt} (h : l ≠ []) : lateN l < l.length := by
 have h0 := List.length_pos_iff.2 h
 unfold lateN
 show lateFrom l (4 + 1) l.length < _
 rw [lateFrom, if_pos ⟨h0, sameE_last h⟩]
 have := lateFrom_le l 4 (l.length - 1)
 omega
theorem latest_last {l : List Nt} (h : l ≠ []) : (latest l).getLast? = l.getLast? := by
 have h1 := latest_ne h
 unfold latest
 rw [List.getLast?_eq_getElem?, List.getLast?_eq_getElem?, List.getElem?_drop, List.length_drop]
 congr 1; omega
theorem latest_ep {l : List Nt} {x z : Nt} (hx : (latest l)[0]? = some x) (hz : l.getLast? = some z) : x.ep = z.ep := by
 unfold latest at hx
 rw [List.getElem?_drop, Nat.add_zero] at hx
 have hl := (List.getElem?_eq_some_iff.1 hx).1
 have h1 := lateFrom_same (l := l) 5 l.length (fun j h1 h2 => by omega) (lateN l) (Nat.le_refl _) hl
 unfold sameE at h1
 rw [hx, hz] at h1
 exact Option.some.inj (of_decide_eq_true h1)
theorem ask_new {t : Tm} {pid ep seq n : Int} (hT : TabOk t) (h1 : (ask t pid ep seq n).2 = 0) (h2 : (ask t pid ep seq n).1 < 0) (hp : pid ≠ 0) : ¬ askBad pid ep seq n ∧ ¬ 1000000 - n + 1 < seq ∧ ∀ z, (notesOf t pid).getLast? = some z → z.ep ≤ ep ∧ (z.ep = ep → z.seq + z.n ≤ seq) ∧ (z.ep = ep → seq = z.seq + z.n) ∧ (z.ep < ep → seq ≤ 0) := by
 unfold ask at h1 h2
 by_cases hb : askBad pid ep seq n
 ·
  rw [if_pos hb] at h1; cases h1
 rw [if_neg hb, if_neg hp] at h1 h2
 by_cases hs : 1000000 - n + 1 < seq
 ·
  rw [if_pos hs] at h1; cases h1
 rw [if_neg hs] at h1 h2
 refine ⟨hb, hs, fun z hz => ?_⟩
 have hne : notesOf t pid ≠ [] := fun e => by rw [e] at hz; cases hz
 have hlt := latest_ne hne
 obtain ⟨x, hx⟩ : ∃ x, (latest (notesOf t pid))[0]? = some x := ⟨_, List.getElem?_eq_getElem (by rw [latest_len]; omega)⟩
 have hep := latest_ep hx hz
 by_cases c1 : x.ep < ep
 ·
  rw [askL1 (.inr ⟨x, hx, c1⟩)] at h1
  dsimp only at h1
  split at h1
  ·
   cases h1
  ·
   exact ⟨by omega, by omega, by omega, by omega⟩
 by_cases c2 : ep < x.ep
 ·
  rw [askL2 hx c2] at h1; cases h1
 cases hf : findN (latest (notesOf t pid)) ep seq n with
 | some y =>
  rw [askL3 hx c1 c2 hf] at h2
  have hy : y ∈ notesOf t pid := List.mem_of_mem_drop (List.mem_of_find?_eq_some hf)
  have := ((hT.notes pid).1 y hy).off
  exact absurd h2 (by show ¬ y.off < 0; omega)
 | none =>
  have hz' : (latest (notesOf t pid))[(latest (notesOf t pid)).length - 1]? = some z := by rw [← List.getLast?_eq_getElem?, latest_last hne, hz]
  rw [askL4 hx c1 c2 hf hz'] at h1
  by_cases c3 : seq = z.seq + z.n
  ·
   exact ⟨by omega, by omega, by omega, by omega⟩
  ·
   rw [if_neg c3] at h1
   split at h1 <;> cases h1
theorem mset_in {κ ν : Type} [DecidableEq κ] {m : List (κ × ν)} {k : κ} {v : ν} {p : κ × ν} (h : p ∈ mset m k v) : p = (k, v) ∨ p ∈ m := by
 unfold mset at h
 split at h
 ·
  obtain ⟨q, hq, e⟩ := List.mem_map.1 h
  split at e
  ·
   rename_i hk; subst hk; exact .inl e.symm
  ·
   exact .inr (e ▸ hq)
 ·
  rcases List.mem_append.1 h with h | h
  ·
   exact .inr h
  ·
   exact .inl (List.mem_singleton.1 h)
theorem note_is {t : Tm} {b : Bat} (h : late (notesOf t b.pid) b = false) : note t b = mset t b.pid (notesOf t b.pid ++ [ntOf b]) := by
 unfold note; rw [if_neg (by rw [h]; exact Bool.false_ne_true)]
theorem note_at {t : Tm} {b : Bat} (h : late (notesOf t b.pid) b = false) (q : Int) : notesOf (note t b) q = if q = b.pid then notesOf t q ++ [ntOf b] else notesOf t q := by
 rw [note_is h]
 unfold notesOf
 rw [mget_mset]
 split
 ·
  rename_i e; rw [e]; rfl
 ·
  rfl
theorem nextN.trans {x y z : Nt} (h : nextN x y) (g : nextN y z) (hy : 0 ≤ y.n) : nextN x z := by
 obtain ⟨a1, a2, a3⟩ := h
 obtain ⟨b1, b2, b3⟩ := g
 refine ⟨by omega, by omega, fun e => ?_⟩
 have h1 := a3 (by omega)
 have h2 := b3 (by omega)
 omega
theorem chain_snoc {l : List Nt} {x : Nt} (hc : l.Pairwise nextN) (ho : ∀ y ∈ l, NtOk y) (hl : ∀ z, l.getLast? = some z → nextN z x) : (l ++ [x]).Pairwise nextN := by
 rw [List.pairwise_append]
 refine ⟨hc, .cons (fun _ h => by cases h) .nil, fun a ha b hb => ?_⟩
 rw [List.mem_singleton.1 hb]
 obtain ⟨i, hi⟩ := List.getElem?_of_mem ha
 obtain ⟨hil, rfl⟩ := List.getElem?_eq_some_iff.1 hi
 have hz : l.getLast? = some l[l.length - 1] := by rw [List.getLast?_eq_getElem?]; exact List.getElem?_eq_getElem (by omega)
 have h1 := hl _ hz
 by_cases e : i = l.length - 1
 ·
  subst e; exact h1
 ·
  have h2 := List.pairwise_iff_getElem.1 hc i (l.length - 1) hil (by omega) (by omega)
  exact h2.trans h1 (by have := (ho _ (List.getElem_mem (show l.length - 1 < l.length by omega))).n; omega)
theorem late_off {l : List Nt} {b : Bat} (h : late l b = false) : ∀ z, l.getLast? = some z → nextN z (ntOf b) := fun z hz => by
 unfold late at h
 rw [hz] at h
 have := of_decide_eq_false h
 refine ⟨by show z.off < b.base; omega, by show z.ep ≤ b.pidEpoch; omega, fun e => ?_⟩
 have e' : z.ep = b.pidEpoch := e
 show z.seq + z.n ≤ b.seq; omega
theorem late_of {l : List Nt} {b : Bat} (h : ∀ z, l.getLast? = some z → nextN z (ntOf b)) : late l b = false := by
 unfold late
 cases e : l.getLast? with
 | none => rfl
 | some z =>
  obtain ⟨h1, h2, h3⟩ := h z e
  refine decide_eq_false fun hh => ?_
  have h1' : z.off < b.base := h1
  have h2' : z.ep ≤ b.pidEpoch := h2
  have h3' : z.ep = b.pidEpoch → z.seq + z.n ≤ b.seq := h3
  rcases hh with hh | hh | hh
  ·
   omega
  ·
   omega
  ·
   have := h3' hh.1; omega
theorem notes_mem {t : Tm} {q : Int} (h : notesOf t q ≠ []) : (q, notesOf t q) ∈ t := by
 unfold notesOf at h ⊢
 cases e : mget t q with
 | none => rw [e] at h; exact absurd rfl h
 | some l => exact mget_mem' e
theorem TabW.chainOf {t : Tm} (h : TabW t) (q : Int) : (notesOf t q).Pairwise nextN := by
 by_cases e : notesOf t q = []
 ·
  rw [e]; exact .nil
 ·
  exact h.chain _ (notes_mem e)
theorem TabW.note {t : Tm} (h : TabW t) {b : Bat} (hl : late (notesOf t b.pid) b = false) (hp : 0 < b.pid ∧ b.pid ≤ 1000000000) (ho : NtOk (ntOf b)) (hn : (notesOf t b.pid).length < 10000) : TabW (note t b) := by
 rw [note_is hl]
 have ht := h.toTabOk.notes b.pid
 refine ⟨⟨mset_nodup h.nodup _ _, fun p hm => ?_, fun p hm => ?_, fun p hm => ?_, fun p hm => ?_⟩, fun p hm => ?_⟩ <;> rcases mset_in hm with rfl | hm
 ·
  exact hp
 ·
  exact h.pid p hm
 ·
  simp
 ·
  exact h.ne p hm
 ·
  intro x hx
  rcases List.mem_append.1 hx with hx | hx
  ·
   exact ht.1 x hx
  ·
   rw [List.mem_singleton.1 hx]; exact ho
 ·
  exact h.ok p hm
 ·
  show (notesOf t b.pid ++ [ntOf b]).length ≤ _; rw [List.length_append]; simp; omega
 ·
  exact h.len p hm
 ·
  exact chain_snoc (h.chainOf b.pid) ht.1 (late_off hl)
 ·
  exact h.chain p hm
theorem NtOk.sm {ep pid pe seq u : Int} {n : Nat} (h : SmOk ep pid pe seq n u) : NtOk (ntOf (smB ep pid pe seq n u)) := by
 have h3 := h.pe; have h4 := h.seq; have h5 := h.n; have h6 := h.u
 have e : (ntOf (smB ep pid pe seq n u)).n = (n : Int) := by show (((smB ep pid pe seq n u).recs.length : Nat) : Int) = n; rw [sm_recs]
 refine ⟨by unfold mayN; exact h3, by show 0 ≤ seq ∧ seq ≤ _; omega, by rw [e]; omega, ?_, ?_⟩
 ·
  rw [e]; show seq ≤ _; omega
 ·
  rw [e]; show 0 ≤ u ∧ u ≤ _; omega
end Go.Proofs.YtoglbebcdjdkiaaGreatDoor
/- Chapter 13: a store that grows, in plain Lean. -/
namespace Go.Proofs.YtoglbebcdjdkiaaGreatDoor
open Go Go.Sp
set_option linter.unusedVariables false
structure BaseS (Z i j : Nat) (E : Int) (s : St) (d : Dk) : Prop where
 dok : d.ok
 ok : s.l.ok d
 own : Own s.l d
 full : Full s.l d
 short : Short d
 pre : s.l.pre = [112]
 nm : s.c.nm = nmE s.l.pre
 next : s.l.next ≤ 3 * (i : Int)
 segs : s.l.segs.length ≤ i + 1
 all : s.l.all.length ≤ i
 size : d.size = Z
 used : d.used ≤ (d.file (nmE s.l.pre)).b.length + (d.file (nmP s.l.pre)).b.length + 100 * (i + j)
 psz : (d.file (nmP s.l.pre)).b.length ≤ 304 + 840 * i
 names : ∀ n, (d.get n).isSome = true → n = nmE s.l.pre ∨ n = nmP s.l.pre ∨ n = metaOf s.l.pre ∨ ∃ u, u ≤ 1000000000 ∧ n = nameOf s.l.pre u
 es : EpsOk s.c.es
 esl : s.c.es.length ≤ i
 esn : ∀ e ∈ s.c.es, e.2 < s.l.next
 last : lastE s.c.es ≤ E
 holdsE : HoldsE d s.c.nm s.c.es
 tab : TabW (pur s.t.m)
 keys : ∀ p ∈ pur s.t.m, p.1 ≤ 7
 offs : ∀ p ∈ pur s.t.m, ∀ x ∈ p.2, x.off < s.l.next
theorem up_len : ∀ (l : List Nt) (a b : Int), l.Pairwise nextN → (∀ x ∈ l, a ≤ x.off ∧ x.off < b) → a ≤ b → (l.length : Int) ≤ b - a
 | [], a, b, _, _, h => by show (0 : Int) ≤ _; omega
 | x :: l, a, b, hc, ho, h => by
  have h1 := ho x (.head _)
  have h2 := up_len l (x.off + 1) b (List.pairwise_cons.1 hc).2 (fun y hy => ⟨by have := ((List.pairwise_cons.1 hc).1 y hy).1; omega, (ho y (.tail _ hy)).2⟩) (by omega)
  rw [List.length_cons]; omega
theorem nodup_le {α : Type} [DecidableEq α] : ∀ (l m : List α), l.Nodup → (∀ x ∈ l, x ∈ m) → l.length ≤ m.length
 | [], _, _, _ => Nat.zero_le _
 | x :: l, m, hn, hs => by
  rw [List.nodup_cons] at hn
  have hx := hs x (.head _)
  have h1 := nodup_le l (m.erase x) hn.2 fun y hy => (List.mem_erase_of_ne fun e : y = x => hn.1 (e ▸ hy)).2 (hs y (.tail _ hy))
  rw [List.length_erase_of_mem hx] at h1
  have := List.length_pos_of_mem hx
  rw [List.length_cons]; omega
theorem few_keys {l : List Int} (h : l.Nodup) (hl : ∀ x ∈ l, 1 ≤ x ∧ x ≤ 7) : l.length ≤ 7 := by
 exact nodup_le l [1, 2, 3, 4, 5, 6, 7] h fun x hx => by
  have := hl x hx
  simp only [List.mem_cons, List.not_mem_nil, or_false]; omega
theorem sizeT_le {t : Tm} {n : Nat} (h1 : t.length ≤ 7) (h2 : ∀ p ∈ t, p.2.length ≤ n) : sizeT t ≤ 160 + 280 * n := by
 have key : ∀ (u : Tm), (∀ p ∈ u, p.2.length ≤ n) → (u.map fun p => 20 + p.2.length * 40).sum ≤ u.length * (20 + n * 40) := by
  intro u
  induction u with
  | nil => intro _; exact Nat.zero_le _
  | cons p u ih =>
   intro h
   have h3 := ih fun q hq => h q (.tail _ hq)
   have h4 := h p (.head _)
   rw [List.map_cons, List.sum_cons, List.length_cons, Nat.succ_mul]; omega
 have h5 := key t h2
 have h6 : t.length * (20 + n * 40) ≤ 7 * (20 + n * 40) := Nat.mul_le_mul_right _ h1
 unfold sizeT; omega
theorem BaseS.next0 {Z i j E s d} (h : BaseS Z i j E s d) : 0 ≤ s.l.next := by have := h.ok.start; omega
theorem BaseS.noff {Z i j E s d} (h : BaseS Z i j E s d) (q : Int) : ∀ x ∈ notesOf (pur s.t.m) q, x.off < s.l.next := by
 by_cases e : notesOf (pur s.t.m) q = []
 ·
  intro x hx; rw [e] at hx; cases hx
 ·
  exact h.offs _ (notes_mem e)
theorem BaseS.nn {Z i j E s d} (h : BaseS Z i j E s d) (q : Int) : (notesOf (pur s.t.m) q).length ≤ 3 * i := by
 have h0 := h.next0
 have := up_len (notesOf (pur s.t.m) q) 0 s.l.next (h.tab.chainOf q) (fun x hx => ⟨((h.tab.notes q).1 x hx).off.1, h.noff q x hx⟩) h0
 have := h.next
 omega
theorem BaseS.few {Z i j E s d} (h : BaseS Z i j E s d) : (pur s.t.m).length ≤ 7 := by
 have := few_keys h.tab.nodup fun x hx => by
  obtain ⟨p, hp, rfl⟩ := List.mem_map.1 hx
  exact ⟨(h.tab.pid p hp).1, h.keys p hp⟩
 rwa [List.length_map] at this
theorem BaseS.tsz {Z i j E s d} (h : BaseS Z i j E s d) : sizeT (pur s.t.m) ≤ 160 + 840 * i := by
 have := sizeT_le (n := 3 * i) h.few fun p hp => by rw [← notes_in h.tab.nodup hp]; exact h.nn p.1
 omega
theorem BaseS.usd {Z i j E s d} (h : BaseS Z i j E s d) : d.used ≤ 4330 + 940 * i + 100 * j := by
 have h1 := h.used; have h2 := h.psz
 have h3 := h.holdsE.len h.es
 rw [h.nm] at h3; omega
theorem BaseS.len {Z i j E s d} (h : BaseS Z i j E s d) : d.fs.length ≤ i + 4 := by
 have := nodup_le (d.fs.map (·.1)) (nmE s.l.pre :: nmP s.l.pre :: metaOf s.l.pre :: s.l.segs.map (·.nm)) h.dok.nodup fun n hn => by
  have hg : (d.get n).isSome = true := get_in.2 hn
  rcases h.names n hg with rfl | rfl | rfl | ⟨u, hu, rfl⟩
  ·
   exact .head _
  ·
   exact .tail _ (.head _)
  ·
   exact .tail _ (.tail _ (.head _))
  ·
   obtain ⟨t, ht, e⟩ := h.own u hu hg
   exact .tail _ (.tail _ (.tail _ (List.mem_map.2 ⟨t, ht, by rw [(h.ok.seg t ht).2.1, e]⟩)))
 have h3 := h.segs
 simp only [List.length_cons, List.length_map] at this
 omega
theorem last_le {es : List Ep} {E : Int} (h : lastE es ≤ E) {off : Int} (hE : -1 ≤ E) (he : EpsOk es) : lastE (cutE off es) ≤ E := by
 cases hg : (cutE off es).getLast? with
 | none => unfold lastE; rw [hg]; exact hE
 | some x =>
  have := he.le_last x (List.mem_filter.1 (List.mem_of_getLast? hg)).1
  unfold lastE at *; rw [hg]; show x.1 ≤ E; omega
theorem nextE_last {es : List Ep} {ep off : Int} (h : lastE es ≤ ep) : lastE (nextE es ep off) = ep := by
 unfold nextE
 split
 ·
  exact last_snoc _ _
 ·
  omega
theorem nextE_len (es : List Ep) (ep off : Int) : (nextE es ep off).length ≤ es.length + 1 := by
 unfold nextE
 split
 ·
  rw [List.length_append]; have := List.length_filter_le (fun e : Ep => decide (e.2 < off)) es; show (cutE off es).length + 1 ≤ _; unfold cutE; omega
 ·
  omega
theorem nextE_lt {es : List Ep} {ep off n : Int} (h : ∀ e ∈ es, e.2 < off) (hn : off < n) : ∀ e ∈ nextE es ep off, e.2 < n := fun e he => by
 unfold nextE at he
 split at he
 ·
  rcases List.mem_append.1 he with he | he
  ·
   have := h e (List.mem_filter.1 he).1; omega
  ·
   rw [List.mem_singleton.1 he]; exact hn
 ·
  have := h e he; omega
theorem AppTo.segs {l l' : Lx} {d d' : Dk} {b : Bat} (h : AppTo l d b l' d') : l'.segs.length ≤ l.segs.length + 1 := by
 rcases h.how with h | h
 ·
  unfold Lx.segs; rw [h.2.1, List.length_append, List.length_append]; simp
 ·
  have := h.2.1; unfold Lx.segs at this ⊢; rw [this, List.length_append, List.length_append]; simp
theorem pre112 {l : Lx} (h : l.pre = [112]) : Pre l.pre := by rw [h]; exact ⟨by decide, by decide, by decide⟩
theorem kept_used {d : Dk} {s : St} {es : List Ep} {k : Nat} (hd : d.ok) (hn : s.c.nm = nmE s.l.pre) (hu : d.used ≤ (d.file (nmE s.l.pre)).b.length + (d.file (nmP s.l.pre)).b.length + k) : (keptE d s.c es).used ≤ ((keptE d s.c es).file (nmE s.l.pre)).b.length + ((keptE d s.c es).file (nmP s.l.pre)).b.length + k := by
 unfold keptE
 split
 ·
  exact hu
 ·
  rw [hn]
  have h1 := Dk.used_put hd (nmE s.l.pre) ⟨summed (bodyE es), (summed (bodyE es)).length⟩
  rw [Dk.file_put, (Dk.file_put_ne d _ nmP_E).1]
  dsimp only at h1 ⊢; omega
theorem kept_names {d : Dk} {s : St} {es : List Ep} (hn : s.c.nm = nmE s.l.pre) {n : Nm} (h : ((keptE d s.c es).get n).isSome = true) : n = nmE s.l.pre ∨ (d.get n).isSome = true := by
 unfold keptE at h
 split at h
 ·
  exact .inr h
 ·
  rw [hn, Dk.get_put] at h
  split at h
  ·
   rename_i e; exact .inl e
  ·
   exact .inr h
theorem BaseS.took {Z i j E s d s' d'} (h : BaseS Z i j E s d) {ep pid pe seq : Int} {n : Nat} (hA : TookTo s d (smB ep pid pe seq n s.l.next) s' d') (hS : SmOk ep pid pe seq n s.l.next) (hE : E ≤ ep) (hn : n ≤ 3) (h7 : pid ≤ 7) (hl : late (notesOf (pur s.t.m) pid) (smB ep pid pe seq n s.l.next) = false) (hi : i ≤ 60 ∧ j ≤ 60) (hZ : 90000 ≤ Z) : BaseS Z (i + 1) j ep s' d' := by
 have hA1 : AppTo s.l (keptE d s.c (nextE s.c.es ep s.l.next)) (smB ep pid pe seq n s.l.next) s'.l d' := hA.app
 have hus := h.usd
 have hsz := h.size
 have hep := hS.ep
 have hn1 := hS.n
 have hbm : mayN s.l.next := by have := hS.u; unfold mayN; omega
 have hes := h.es.next (ep := ep) (off := s.l.next) hep hbm (by have := h.esl; omega)
 obtain ⟨hB, hH, hU⟩ := kept_facts h.dok h.ok h.nm hes (by omega) h.holdsE
 have hku := kept_used (es := nextE s.c.es ep s.l.next) h.dok h.nm h.used
 have hlast := h.last
 have hen : (smB ep pid pe seq n s.l.next).en = s.l.next + n := sm_en ..
 have hq := hS.enc
 have hnx := hA1.next
 rw [hen] at hnx
 have hnt := h.nn pid
 have hp2 : s'.l.pre = [112] := hA1.pre.trans h.pre
 obtain ⟨f1, f2⟩ := hA1.far (nmE s.l.pre) fun u hu => nmE_far hu
 obtain ⟨g1, g2⟩ := hA1.far (nmP s.l.pre) fun u hu => nmP_far hu
 have hP := (hB.far (nmP s.l.pre) nmP_E).1
 have htm : pur s'.t.m = note (pur s.t.m) (smB ep pid pe seq n s.l.next) := hA.t
 refine ⟨hA1.dok, hA1.ok, hA1.own, hA1.full (hB.full h.full), hA1.short (pre112 h.pre) (hB.short h.short), hp2, by rw [hA.nm, h.nm, hA1.pre], by rw [hnx]; have := h.next; omega, by have := hA1.segs; have := h.segs; omega, by rw [hA1.all, List.length_append]; have := h.all; simp; omega, by rw [hA1.size, hB.size, hsz], ?_, by rw [hA1.pre, g1, hP]; have := h.psz; omega, fun m hm => ?_, by rw [hA.es]; exact hes, by rw [hA.es]; have := nextE_len s.c.es ep s.l.next; have := h.esl; show (nextE s.c.es ep s.l.next).length ≤ _; omega, ?_, ?_, ?_, ?_, ?_, ?_⟩
 ·
  rw [hA1.used, hA1.pre, f1, g1]; omega
 ·
  rw [hA1.pre]
  by_cases hx : ∃ u, u ≤ 1000000000 ∧ m = nameOf s.l.pre u
  ·
   exact .inr (.inr (.inr hx))
  ·
   rw [(hA1.far m fun u hu e => hx ⟨u, hu, e⟩).2] at hm
   rcases kept_names h.nm hm with hm | hm
   ·
    exact .inl hm
   ·
    exact h.names m hm
 ·
  rw [hA.es, hnx]; exact nextE_lt (off := s.l.next) (ep := ep) h.esn (by omega)
 ·
  rw [hA.es]; show lastE (nextE s.c.es ep s.l.next) ≤ ep; rw [nextE_last (by omega)]; exact Int.le_refl _
 ·
  rw [hA.nm, hA.es]
  refine HoldsE.same (d := keptE d s.c (nextE s.c.es ep s.l.next)) hH ?_ ?_
  ·
   rw [h.nm]; exact f1
  ·
   rw [h.nm]; exact congrArg Option.isSome f2
 ·
  rw [htm]; exact h.tab.note hl ⟨by show 0 < pid; have := hS.pid; omega, hS.pid.2⟩ (NtOk.sm hS) (by show (notesOf _ pid).length < _; omega)
 ·
  rw [htm, note_is hl]
  intro p hp
  rcases mset_in hp with rfl | hp
  ·
   exact h7
  ·
   exact h.keys p hp
 ·
  rw [htm, note_is hl]
  intro p hp x hx
  rcases mset_in hp with rfl | hp
  ·
   rcases List.mem_append.1 hx with hx | hx
   ·
    have := h.noff pid x hx; omega
   ·
    rw [List.mem_singleton.1 hx]; show s.l.next < _; omega
  ·
   have := h.offs p hp x hx; omega
structure PlainS (s : St) (d : Dk) : Prop where
 start : s.l.start = 0
 base : baseOf s.l = 0
 high : s.l.high = 0
 num : (d.get (metaOf s.l.pre)).isSome = false
 pids : (d.get (nmP s.l.pre)).isSome = false
 es : s.c.es = epsOf s.l.all
 t : pur s.t.m = s.l.all.foldl note []
 notes : NotesOk [] s.l.all
 eps : ∀ b ∈ s.l.all, 0 ≤ b.epoch ∧ b.epoch ≤ lastE s.c.es
theorem NotesOk.snoc {t : Tm} {bs : List Bat} {b : Bat} (h : NotesOk t bs) (h1 : TabOk (bs.foldl note t)) (h2 : 0 < b.pid) (h3 : b.fits) (h4 : right b = 0) (h5 : late (notesOf (bs.foldl note t) b.pid) b = false) : NotesOk t (bs ++ [b]) := fun i x hx => by
 by_cases hi : i < bs.length
 ·
  rw [List.getElem?_append_left hi] at hx
  rw [List.take_append_of_le_length (Nat.le_of_lt hi)]
  exact h i x hx
 ·
  have hi2 := (List.getElem?_eq_some_iff.1 hx).1
  rw [List.length_append] at hi2
  have e : i = bs.length := by simp at hi2; omega
  subst e
  rw [List.getElem?_append_right (Nat.le_refl _), Nat.sub_self] at hx
  cases hx
  rw [List.take_append_of_le_length (Nat.le_refl _), List.take_length]
  exact ⟨h1, h2, h3, h4, h5⟩
theorem cutE_id {es : List Ep} {off : Int} (h : ∀ e ∈ es, e.2 < off) : cutE off es = es := List.filter_eq_self.2 fun e he => decide_eq_true (h e he)
theorem nextE_step {es : List Ep} {b : Bat} (h : lastE es ≤ b.epoch) (ho : ∀ e ∈ es, e.2 < b.base) : nextE es b.epoch b.base = epStep es b := by
 unfold nextE epStep
 by_cases e : lastE es = b.epoch
 ·
  rw [if_neg (by omega), if_pos e]
 ·
  rw [if_pos (by omega), if_neg e, cutE_id ho]
theorem PlainS.took {Z i j E s d s' d'} (hb : BaseS Z i j E s d) (h : PlainS s d) {ep pid pe seq : Int} {n : Nat} (hA : TookTo s d (smB ep pid pe seq n s.l.next) s' d') (hS : SmOk ep pid pe seq n s.l.next) (hE : E ≤ ep) (hl : late (notesOf (pur s.t.m) pid) (smB ep pid pe seq n s.l.next) = false) (hi : i ≤ 60 ∧ j ≤ 60) (hZ : 90000 ≤ Z) : PlainS s' d' := by
 have hA1 : AppTo s.l (keptE d s.c (nextE s.c.es ep s.l.next)) (smB ep pid pe seq n s.l.next) s'.l d' := hA.app
 have hus := hb.usd
 have hsz := hb.size
 have hep := hS.ep
 have hbm : mayN s.l.next := by have := hS.u; unfold mayN; omega
 have hes := hb.es.next (ep := ep) (off := s.l.next) hep hbm (by have := hb.esl; omega)
 obtain ⟨hB, _, _⟩ := kept_facts hb.dok hb.ok hb.nm hes (by omega) hb.holdsE
 have hlast := hb.last
 have hmeta := (hA1.far (metaOf s.l.pre) fun u hu e => nameOf_meta (by omega) e.symm).2
 have hpids := (hA1.far (nmP s.l.pre) fun u hu => nmP_far hu).2
 have hm2 := (hB.far (metaOf s.l.pre) nmE_meta.symm).2
 have hp2 := (hB.far (nmP s.l.pre) nmP_E).2
 have htm : pur s'.t.m = note (pur s.t.m) (smB ep pid pe seq n s.l.next) := hA.t
 have he : s'.c.es = nextE s.c.es ep s.l.next := hA.es
 have hl2 : lastE s'.c.es = ep := by rw [he]; exact nextE_last (by omega)
 refine ⟨hA1.start.trans h.start, hA1.base.trans h.base, hA1.high.trans h.high, ?_, ?_, ?_, ?_, ?_, fun b hbm => ?_⟩
 ·
  rw [hA1.pre, hmeta]
  show ((keptE d s.c (nextE s.c.es ep s.l.next)).get _).isSome = false
  rw [hm2]; exact h.num
 ·
  rw [hA1.pre, hpids]
  show ((keptE d s.c (nextE s.c.es ep s.l.next)).get _).isSome = false
  rw [hp2]; exact h.pids
 ·
  rw [he, hA1.all, epsOf_snoc, ← h.es]
  exact nextE_step (b := smB ep pid pe seq n s.l.next) (by show _ ≤ ep; omega) hb.esn
 ·
  rw [htm, hA1.all, List.foldl_append, ← h.t]; rfl
 ·
  rw [hA1.all]
  exact h.notes.snoc (by rw [← h.t]; exact hb.tab.toTabOk) (by show 0 < pid; have := hS.pid; omega) hS.fits hS.right (by rw [← h.t]; exact hl)
 ·
  rw [hA1.all] at hbm
  rw [hl2]
  unfold mayN at hep
  rcases List.mem_append.1 hbm with hbm | hbm
  ·
   have := h.eps b hbm; omega
  ·
   rw [List.mem_singleton.1 hbm]; exact ⟨by show 0 ≤ ep; omega, Int.le_refl _⟩
end Go.Proofs.YtoglbebcdjdkiaaGreatDoor
/- Chapter 6: the numbers of the examples, in plain Lean. -/
namespace Go.Proofs.YtoglbebcdjdkiaaGreatDoor
open Go Go.Sp
structure Stage (l : Lx) (d : Dk) (bs : List Bat) (s : Nat) (st hi : Int) (u n : Nat) : Prop where
 ok : l.ok d
 dok : d.ok
 ini : l.ini = []
 bs : l.cur.bs = bs
 base : l.cur.base = 0
 start : l.start = st
 high : l.high = hi
 pre : l.pre = [112]
 most : l.most = 256
 own : Own l d
 short : Short d
 size : d.size = 10000
 used : d.used ≤ u
 len : d.fs.length ≤ n
 safe : (d.file l.cur.nm).safe = s
theorem prep : Pre [112] := ⟨by decide, by decide, by decide⟩
theorem dk0_short (z : Nat) : Short (Dk.mk z []) := fun _ h => by cases h
section
variable {l l' : Lx} {d d' : Dk} {bs : List Bat} {s : Nat} {st hi : Int} {u n : Nat}
end
def b3 : List Bat := [sb 1 0, sb 1 1, sb 1 2]
theorem en1 (u : Int) : (sb 1 u).en = u + 1 := sb_en 1 u
def nine (lb : Nat) (s : Nat) (sm : List Nat) (aa : Option Addr) (ac : Nat) (ia : Option Addr) (ic : Nat) (qa : Option Addr) (qc : Nat) : Lx := ⟨lb, [112], 256, 9, 9, [], ⟨s, nameOf [112] 9, 9, [], sm, aa, ac, ia, ic⟩, qa, qc⟩
end Go.Proofs.YtoglbebcdjdkiaaGreatDoor
/- Chapter 6: what a read of a log tells; two logs on one disk, in plain Lean. -/
namespace Go.Proofs.YtoglbebcdjdkiaaGreatDoor
open Go Go.Sp
def icI (n : Int) : List Value := [.int .i64 n]
theorem icI_len (n : Int) : (icI n).length = 1 := rfl
theorem icI_ones (n : Int) : ones (icI n) := .of rfl
theorem nextOf_off {off : Int} : ∀ {n : Int} {l : List Bat}, n ≤ off → (∀ b ∈ l, b.en ≤ off) → nextOf n l ≤ off
 | _, [], h, _ => h
 | _, b :: l, _, h => nextOf_off (l := l) (h b (.head _)) fun x hx => h x (.tail _ hx)
def Flow (off : Int) (R : List Bat) : Prop := ∀ i y, R[i]? = some y → y.base ≤ nextOf off (R.take i) ∧ nextOf off (R.take i) < y.en ∧ (0 < i → y.base = nextOf off (R.take i))
theorem ok_far {l : Lx} {d d' : Dk} (h : l.ok d) (hf : ∀ s ∈ l.segs, d'.file s.nm = d.file s.nm ∧ d'.get s.nm = d.get s.nm) : l.ok d' := by
 refine ⟨h.pre, fun s hs => ?_, h.link, h.ne, h.start, h.high, h.most, h.len⟩
 obtain ⟨k1, k2, k3, k4⟩ := h.seg s hs
 obtain ⟨m1, m2⟩ := hf s hs
 exact ⟨k1, k2, by rw [m2]; exact k3, by rw [m1]; exact k4⟩
theorem ab_ne (u v : Nat) : nameOf [97] u ≠ nameOf [98] v := fun e => by
 have := congrArg (fun l : Nm => l.head?) e
 simp [nameOf] at this
theorem seg_name {l : Lx} {d : Dk} (h : l.ok d) {s : Sx} (hs : s ∈ l.segs) : ∃ u, s.nm = nameOf l.pre u := ⟨_, (h.seg s hs).2.1⟩
structure Duo (i : Nat) (a b : Lx) (d : Dk) : Prop where
 aok : a.ok d
 bok : b.ok d
 dok : d.ok
 aown : Own a d
 bown : Own b d
 short : Short d
 apre : a.pre = [97]
 bpre : b.pre = [98]
 all : a.all = b.all
 abase : baseOf a = 0
 bbase : baseOf b = 0
 ast : a.start = 0
 bst : b.start = 0
 alen : a.segs.length ≤ i + 1
 blen : b.segs.length ≤ i + 1
 num : a.all.length = i
 nx : a.next ≤ 20 * i
 size : d.size = 1000000
 used : d.used ≤ 456 * i
 len : d.fs.length ≤ 2 + 2 * i
theorem app_segs {l l' : Lx} {d d' : Dk} {b : Bat} (h : AppTo l d b l' d') : l'.segs.length ≤ l.segs.length + 1 := by
 unfold Lx.segs
 rcases h.how with ⟨_, h1, _⟩ | ⟨_, h1, _⟩
 ·
  rw [h1, List.length_append, List.length_append]; simp
 ·
  rw [h1, List.length_append]; unfold Lx.segs; simp
end Go.Proofs.YtoglbebcdjdkiaaGreatDoor
/- Chapter 6: a log of some batches, in plain Lean. -/
namespace Go.Proofs.YtoglbebcdjdkiaaGreatDoor
open Go Go.Sp
structure Filled (i : Nat) (l : Lx) (d : Dk) : Prop where
 ok : l.ok d
 dok : d.ok
 own : Own l d
 full : Full l d
 short : Short d
 pre : l.pre = [112]
 base : baseOf l = 0
 start : l.start = 0
 high : l.high = 0
 num : l.all.length = i
 nx : l.next ≤ 20 * i
 size : d.size = 2000000
 used : d.used ≤ 228 * i
 len : d.fs.length ≤ 1 + i
 segs : l.segs.length ≤ i + 1
 nums : (d.get (metaOf [112])).isSome = false
theorem len_next : ∀ {n : Int} {l : List Bat}, Chain n l → (∀ b ∈ l, b.good) → (l.length : Int) ≤ nextOf n l - n
 | n, [], _, _ => by show (0 : Int) ≤ n - n; omega
 | n, b :: l, hc, hg => by
  have h1 := len_next hc.2 fun x hx => hg x (.tail _ hx)
  have h2 := (hg b (.head _)).lt
  have h3 : b.base = n := hc.1
  rw [List.length_cons]
  show ((l.length + 1 : Nat) : Int) ≤ nextOf b.en l - n
  omega
end Go.Proofs.YtoglbebcdjdkiaaGreatDoor
/- Chapter 6: a log that is cut and gone on with, in plain Lean. -/
namespace Go.Proofs.YtoglbebcdjdkiaaGreatDoor
open Go Go.Sp
theorem cut_take {off : Int} : ∀ {n : Int} {l : List Bat}, Chain n l → (∀ b ∈ l, b.good) → ∀ (j : Nat), (∀ b ∈ l.take j, b.en ≤ off) → (∀ b, l[j]? = some b → ¬ b.en ≤ off) → cutN off l = l.take j
 | _, [], _, _, j, _, _ => by rw [List.take_nil]; rfl
 | n, b :: l, hc, hg, 0, _, h2 => by
  have hb := h2 b rfl
  refine List.filter_eq_nil_iff.2 fun x hx => ?_
  have : ¬ x.en ≤ off := by
   rcases List.mem_cons.1 hx with rfl | hx
   ·
    exact hb
   ·
    obtain ⟨i, hi⟩ := List.getElem?_of_mem hx
    have h1 := (hc.2.at hi).1
    have h2 := hc.2.mono (fun y hy => hg y (.tail _ hy)) (i := 0) (j := i) (Nat.zero_le _)
    have h3 : nextOf b.en (l.take 0) = b.en := rfl
    have h4 := (hg x (.tail _ hx)).lt
    omega
  simpa using this
 | n, b :: l, hc, hg, j + 1, h1, h2 => by
  have hb : b.en ≤ off := h1 b (by rw [List.take_succ_cons]; exact .head _)
  have ih := cut_take hc.2 (fun x hx => hg x (.tail _ hx)) j (fun x hx => h1 x (by rw [List.take_succ_cons]; exact .tail _ hx)) fun x hx => h2 x (by rw [List.getElem?_cons_succ]; exact hx)
  rw [List.take_succ_cons, ← ih]
  exact List.filter_cons_of_pos (by simpa using hb)
theorem cut_pre {off : Int} : ∀ {n : Int} {l : List Bat}, Chain n l → (∀ b ∈ l, b.good) → ∃ j, cutN off l = l.take j
 | _, [], _, _ => ⟨0, rfl⟩
 | n, b :: l, hc, hg => by
  by_cases h : b.en ≤ off
  ·
   obtain ⟨j, hj⟩ := cut_pre (off := off) hc.2 fun x hx => hg x (.tail _ hx)
   exact ⟨j + 1, by rw [List.take_succ_cons, ← hj]; exact List.filter_cons_of_pos (by simpa using h)⟩
  ·
   exact ⟨0, cut_take hc hg 0 (fun _ hx => by cases hx) fun x hx => by cases hx; exact h⟩
theorem cut_len (n : Int) (l : List Bat) : (cutN n l).length ≤ l.length := List.length_filter_le ..
structure Gone (i : Nat) (l : Lx) (d : Dk) : Prop where
 ok : l.ok d
 dok : d.ok
 own : Own l d
 start : l.start = 0
 num : l.all.length ≤ 60 + i
 nx : l.next ≤ 1200 + 9 * i
 size : d.size = 2000000
 used : d.used ≤ 13680 + 140 * i
 len : d.fs.length ≤ 61 + i
 segs : l.segs.length ≤ 61 + i
end Go.Proofs.YtoglbebcdjdkiaaGreatDoor
/- Chapter 6: what a crash leaves, in plain Lean. -/
namespace Go.Proofs.YtoglbebcdjdkiaaGreatDoor
open Go Go.Sp
def Crashed (f g : Fl) : Prop := ∃ z, f.safe ≤ z ∧ z ≤ f.b.length ∧ g = ⟨f.b.take z, z⟩
structure CrashI (d : Dk) (done : List Nm) (e : Dk) : Prop where
 dok : e.ok
 size : e.size = d.size
 keys : e.fs.map (·.1) = d.fs.map (·.1)
 used : e.used ≤ d.used
 did : ∀ n ∈ done, Crashed (d.file n) (e.file n)
 left : ∀ n, n ∉ done → e.file n = d.file n
theorem mset_keys {d : Dk} {n : Nm} {f : Fl} (h : (d.get n).isSome = true) : (mset d.fs n f).map (·.1) = d.fs.map (·.1) := by
 unfold mset
 have h1 := mget_mem (Dk.get_some.1 h)
 rw [if_pos (List.any_eq_true.2 ⟨_, h1, by simp⟩), List.map_map]
 refine List.map_congr_left fun p _ => ?_
 simp only [Function.comp]
 split <;> rfl
theorem CrashI.get {d e : Dk} {done : List Nm} (h : CrashI d done e) (n : Nm) : (e.get n).isSome = true ↔ (d.get n).isSome = true := by rw [get_in, get_in, h.keys]
theorem CrashI.begin {d : Dk} (hd : d.ok) : CrashI d [] d := ⟨hd, rfl, rfl, Nat.le_refl _, fun _ h => (by cases h), fun _ _ => rfl⟩
theorem CrashI.keep {d e : Dk} {done : List Nm} (h : CrashI d done e) {n : Nm} (hn : n ∉ done) (hm : (d.file n).safe = (d.file n).b.length) : CrashI d (done ++ [n]) e := by
 refine ⟨h.dok, h.size, h.keys, h.used, fun m hm' => ?_, fun m hm' => h.left m fun hx => hm' (List.mem_append_left _ hx)⟩
 rcases List.mem_append.1 hm' with hx | hx
 ·
  exact h.did m hx
 ·
  rw [List.mem_singleton.1 hx, h.left n hn]
  refine ⟨(d.file n).b.length, by omega, Nat.le_refl _, ?_⟩
  rw [List.take_length, ← hm]
theorem CrashI.step {d e : Dk} {done : List Nm} (h : CrashI d done e) {n : Nm} {z : Nat} (hn : n ∉ done) (hg : (d.get n).isSome = true) (h1 : (d.file n).safe ≤ z) (h2 : z ≤ (d.file n).b.length) : CrashI d (done ++ [n]) (e.put n ⟨(d.file n).b.take z, z⟩) := by
 have hl := h.left n hn
 have hge := (h.get n).2 hg
 have hu := Dk.used_put h.dok n ⟨(d.file n).b.take z, z⟩
 rw [hl] at hu
 dsimp only at hu
 have ht : ((d.file n).b.take z).length = z := by rw [List.length_take]; omega
 refine ⟨Dk.ok_put h.dok (by dsimp only; rw [hl, ht]; have := h.dok.used; omega) (by dsimp only; omega), h.size, (mset_keys hge).trans h.keys, by have := h.used; omega, fun m hm => ?_, fun m hm => ?_⟩
 ·
  rcases List.mem_append.1 hm with hx | hx
  ·
   rw [(Dk.file_put_ne _ _ (fun e => hn (e ▸ hx) : m ≠ n)).1]; exact h.did m hx
  ·
   rw [List.mem_singleton.1 hx, Dk.file_put]
   exact ⟨z, h1, h2, rfl⟩
 ·
  rw [(Dk.file_put_ne _ _ (fun e => hm (e ▸ List.mem_append_right _ (.head _)) : m ≠ n)).1]
  exact h.left m fun hx => hm (List.mem_append_left _ hx)
structure CrashTo (d e : Dk) : Prop where
 dok : e.ok
 size : e.size = d.size
 keys : e.fs.map (·.1) = d.fs.map (·.1)
 used : e.used ≤ d.used
 file : ∀ n, Crashed (d.file n) (e.file n)
 get : ∀ n, (e.get n).isSome = (d.get n).isSome
theorem CrashI.all {d e : Dk} {done : List Nm} (h : CrashI d done e) (hd : d.ok) (ha : ∀ n, n ∈ d.fs.map (·.1) → n ∈ done) : CrashTo d e := by
 refine ⟨h.dok, h.size, h.keys, h.used, fun n => ?_, fun n => Bool.eq_iff_iff.2 (h.get n)⟩
 by_cases hn : n ∈ done
 ·
  exact h.did n hn
 ·
  rw [h.left n hn]
  have hz : d.file n = fl0 := Dk.file_none (Bool.eq_false_iff.2 fun hs => hn (ha n (get_in.1 hs)))
  rw [hz]; exact ⟨0, Nat.le_refl _, Nat.le_refl _, rfl⟩
theorem row_tail {a : Option Addr} {x : Int} {kl : List Int} {kc : Nat} {w : World} {b o : Nat} (ha : a = some ⟨b, o, none⟩) (h : RowAt a ((x :: kl).flatMap icI) w) (hc : kl.length + 1 ≤ kc) : RowAt (if kc = 1 then a else a.map (·.add (1 * 1))) (kl.flatMap icI) w := by
 subst ha
 rcases h with h | ⟨b', o', ho, hcl⟩
 ·
  cases h
 ·
  cases ho
  by_cases h0 : kl = []
  ·
   exact .inl (by rw [h0]; rfl)
  ·
   have : 0 < kl.length := List.length_pos_iff.2 h0
   rw [if_neg (by omega)]
   have h1 := hcl.sub 1 (kl.flatMap icI).length
   have e : (((x :: kl).flatMap icI).drop 1).take (kl.flatMap icI).length = kl.flatMap icI := by rw [List.flatMap_cons]; show (kl.flatMap icI).take _ = _; rw [List.take_length]
   rw [e] at h1
   exact .inr ⟨b, o + 1, rfl, h1⟩
end Go.Proofs.YtoglbebcdjdkiaaGreatDoor
/- Chapter 6: what was kept is read as it was, in plain Lean. -/
namespace Go.Proofs.YtoglbebcdjdkiaaGreatDoor
open Go Go.Sp
theorem dec_ne (u : Nat) : Lib.decDigits u ≠ [] := by
 rw [Lib.decDigits]; split <;> simp
theorem dec_head : ∀ (u : Nat) (c : UInt8) (l : List UInt8), Lib.decDigits u = c :: l → c = 48 → u = 0 := fun u => by
 induction u using Nat.strongRecOn with
 | _ u ih =>
  intro c l h hc
  rw [Lib.decDigits] at h
  split at h
  ·
   rename_i h1
   cases h
   have h2 := congrArg UInt8.toNat hc
   rw [dig_nat h1] at h2
   have : (48 : UInt8).toNat = 48 := rfl
   omega
  ·
   rename_i h1
   cases e : Lib.decDigits (u / 10) with
   | nil => exact absurd e (dec_ne _)
   | cons x t =>
    rw [e] at h
    cases h
    have := ih (u / 10) (by omega) _ _ e hc
    omega
theorem dec_zero : Lib.decDigits 0 = [48] := by rw [Lib.decDigits]; rfl
theorem digit_32 : ¬ digit 32 := fun h => by have := h.1; have e : (32 : UInt8).toNat = 32 := rfl; omega
theorem cut_mt (z w : Nat) : Lib.cut (Lib.decDigits z ++ [32] ++ Lib.decDigits w) [32] = (Lib.decDigits z, Lib.decDigits w, true) := by
 have hi : Lib.index (Lib.decDigits z ++ [32] ++ Lib.decDigits w) [32] = ((Lib.decDigits z).length : Nat) := by
  refine Lib.index_first (by simp only [List.length_append]; omega) ?_ fun j hj => ?_
  ·
   unfold Lib.occAt; rw [List.append_assoc, List.drop_left]; simp
  ·
   refine Bool.eq_false_iff.2 fun h => ?_
   have h1 := Lib.occAt_head rfl h
   rw [List.append_assoc, List.getElem?_append_left hj] at h1
   exact digit_32 (dec_digit z _ (List.mem_of_getElem? h1))
 unfold Lib.cut
 rw [if_pos (by rw [hi]; omega), hi]
 refine Prod.ext ?_ (Prod.ext ?_ rfl)
 ·
  show (Lib.decDigits z ++ [32] ++ Lib.decDigits w).take ((Lib.decDigits z).length : Int).toNat = _
  rw [Int.toNat_natCast, List.append_assoc, List.take_left]
 ·
  show (Lib.decDigits z ++ [32] ++ Lib.decDigits w).drop (((Lib.decDigits z).length : Int).toNat + 1) = _
  rw [Int.toNat_natCast]
  exact List.drop_left' (by simp)
theorem suf_mt (z w : Nat) : Lib.hasSuffix (mt z w) [10] = true ∧ Lib.trimSuffix (mt z w) [10] = Lib.decDigits z ++ [32] ++ Lib.decDigits w := by
 have h : Lib.hasSuffix (mt z w) [10] = true := List.isSuffixOf_iff_suffix.2 (List.suffix_append _ _)
 refine ⟨h, ?_⟩
 unfold Lib.trimSuffix
 rw [if_pos h]
 unfold mt
 rw [List.length_append, Nat.add_sub_cancel, List.take_left]
end Go.Proofs.YtoglbebcdjdkiaaGreatDoor
namespace Go.Proofs.YtoglbebcdjdkiaaGreatDoor
open Go Go.Sp
set_option linter.unusedVariables false
namespace log19
theorem na24 : NotAgg Tryz.prog 24 := ⟨_, Tryz.underlying24, trivial⟩
theorem na9 : NotAgg Tryz.prog 9 := ⟨_, Tryz.underlying9, trivial⟩
theorem ts3 : TS Tryz.prog 3 1 := .of (by kernel_rfl)
theorem na3 : NotAgg Tryz.prog 3 := ⟨_, Tryz.underlying3, trivial⟩
end log19
open log19
theorem u8_48 {c : UInt8} (h : decide (((c.toNat : Nat) : Int) = 48) = true) : c = 48 := by
 have h1 := of_decide_eq_true h
 exact UInt8.toNat_inj.1 (by have : (48 : UInt8).toNat = 48 := rfl; omega)
set_option maxHeartbeats 4000000 in
set_option maxRecDepth 20000 in
theorem number_ok (z : Nat) (hz : z ≤ 1000000000) : Cn Tryz.prog 107 [.string (str (Lib.decDigits z))] (fun _ => True) [] fun v G => v = .tuple #[.int .i64 (z : Nat), .bool true] ∧ G = [] := by
 refine .enter Tryz.func107 rfl (by kernel_rfl) rfl fun R k => ?_
 have hdl := dec_len (u := z) (by omega)
 have hne := dec_ne z
 obtain ⟨c, r, hcr⟩ := List.exists_cons_of_ne_nil hne
 refine .goO fds 9 ?_
 refine .rd (.eqT (m := []) rfl rfl) ?_
 refine .alter (t := 7) (v' := .bool false) rfl (congrArg Value.bool (decide_eq_false hne)) ?_
 refine .go fds 2 ?_
 refine .on (t := 8) rfl rfl ?_
 refine .rd (.lenT rfl rfl Tryz.underlying9 rfl) ?_
 refine .go fds 1 ?_
 refine .alter (t := 11) (v' := .bool false) rfl (congrArg Value.bool (decide_eq_false (by omega))) ?_
 refine .go fds 3 ?_
 refine .on (t := 13) rfl rfl ?_
 refine .fn rfl rfl .nil (fun _ _ _ => trivial) (trim_ok (Lib.decDigits z) dig10 (by omega) (by decide) (by decide)) (fun v G1 hq => ?_)
 obtain ⟨rfl, rfl⟩ := hq
 simp only [List.nil_append]
 refine .on (t := 13) rfl rfl ?_
 refine .rd (.neT (m := []) rfl rfl) ?_
 refine .alter (t := 16) (v' := .bool false) rfl (congrArg Value.bool (by rw [decide_eq_true (trim_nil.2 fun c hc => digit_dig10 (dec_digit z c hc))]; rfl)) ?_
 refine .go fds 3 ?_
 refine .on (t := 18) rfl rfl ?_
 refine .rd (.indexT (b := c) Tryz.underlying9 rfl rfl (by decide) (by rw [hcr]; rfl)) ?_
 refine .go fds 2 ?_
 refine .split (t := 22) rfl (fun g16 => ?_) (fun g16 => ?_)
 ·
  have hz0 : z = 0 := dec_head z c r hcr (u8_48 g16)
  refine .go fds 1 ?_
  refine .on (t := 22) rfl rfl ?_
  refine .rd (.neT (m := [48]) rfl rfl) ?_
  refine .alter (t := 24) (v' := .bool false) rfl (congrArg Value.bool (by rw [hz0, decide_eq_true dec_zero]; rfl)) ?_
  refine .goO fds 8 ?_
  refine .fn rfl rfl .nil (fun _ _ _ => trivial) (atoi_ok (Lib.decDigits z) (dec_ne z) (dec_digit z) (by omega)) (fun v G1 hq => ?_)
  obtain ⟨rfl, rfl⟩ := hq
  simp only [List.nil_append]
  refine .alter (t := 29) (v' := .tuple #[.int .i64 (z : Nat), .nilIface]) rfl (by rw [val_dec]) ?_
  refine .goO fds 10 ?_
  refine .rd (.eqNilI Tryz.underlying166 rfl) ?_
  refine .go fds 3 ?_
  refine .alter (t := 37) (v' := .bool true) rfl (congrArg Value.bool (decide_eq_true (by omega))) ?_
  refine .goR fds 4 ?_
  refine .retP Tryz.func107 (.cons (.tmp rfl) (.cons (.tmp rfl) .nil)) (.cons .head .nil) ?_
  exact ⟨[], ⟨rfl, rfl⟩, rfl⟩
 ·
  replace g16 := of_decide_eq_false g16
  refine .goO fds 10 ?_
  refine .fn rfl rfl .nil (fun _ _ _ => trivial) (atoi_ok (Lib.decDigits z) (dec_ne z) (dec_digit z) (by omega)) (fun v G1 hq => ?_)
  obtain ⟨rfl, rfl⟩ := hq
  simp only [List.nil_append]
  refine .alter (t := 29) (v' := .tuple #[.int .i64 (z : Nat), .nilIface]) rfl (by rw [val_dec]) ?_
  refine .goO fds 10 ?_
  refine .rd (.eqNilI Tryz.underlying166 rfl) ?_
  refine .go fds 3 ?_
  refine .alter (t := 37) (v' := .bool true) rfl (congrArg Value.bool (decide_eq_true (by omega))) ?_
  refine .goR fds 4 ?_
  refine .retP Tryz.func107 (.cons (.tmp rfl) (.cons (.tmp rfl) .nil)) (.cons .head .nil) ?_
  exact ⟨[], ⟨rfl, rfl⟩, rfl⟩
set_option maxHeartbeats 4000000 in
set_option maxRecDepth 20000 in
theorem kept1_ok (lb db mb : Nat) (d : Dk) (p : Option Addr) (pre : Nm) (most start high : Int) (la : Option Addr) (n lc : Nat) (z w : Nat) (hp : Pre pre) (hm : (d.get (metaOf pre)).isSome = true) (hf : (d.file (metaOf pre)).b = mt z w) (hz : z ≤ 1000000000) (hw : w ≤ 1000000000) (hzw : z ≤ w) : Cn Tryz.prog 65 [.pointer (some ⟨lb, 0, none⟩)] LV [blk lb (lcells p db pre most start high la n lc) 57, blk db (d.cells mb) 74, mp nmv Fl.val mb d.fs] fun v G => v = .bool true ∧ G = [blk lb (lcells p db pre most (z : Int) (w : Int) la n lc) 57, blk db (d.cells mb) 74, mp nmv Fl.val mb d.fs] := by
 refine .enter Tryz.func65 rfl (by kernel_rfl) rfl fun R k => ?_
 have h3 := hp.len
 have h1 := dec_len (u := z) (by omega)
 have h2 := dec_len (u := w) (by omega)
 have h4 := mt_len hz hw
 refine .go fds 5 ?_
 refine .draws [3, 7] [blk lb (lcells p db pre most start high la n lc) 57] (by kernel_rfl) ?_
 refine .goD fds [0] ?_
 refine .goD fds [1] ?_
 refine .goD fds [2] ?_
 refine .rd 3 rfl rfl (by kernel_rfl) (by kernel_rfl) (by kernel_rfl) (.ld na24 rfl .head rfl) (.cons .head .nil) ?_
 refine .goD fds [4] ?_
 refine .goD fds [5] ?_
 refine .goD fds [6] ?_
 refine .rd 7 rfl rfl (by kernel_rfl) (by kernel_rfl) (by kernel_rfl) (.ld na9 rfl .head rfl) (.cons .head .nil) ?_
 refine .rp 8 rfl (by kernel_rfl) (by kernel_rfl) (by kernel_rfl) (Reads.pure (.catT (l := pre) (m := [46, 109, 101, 116, 97]) rfl rfl (by (repeat rw [List.length_append]); simp only [List.length_cons, List.length_nil]; omega))) ?_
 refine .alter (t := 20) (v' := .string (str (metaOf pre))) rfl (rfl) ?_
 refine .ef 9 (by kernel_rfl) rfl (.fn rfl rfl (.cons (.tail .head) (.cons (.tail .head) .nil)) (fun _ _ _ => trivial) (Read_ok db mb d (metaOf pre))) ?_
 rintro v _ ⟨G1, hq, rfl⟩
 obtain ⟨rfl, rfl⟩ := hq
 simp only [List.cons_append, List.nil_append]
 refine ⟨.inl (by kernel_rfl), ?_⟩
 refine .alter (t := 21) (v' := .tuple #[.string (str (mt z w)), .int .i64 0]) rfl (by rw [if_pos hm, hf]) ?_
 refine .goD fds [10] ?_
 refine .goD fds [11] ?_
 refine .goD fds [12] ?_
 refine .goD fds [13] ?_
 refine .goD fds [14] ?_
 refine .done (by kernel_rfl) ?_
 refine .goO fds 11 ?_
 refine .fn rfl rfl .nil (fun _ _ _ => trivial) (cuts_ok (mt z w) [10] (by omega)) (fun v G1 hq => ?_)
 obtain ⟨rfl, rfl⟩ := hq
 simp only [List.nil_append]
 refine .alter (t := 28) (v' := .tuple #[.string (str (Lib.decDigits z ++ [32] ++ Lib.decDigits w)), .bool true]) rfl (by rw [(suf_mt z w).1, (suf_mt z w).2]) ?_
 refine .goO fds 9 ?_
 refine .fn rfl rfl .nil (Knows.pick (.tail (.tail (.tail .head))) k) (cut_ok (Lib.decDigits z ++ [32] ++ Lib.decDigits w) [32] (by simp only [List.length_append, List.length_cons, List.length_nil]; omega)) (fun v G1 hq => ?_)
 obtain ⟨rfl, rfl⟩ := hq
 simp only [List.nil_append]
 refine .alter (t := 33) (v' := .tuple #[.string (str (Lib.decDigits z)), .string (str (Lib.decDigits w)), .bool true]) rfl (by rw [cut_mt]) ?_
 refine .goO fds 17 ?_
 refine .fn rfl rfl .nil (fun _ _ _ => trivial) (number_ok z (by omega)) (fun v G1 hq => ?_)
 obtain ⟨rfl, rfl⟩ := hq
 simp only [List.nil_append]
 refine .go fds 5 ?_
 refine .ef0 (.store ts3 rfl rfl (.tail (.tail .head)) rfl (Nat.le_of_ble_eq_true rfl)) ?_
 rintro _ _ rfl
 refine .goO fds 6 ?_
 refine .fn rfl rfl .nil (fun _ _ _ => trivial) (number_ok w (by omega)) (fun v G1 hq => ?_)
 obtain ⟨rfl, rfl⟩ := hq
 simp only [List.nil_append]
 refine .go fds 5 ?_
 refine .ef0 (.store ts3 rfl rfl .head rfl (Nat.le_of_ble_eq_true rfl)) ?_
 rintro _ _ rfl
 refine .goR fds 2 ?_
 refine .cast (X' := blk lb (lcells p db pre most (z : Int) (w : Int) la n lc) 57) (rfl) ?_
 refine .seq ?_
 refine .draws [14, 18] [blk lb (lcells p db pre most (z : Int) (w : Int) la n lc) 57] (by kernel_rfl) ?_
 refine .goD fds [0] ?_
 refine .goD fds [1] ?_
 refine .goD fds [2] ?_
 refine .goD fds [3] ?_
 refine .goD fds [4] ?_
 refine .goD fds [5] ?_
 refine .goD fds [6] ?_
 refine .goD fds [7] ?_
 refine .goD fds [8] ?_
 refine .goD fds [9] ?_
 refine .goD fds [10] ?_
 refine .goD fds [11] ?_
 refine .goD fds [12] ?_
 refine .goD fds [13] ?_
 refine .rdG 14 (t := 63) rfl rfl rfl rfl (by kernel_rfl) (by kernel_rfl) (by kernel_rfl) (.ld na3 rfl .head rfl) (.cons .head .nil) ?_
 refine .goD fds [15] ?_
 refine .goD fds [16] ?_
 refine .goD fds [17] ?_
 refine .rdG 18 (t := 63) rfl rfl rfl rfl (by kernel_rfl) (by kernel_rfl) (by kernel_rfl) (.ld na3 rfl .head rfl) (.cons .head .nil) ?_
 refine .goD fds [19] ?_
 refine .alter (t := 72) (v' := .bool true) rfl (congrArg Value.bool (decide_eq_true (by omega))) ?_
 refine .goD fds [20] ?_
 refine .goD fds [21] ?_
 refine .done (by kernel_rfl) ?_
 refine .cast (X' := blk lb (lcells p db pre most (z : Int) (w : Int) la n lc) 57) (rfl) ?_
 refine .retP Tryz.func65 (.cons (.tmp rfl) .nil) (.cons .head (.cons .head (.cons .head (.cons .head .nil)))) ?_
 exact ⟨[_, _, _], ⟨rfl, rfl⟩, rfl⟩
set_option maxHeartbeats 4000000 in
set_option maxRecDepth 20000 in
theorem kept00_ok (lb db mb : Nat) (d : Dk) (p : Option Addr) (pre : Nm) (most start high : Int) (la : Option Addr) (n lc : Nat) (hp : Pre pre) (hm : (d.get (metaOf pre)).isSome = false) : Cn Tryz.prog 65 [.pointer (some ⟨lb, 0, none⟩)] LV [blk lb (lcells p db pre most start high la n lc) 57, blk db (d.cells mb) 74, mp nmv Fl.val mb d.fs] fun v G => v = .bool true ∧ G = [blk lb (lcells p db pre most start high la n lc) 57, blk db (d.cells mb) 74, mp nmv Fl.val mb d.fs] := by
 refine .enter Tryz.func65 rfl (by kernel_rfl) rfl fun R k => ?_
 have h3 := hp.len
 refine .go fds 5 ?_
 refine .draws [3, 7] [blk lb (lcells p db pre most start high la n lc) 57] (by kernel_rfl) ?_
 refine .goD fds [0] ?_
 refine .goD fds [1] ?_
 refine .goD fds [2] ?_
 refine .rd 3 rfl rfl (by kernel_rfl) (by kernel_rfl) (by kernel_rfl) (.ld na24 rfl .head rfl) (.cons .head .nil) ?_
 refine .goD fds [4] ?_
 refine .goD fds [5] ?_
 refine .goD fds [6] ?_
 refine .rd 7 rfl rfl (by kernel_rfl) (by kernel_rfl) (by kernel_rfl) (.ld na9 rfl .head rfl) (.cons .head .nil) ?_
 refine .rp 8 rfl (by kernel_rfl) (by kernel_rfl) (by kernel_rfl) (Reads.pure (.catT (l := pre) (m := [46, 109, 101, 116, 97]) rfl rfl (by (repeat rw [List.length_append]); simp only [List.length_cons, List.length_nil]; omega))) ?_
 refine .alter (t := 20) (v' := .string (str (metaOf pre))) rfl (rfl) ?_
 refine .ef 9 (by kernel_rfl) rfl (.fn rfl rfl (.cons (.tail .head) (.cons (.tail .head) .nil)) (fun _ _ _ => trivial) (Read_ok db mb d (metaOf pre))) ?_
 rintro v _ ⟨G1, hq, rfl⟩
 obtain ⟨rfl, rfl⟩ := hq
 simp only [List.cons_append, List.nil_append]
 refine ⟨.inl (by kernel_rfl), ?_⟩
 refine .alter (t := 21) (v' := .tuple #[.string (str (d.file (metaOf pre)).b), .int .i64 8]) rfl (by rw [if_neg (by rw [hm]; decide)]) ?_
 refine .goD fds [10] ?_
 refine .goD fds [11] ?_
 refine .goD fds [12] ?_
 refine .goD fds [13] ?_
 refine .goD fds [14] ?_
 refine .done (by kernel_rfl) ?_
 refine .go fds 11 ?_
 refine .retP Tryz.func65 (.cons (.tmp rfl) .nil) (.cons (.tail (.tail .head)) (.cons .head (.cons .head (.cons .head .nil)))) ?_
 exact ⟨[_, _, _], ⟨rfl, rfl⟩, rfl⟩
end Go.Proofs.YtoglbebcdjdkiaaGreatDoor
/- Chapter 6: what Open finds, in plain Lean. -/
namespace Go.Proofs.YtoglbebcdjdkiaaGreatDoor
open Go Go.Sp
abbrev Piece := Nat × List Bat × List UInt8
structure Holds (pre : Nm) (d : Dk) (p : Piece) : Prop where
 le : p.1 ≤ 1000000000
 get : (d.get (nameOf pre p.1)).isSome = true
 file : (d.file (nameOf pre p.1)).b = flat p.2.1 ++ p.2.2
 stop : p.2.2 = [] ∨ (readBatch p.2.2).2.2 ≠ 0
 chain : Chain (p.1 : Int) p.2.1
 good : ∀ b ∈ p.2.1, b.good
 len : p.2.1.length ≤ 4096
def LinkP : Int → List Piece → Prop
 | _, [] => True
 | n, p :: r => (p.1 : Int) = n ∧ LinkP (nextOf (p.1 : Int) p.2.1) r
def endP (n : Int) (L : List Piece) : Int := L.foldl (fun _ p => nextOf (p.1 : Int) p.2.1) n
structure Found (pre : Nm) (d : Dk) (L : List Piece) (z w : Nat) : Prop where
 holds : ∀ p ∈ L, Holds pre d p
 bases : basesOf pre (sorted (d.fs.map (·.1))) = L.map (·.1)
 nodup : (L.map (·.1)).Nodup
 link : ∃ n : Int, n ≤ z ∧ LinkP n L
 ne : ∀ i p, i + 1 < L.length → L[i]? = some p → p.2.1 ≠ []
 len : L.length ≤ 1000
 next : ∀ p, L.getLast? = some p → (z : Int) ≤ nextOf (p.1 : Int) p.2.1
 nonil : L ≠ []
 zw : z ≤ w ∧ w ≤ 1000000000
 nums : (z = 0 ∧ w = 0 ∧ (d.get (metaOf pre)).isSome = false) ∨ ((d.get (metaOf pre)).isSome = true ∧ (d.file (metaOf pre)).b = mt z w)
def sig (s : Sx) : Int × Nm × List Bat := (s.base, s.nm, s.bs)
def sigP (pre : Nm) (p : Piece) : Int × Nm × List Bat := ((p.1 : Int), nameOf pre p.1, p.2.1)
structure OpenI (pre : Nm) (d : Dk) (L : List Piece) (i : Nat) (ss : List Sx) (e : Dk) : Prop where
 sigs : ss.map sig = (L.take i).map (sigP pre)
 ok : ∀ s ∈ ss, s.ok
 dok : e.ok
 size : e.size = d.size
 used : e.used ≤ d.used
 get : ∀ n, (e.get n).isSome = (d.get n).isSome
 did : ∀ p ∈ L.take i, e.file (nameOf pre p.1) = ⟨flat p.2.1, (flat p.2.1).length⟩
 left : ∀ n, (∀ p ∈ L.take i, n ≠ nameOf pre p.1) → e.file n = d.file n
theorem OpenI.begin (pre : Nm) {d : Dk} (hd : d.ok) (L : List Piece) : OpenI pre d L 0 [] d := ⟨rfl, fun _ h => (by cases h), hd, rfl, Nat.le_refl _, fun _ => rfl, fun _ h => (by cases h), fun _ _ => rfl⟩
theorem OpenI.here {pre : Nm} {d : Dk} {L : List Piece} {i : Nat} {ss : List Sx} {e : Dk} (h : OpenI pre d L i ss e) (hnd : (L.map (·.1)).Nodup) {p : Piece} (hp : L[i]? = some p) : e.file (nameOf pre p.1) = d.file (nameOf pre p.1) := by
 refine h.left _ fun q hq e => ?_
 have hpq := nameOf_inj e
 obtain ⟨j, hj⟩ := List.getElem?_of_mem hq
 have hji : j < i := by have := (List.getElem?_eq_some_iff.1 hj).1; rw [List.length_take] at this; omega
 rw [List.getElem?_take, if_pos hji] at hj
 have h1 : (L.map (·.1))[j]? = some q.1 := by rw [List.getElem?_map, hj]; rfl
 have h2 : (L.map (·.1))[i]? = some p.1 := by rw [List.getElem?_map, hp]; rfl
 obtain ⟨a1, a2⟩ := List.getElem?_eq_some_iff.1 h1
 obtain ⟨b1, b2⟩ := List.getElem?_eq_some_iff.1 h2
 exact (List.pairwise_iff_getElem.1 hnd j i a1 b1 hji) (a2.trans (hpq.symm.trans b2.symm))
theorem OpenI.step {pre : Nm} {d : Dk} {L : List Piece} {i : Nat} {ss : List Sx} {e : Dk} (h : OpenI pre d L i ss e) (hnd : (L.map (·.1)).Nodup) {p : Piece} (hp : L[i]? = some p) (hh : Holds pre d p) {sb : Nat} {sm : List Nat} {aa : Option Addr} {ac : Nat} {ia : Option Addr} {ic : Nat} (hix : Ix sm p.2.1.length) (hca : p.2.1.length ≤ ac) : OpenI pre d L (i + 1) (ss ++ [Sx.mk sb (nameOf pre p.1) (p.1 : Int) p.2.1 sm aa ac ia ic]) (e.put (nameOf pre p.1) ⟨flat p.2.1, (flat p.2.1).length⟩) := by
 have hf := h.here hnd hp
 have hu := Dk.used_put h.dok (nameOf pre p.1) ⟨flat p.2.1, (flat p.2.1).length⟩
 rw [hf, hh.file, List.length_append] at hu
 dsimp only at hu
 have ht : L.take (i + 1) = L.take i ++ [p] := by rw [List.take_add_one, hp]; rfl
 refine ⟨?_, fun s hs => ?_, Dk.ok_put h.dok (by dsimp only; rw [hf, hh.file, List.length_append]; have := h.dok.used; omega) (Nat.le_refl _), h.size, by have := h.used; omega, fun n => ?_, fun q hq => ?_, fun n hn => ?_⟩
 ·
  rw [List.map_append, h.sigs, ht, List.map_append]; rfl
 ·
  rcases List.mem_append.1 hs with hs | hs
  ·
   exact h.ok s hs
  ·
   rw [List.mem_singleton.1 hs]
   exact ⟨by show (0 : Int) ≤ (p.1 : Int); omega, by show (p.1 : Int) ≤ 1000000000; have := hh.le; omega, hh.chain, hh.good, hh.len, hix, hca⟩
 ·
  rw [Dk.get_put]
  split
  ·
   rename_i e1; rw [e1, hh.get]; rfl
  ·
   exact h.get n
 ·
  rw [ht] at hq
  by_cases hx : nameOf pre q.1 = nameOf pre p.1
  ·
   have hq1 := nameOf_inj hx
   rcases List.mem_append.1 hq with hq | hq
   ·
    exfalso
    have := h.here hnd hp
    obtain ⟨j, hj⟩ := List.getElem?_of_mem hq
    have hji : j < i := by have := (List.getElem?_eq_some_iff.1 hj).1; rw [List.length_take] at this; omega
    rw [List.getElem?_take, if_pos hji] at hj
    have h1 : (L.map (·.1))[j]? = some q.1 := by rw [List.getElem?_map, hj]; rfl
    have h2 : (L.map (·.1))[i]? = some p.1 := by rw [List.getElem?_map, hp]; rfl
    obtain ⟨a1, a2⟩ := List.getElem?_eq_some_iff.1 h1
    obtain ⟨b1, b2⟩ := List.getElem?_eq_some_iff.1 h2
    exact (List.pairwise_iff_getElem.1 hnd j i a1 b1 hji) (a2.trans (hq1.trans b2.symm))
   ·
    rw [List.mem_singleton.1 hq, Dk.file_put]
  ·
   rw [(Dk.file_put_ne _ _ hx).1]
   rcases List.mem_append.1 hq with hq | hq
   ·
    exact h.did q hq
   ·
    rw [List.mem_singleton.1 hq] at hx; exact absurd rfl hx
 ·
  rw [(Dk.file_put_ne _ _ (hn p (by rw [ht]; exact List.mem_append_right _ (.head _)))).1]
  exact h.left n fun q hq => hn q (by rw [ht]; exact List.mem_append_left _ hq)
theorem linkP_of (pre : Nm) : ∀ {n : Int} {L : List Piece} {ss : List Sx}, LinkP n L → ss.map sig = L.map (sigP pre) → Link n ss
 | _, [], [], _, _ => trivial
 | _, p :: L, s :: ss, h, e => by
  obtain ⟨e1, e2⟩ := List.cons.inj e
  have e3 : s.base = (p.1 : Int) := congrArg (·.1) e1
  have e4 : s.bs = p.2.1 := congrArg (·.2.2) e1
  refine ⟨e3.trans h.1, ?_⟩
  have := linkP_of pre h.2 e2
  show Link (nextOf s.base s.bs) ss
  rw [e3, e4]; exact this
theorem linkP_next : ∀ {n : Int} {L : List Piece} {i : Nat} {p q : Piece}, LinkP n L → L[i]? = some p → L[i + 1]? = some q → (q.1 : Int) = nextOf (p.1 : Int) p.2.1
 | _, x :: L, 0, p, q, h, hp, hq => by
  cases hp
  cases L with
  | nil => cases hq
  | cons y L => cases hq; exact h.2.1
 | _, x :: L, i + 1, p, q, h, hp, hq => linkP_next (i := i) h.2 hp hq
theorem OpenI.len {pre : Nm} {d : Dk} {L : List Piece} {i : Nat} {ss : List Sx} {e : Dk} (h : OpenI pre d L i ss e) (hi : i ≤ L.length) : ss.length = i := by
 have := congrArg List.length h.sigs
 rw [List.length_map, List.length_map, List.length_take] at this; omega
theorem OpenI.at {pre : Nm} {d : Dk} {L : List Piece} {i : Nat} {ss : List Sx} {e : Dk} (h : OpenI pre d L i ss e) {j : Nat} {s : Sx} (hs : ss[j]? = some s) : ∃ p, (L.take i)[j]? = some p ∧ s.base = (p.1 : Int) ∧ s.nm = nameOf pre p.1 ∧ s.bs = p.2.1 := by
 have h1 := congrArg (fun l => l[j]?) h.sigs
 simp only [List.getElem?_map, hs, Option.map_some] at h1
 obtain ⟨p, hp, e1⟩ := Option.map_eq_some_iff.1 h1.symm
 exact ⟨p, hp, (congrArg (·.1) e1).symm, (congrArg (·.2.1) e1).symm, (congrArg (·.2.2) e1).symm⟩
theorem OpenI.last {pre : Nm} {d : Dk} {L : List Piece} {i : Nat} {r : List Sx} {y : Sx} {e : Dk} (h : OpenI pre d L i (r ++ [y]) e) (hi : i ≤ L.length) : ∃ p, L[i - 1]? = some p ∧ 0 < i ∧ y.base = (p.1 : Int) ∧ y.nm = nameOf pre p.1 ∧ y.bs = p.2.1 := by
 have hl := h.len hi
 rw [List.length_append] at hl
 have hl' : r.length + 1 = i := hl
 obtain ⟨p, hp, h1, h2, h3⟩ := h.at (j := r.length) (s := y) (by simp)
 rw [List.getElem?_take, if_pos (by omega)] at hp
 exact ⟨p, by rw [show i - 1 = r.length by omega]; exact hp, by omega, h1, h2, h3⟩
theorem OpenI.log {pre : Nm} {d : Dk} {L : List Piece} {z w : Nat} {ss r : List Sx} {y : Sx} {e : Dk} (h : OpenI pre d L L.length ss e) (hF : Found pre d L z w) (hp : Pre pre) (hs : ss = r ++ [y]) {most : Int} (h1 : 256 ≤ most) (h2 : most ≤ 1000000) (lb : Nat) (la : Option Addr) (lc : Nat) : (Lx.mk lb pre most z (min (w : Int) y.next) r y la lc).ok e := by
 have hll := h.len (Nat.le_refl _)
 have hsig := h.sigs
 rw [List.take_length] at hsig
 obtain ⟨n, hn, hlk⟩ := hF.link
 have hlk2 := linkP_of pre hlk hsig
 subst hs
 obtain ⟨p, hpl, hpos, e1, e2, e3⟩ := h.last (Nat.le_refl _)
 have hz : (z : Int) ≤ y.next := by
  show (z : Int) ≤ nextOf y.base y.bs
  rw [e1, e3]
  exact hF.next p (by rw [List.getLast?_eq_getElem?]; exact hpl)
 have hb : baseOf (Lx.mk lb pre most z (min (w : Int) y.next) r y la lc) = n := by
  unfold baseOf Lx.segs
  cases r with
  | nil => exact hlk2.1
  | cons x r => exact hlk2.1
 have hzw := hF.zw
 refine ⟨hp, fun s hs => ?_, by rw [hb]; exact hlk2, fun s hs => ?_, ⟨by show (0 : Int) ≤ (z : Int); omega, by rw [hb]; exact hn, hz⟩, ⟨by show (z : Int) ≤ min (w : Int) y.next; omega, by show min (w : Int) y.next ≤ y.next; omega⟩, ⟨h1, h2⟩, by show (r ++ [y]).length ≤ _; rw [hll]; have := hF.len; omega⟩
 ·
  obtain ⟨j, hj⟩ := List.getElem?_of_mem hs
  obtain ⟨q, hq, f1, f2, f3⟩ := h.at (ss := r ++ [y]) (j := j) hj
  rw [List.take_length] at hq
  have hqm := List.mem_of_getElem? hq
  have hh := hF.holds q hqm
  have hd := h.did q (by rw [List.take_length]; exact hqm)
  refine ⟨h.ok s hs, by rw [f2, f1]; rfl, by rw [f2, h.get]; exact hh.get, by rw [f2, hd, f3]⟩
 ·
  obtain ⟨j, hj⟩ := List.getElem?_of_mem hs
  have hjr : j < r.length := (List.getElem?_eq_some_iff.1 hj).1
  obtain ⟨q, hq, f1, f2, f3⟩ := h.at (ss := r ++ [y]) (j := j) (by rw [List.getElem?_append_left hjr]; exact hj)
  rw [List.take_length] at hq
  rw [f3]
  rw [List.length_append] at hll
  exact hF.ne j q (by have : r.length + 1 = L.length := hll; omega) hq
def lastP (ss : List Sx) : Option Addr := ss.getLast?.map fun s => ⟨s.b, 0, none⟩
theorem lastP_snoc (r : List Sx) (y : Sx) : lastP (r ++ [y]) = some ⟨y.b, 0, none⟩ := by unfold lastP; rw [List.getLast?_append]; rfl
theorem Found.first {pre : Nm} {d : Dk} {L : List Piece} {z w : Nat} (h : Found pre d L z w) {p : Piece} (hp : L[0]? = some p) : (p.1 : Int) ≤ (z : Int) := by
 obtain ⟨n, hn, hlk⟩ := h.link
 cases L with
 | nil => cases hp
 | cons x r => cases hp; have := hlk.1; omega
theorem OpenI.ahead {pre : Nm} {d : Dk} {L : List Piece} {z w i : Nat} {ss : List Sx} {e : Dk} (h : OpenI pre d L i ss e) (hF : Found pre d L z w) (hil : i ≤ L.length) (hi : 0 < i) {p : Piece} (hp : L[i]? = some p) : ∃ r y, ss = r ++ [y] ∧ y ∈ ss ∧ lastP ss = some ⟨y.b, 0, none⟩ ∧ y.ok ∧ (p.1 : Int) = y.next := by
 have hsl := h.len hil
 obtain ⟨r, y, rfl⟩ : ∃ r y, ss = r ++ [y] := ⟨ss.dropLast, ss.getLast (fun h => by rw [h] at hsl; simp at hsl; omega), (List.dropLast_concat_getLast _).symm⟩
 have hyi : y ∈ r ++ [y] := by simp
 obtain ⟨q, hq, _, hqb, hqn, hqs⟩ := h.last hil
 refine ⟨r, y, rfl, hyi, lastP_snoc r y, h.ok y hyi, ?_⟩
 show (p.1 : Int) = nextOf y.base y.bs
 rw [hqb, hqs]
 obtain ⟨n, _, hlk⟩ := hF.link
 exact linkP_next (i := i - 1) hlk hq (by rw [show i - 1 + 1 = i by omega]; exact hp)
theorem OpenI.end_ {pre : Nm} {d : Dk} {L : List Piece} {z w : Nat} {ss : List Sx} {e : Dk} (h : OpenI pre d L L.length ss e) (hF : Found pre d L z w) : ∃ r y, ss = r ++ [y] ∧ y ∈ ss ∧ lastP ss = some ⟨y.b, 0, none⟩ ∧ y.ok ∧ (z : Int) ≤ y.next := by
 have hsl := h.len (Nat.le_refl _)
 have hpos : 0 < L.length := List.length_pos_iff.2 hF.nonil
 obtain ⟨r, y, rfl⟩ : ∃ r y, ss = r ++ [y] := ⟨ss.dropLast, ss.getLast (fun h => by rw [h] at hsl; simp at hsl; omega), (List.dropLast_concat_getLast _).symm⟩
 have hyi : y ∈ r ++ [y] := by simp
 obtain ⟨q, hq, _, hqb, hqn, hqs⟩ := h.last (Nat.le_refl _)
 refine ⟨r, y, rfl, hyi, lastP_snoc r y, h.ok y hyi, ?_⟩
 show (z : Int) ≤ nextOf y.base y.bs
 rw [hqb, hqs]
 exact hF.next q (by rw [List.getLast?_eq_getElem?]; exact hq)
structure Opened (pre : Nm) (d : Dk) (L : List Piece) (z w : Nat) (l : Lx) (ss : List Sx) (e : Dk) : Prop where
 ok : l.ok e
 open_ : OpenI pre d L L.length ss e
 segs : l.segs = ss
 start : l.start = (z : Int)
 high : l.high = min (w : Int) l.next
end Go.Proofs.YtoglbebcdjdkiaaGreatDoor
/- Chapter 6: a log behind a crash, in plain Lean. -/
namespace Go.Proofs.YtoglbebcdjdkiaaGreatDoor
open Go Go.Sp
theorem torn_flat : ∀ (bs : List Bat) (c : Nat), (∀ b ∈ bs, b.good) → c ≤ (flat bs).length → ∃ k rest, k ≤ bs.length ∧ (flat bs).take c = flat (bs.take k) ++ rest ∧ (rest = [] ∨ (readBatch rest).2.2 ≠ 0) ∧ ∀ m, m ≤ bs.length → (flat (bs.take m)).length ≤ c → m ≤ k
 | [], c, _, h => ⟨0, [], Nat.le_refl _, by simp [flat], .inl rfl, fun m hm _ => hm⟩
 | b :: bs, c, hg, h => by
  have hb := hg b (.head _)
  by_cases hc : c < (enc b).length
  ·
   refine ⟨0, (enc b).take c, Nat.zero_le _, ?_, .inr ?_, fun m hm hl => ?_⟩
   ·
    rw [flat_cons, List.take_append_of_le_length (Nat.le_of_lt hc)]; rfl
   ·
    show (readBatch ((wbatch b).1.take c)).2.2 ≠ 0
    rw [torn_cut hb.right hc]; decide
   ·
    cases m with
    | zero => exact Nat.le_refl _
    | succ m =>
     rw [List.take_succ_cons, flat_cons, List.length_append] at hl
     omega
  ·
   rw [flat_cons, List.length_append] at h
   obtain ⟨k, rest, h1, h2, h3, h4⟩ := torn_flat bs (c - (enc b).length) (fun x hx => hg x (.tail _ hx)) (by omega)
   refine ⟨k + 1, rest, Nat.succ_le_succ h1, ?_, h3, fun m hm hl => ?_⟩
   ·
    rw [flat_cons, List.take_succ_cons, flat_cons, List.append_assoc, ← h2, List.take_append, List.take_of_length_le (by omega)]
   ·
    cases m with
    | zero => exact Nat.zero_le _
    | succ m =>
     rw [List.take_succ_cons, flat_cons, List.length_append] at hl
     exact Nat.succ_le_succ (h4 m (Nat.le_of_succ_le_succ hm) (by omega))
def SafeAt (l : Lx) (d : Dk) (m : Nat) : Prop := m ≤ l.cur.bs.length ∧ (d.file l.cur.nm).safe = (flat (l.cur.bs.take m)).length
def safeN (l : Lx) (m : Nat) : Int := nextOf l.cur.base (l.cur.bs.take m)
def pieces (l : Lx) (k : Nat) (rest : List UInt8) : List Piece := l.ini.map (fun s => (s.base.toNat, s.bs, [])) ++ [(l.cur.base.toNat, l.cur.bs.take k, rest)]
theorem pieces_fst (l : Lx) (k rest) : (pieces l k rest).map (·.1) = l.segs.map fun s => s.base.toNat := by
 unfold pieces Lx.segs; rw [List.map_append, List.map_append, List.map_map]; rfl
theorem link_pieces : ∀ {n : Int} {r : List Sx} {c : Sx} {k : Nat} {rest : List UInt8}, Link n (r ++ [c]) → (∀ s ∈ r ++ [c], s.ok) → LinkP n (r.map (fun s => (s.base.toNat, s.bs, ([] : List UInt8))) ++ [(c.base.toNat, c.bs.take k, rest)])
 | n, [], c, k, rest, h, ho => ⟨by have := h.1; have := (ho c (.head _)).base0; show ((c.base.toNat : Nat) : Int) = n; omega, trivial⟩
 | n, x :: r, c, k, rest, h, ho => by
  have h0 := (ho x (.head _)).base0
  have e : ((x.base.toNat : Nat) : Int) = x.base := by omega
  refine ⟨e.trans h.1, ?_⟩
  show LinkP (nextOf ((x.base.toNat : Nat) : Int) x.bs) _
  rw [e]
  exact link_pieces (n := x.next) h.2 fun s hs => ho s (.tail _ hs)
theorem meta_far {l : Lx} {d : Dk} (hl : l.ok d) {s : Sx} (hs : s ∈ l.segs) : s.nm ≠ metaOf l.pre := by
 obtain ⟨c1, c2, _, _⟩ := hl.seg s hs
 rw [c2]; exact nameOf_meta (by have := c1.base0; have := c1.base1; omega)
theorem crashed_full {f g : Fl} (h : Crashed f g) (hs : f.safe = f.b.length) : g = f := by
 obtain ⟨z, h1, h2, rfl⟩ := h
 have : z = f.b.length := by omega
 subst this
 rw [List.take_length]
 cases f; simp at hs; simp [hs]
theorem found_crash {l : Lx} {d e : Dk} {z w m : Nat} (hl : l.ok d) (hd : d.ok) (ho : Own l d) (hf : Full l d) (hC : CrashTo d e) (hn : l.segs.length ≤ 1000) (hz : l.start = (z : Int)) (hzw : z ≤ w ∧ w ≤ 1000000000) (hnum : (z = 0 ∧ w = 0 ∧ (d.get (metaOf l.pre)).isSome = false) ∨ ((d.get (metaOf l.pre)).isSome = true ∧ d.file (metaOf l.pre) = ⟨mt z w, (mt z w).length⟩)) (hm : m ≤ l.cur.bs.length ∧ (flat (l.cur.bs.take m)).length ≤ (d.file l.cur.nm).safe) (hzs : (z : Int) ≤ safeN l m) : ∃ k rest, m ≤ k ∧ k ≤ l.cur.bs.length ∧ Found l.pre e (pieces l k rest) z w := by
 obtain ⟨c1, c2, c3, c4⟩ := hl.cur
 obtain ⟨t, ht1, ht2, ht3⟩ := hC.file l.cur.nm
 rw [c4] at ht2 ht3
 obtain ⟨k, rest, hk, hfl, hst, hmk⟩ := torn_flat l.cur.bs t c1.good ht2
 have hmk' := hmk m hm.1 (Nat.le_trans hm.2 ht1)
 have hcb := c1.base0
 have hcn : ((l.cur.base.toNat : Nat) : Int) = l.cur.base := by omega
 have hown : Own l e := fun u hu hg => ho u hu (by rw [← hC.get]; exact hg)
 have hini : ∀ s ∈ l.ini, e.file s.nm = d.file s.nm := fun s hs => crashed_full (hC.file s.nm) (hf s hs)
 have hok : ∀ s ∈ l.segs, s.ok := fun s hs => (hl.seg s hs).1
 have hbases : basesOf l.pre (sorted (e.fs.map (·.1))) = l.segs.map fun s => s.base.toNat := by rw [hC.keys]; exact own_bases hl hd ho
 refine ⟨k, rest, hmk', hk, fun p hp => ?_, by rw [hbases, pieces_fst], ?_, ⟨baseOf l, by have := hl.start; omega, link_pieces hl.link hok⟩, fun i p hi hp => ?_, ?_, fun p hp => ?_, by unfold pieces; simp, hzw, ?_⟩
 ·
  rcases List.mem_append.1 hp with hp | hp
  ·
   obtain ⟨s, hs, rfl⟩ := List.mem_map.1 hp
   obtain ⟨s1, s2, s3, s4⟩ := hl.seg s (List.mem_append_left _ hs)
   have h0 := s1.base0
   have hsn : ((s.base.toNat : Nat) : Int) = s.base := by omega
   refine ⟨by show s.base.toNat ≤ _; have := s1.base1; omega, by show (e.get (nameOf l.pre s.base.toNat)).isSome = true; rw [← s2, hC.get]; exact s3, ?_, .inl rfl, by show Chain ((s.base.toNat : Nat) : Int) s.bs; rw [hsn]; exact s1.chain, s1.good, s1.len⟩
   show (e.file (nameOf l.pre s.base.toNat)).b = flat s.bs ++ []
   rw [← s2, hini s hs, s4, List.append_nil]
  ·
   rw [List.mem_singleton.1 hp]
   refine ⟨by show l.cur.base.toNat ≤ _; have := c1.base1; omega, by show (e.get (nameOf l.pre l.cur.base.toNat)).isSome = true; rw [← c2, hC.get]; exact c3, ?_, hst, by show Chain ((l.cur.base.toNat : Nat) : Int) (l.cur.bs.take k); rw [hcn]; exact c1.chain.take k, fun b hb => c1.good b (List.mem_of_mem_take hb), by show (l.cur.bs.take k).length ≤ 4096; rw [List.length_take]; have := c1.len; omega⟩
   show (e.file (nameOf l.pre l.cur.base.toNat)).b = flat (l.cur.bs.take k) ++ rest
   rw [← c2, ht3]; exact hfl
 ·
  rw [pieces_fst, ← own_bases hl hd ho]
  exact (basesOf_up (sorted_up _) (sorted_nodup hd.nodup)).imp fun h => by omega
 ·
  unfold pieces at hp hi
  rw [List.length_append, List.length_map] at hi
  have hi' : i < l.ini.length := by simp at hi; omega
  rw [List.getElem?_append_left (by rw [List.length_map]; exact hi'), List.getElem?_map] at hp
  obtain ⟨s, hs, rfl⟩ := Option.map_eq_some_iff.1 hp
  exact hl.ne s (List.mem_of_getElem? hs)
 ·
  unfold pieces; rw [List.length_append, List.length_map]; unfold Lx.segs at hn; rw [List.length_append] at hn; exact hn
 ·
  unfold pieces at hp
  rw [List.getLast?_append] at hp
  cases hp
  show (z : Int) ≤ nextOf ((l.cur.base.toNat : Nat) : Int) (l.cur.bs.take k)
  rw [hcn]
  have := c1.chain.mono c1.good hmk'
  unfold safeN at hzs
  omega
 ·
  rcases hnum with ⟨h1, h2, h3⟩ | ⟨h1, h2⟩
  ·
   exact .inl ⟨h1, h2, by rw [hC.get]; exact h3⟩
  ·
   refine .inr ⟨by rw [hC.get]; exact h1, ?_⟩
   rw [crashed_full (hC.file _) (by rw [h2]), h2]
theorem opened_all {l l2 : Lx} {d e e2 : Dk} {k z w : Nat} {rest : List UInt8} {ss : List Sx} (hl : l.ok d) (h : Opened l.pre e (pieces l k rest) z w l2 ss e2) : l2.all = l.ini.flatMap (fun s => s.bs) ++ l.cur.bs.take k ∧ l2.next = safeN l k ∧ SafeAt l2 e2 l2.cur.bs.length := by
 have hsig := h.open_.sigs
 rw [List.take_length, ← h.segs] at hsig
 have hcb := hl.cur.1.base0
 have hcn : ((l.cur.base.toNat : Nat) : Int) = l.cur.base := by omega
 have e1 : (pieces l k rest).map (sigP l.pre) = l.ini.map (fun s => sigP l.pre (s.base.toNat, s.bs, [])) ++ [sigP l.pre (l.cur.base.toNat, l.cur.bs.take k, rest)] := by unfold pieces; rw [List.map_append, List.map_map]; rfl
 rw [e1] at hsig
 unfold Lx.segs at hsig
 rw [List.map_append] at hsig
 obtain ⟨h1, h2⟩ := List.append_inj' hsig rfl
 have h3 : sig l2.cur = sigP l.pre (l.cur.base.toNat, l.cur.bs.take k, rest) := (List.cons.inj h2).1
 have hb : l2.cur.base = l.cur.base := (congrArg (·.1) h3).trans hcn
 have hbs : l2.cur.bs = l.cur.bs.take k := congrArg (·.2.2) h3
 refine ⟨?_, ?_, Nat.le_refl _, ?_⟩
 ·
  unfold Lx.all Lx.segs
  rw [List.flatMap_append]
  have h4 : l2.ini.flatMap (fun s => s.bs) = l.ini.flatMap (fun s => s.bs) := by
   have h5 := congrArg (fun L => (L.map fun x : Int × Nm × List Bat => x.2.2).flatten) h1
   simp only [List.map_map] at h5
   rw [List.flatMap_def, List.flatMap_def]
   exact h5
  rw [h4]; simp [hbs]
 ·
  show nextOf l2.cur.base l2.cur.bs = nextOf l.cur.base (l.cur.bs.take k)
  rw [hb, hbs]
 ·
  have hd := h.open_.did (l.cur.base.toNat, l.cur.bs.take k, rest) (by rw [List.take_length]; unfold pieces; simp)
  have hnm : l2.cur.nm = nameOf l.pre l.cur.base.toNat := congrArg (·.2.1) h3
  rw [hnm, hd, List.take_length, hbs]
end Go.Proofs.YtoglbebcdjdkiaaGreatDoor
/- Chapter 13: a store that is opened, anew and again, in plain Lean. -/
namespace Go.Proofs.YtoglbebcdjdkiaaGreatDoor
open Go Go.Sp
set_option linter.unusedVariables false
theorem pre1 : Pre [112] := ⟨by decide, by decide, by decide⟩
theorem dkz_ok {z : Nat} (h : z ≤ 16777216) : (Dk.mk z []).ok := ⟨.nil, Nat.zero_le _, h, fun _ h => by cases h⟩
theorem dkz_short (z : Nat) : Short (Dk.mk z []) := fun _ h => by cases h
theorem dkz_free (z : Nat) (pre : Nm) : Free pre (Dk.mk z []) := ⟨rfl, fun _ _ => rfl⟩
theorem same_len {d e : Dk} (hd : d.ok) (he : e.ok) (h : ∀ n, (e.get n).isSome = (d.get n).isSome) : e.fs.length = d.fs.length := by
 have hp : (e.fs.map (·.1)).Perm (d.fs.map (·.1)) := (List.perm_ext_iff_of_nodup he.nodup hd.nodup).2 fun n => by rw [← get_in, ← get_in, h n]
 have := hp.length_eq
 rwa [List.length_map, List.length_map] at this
theorem TabW.nil : TabW [] := ⟨.nil, fun _ h => (by cases h)⟩
theorem Lx.ok.en_pos {l : Lx} {d : Dk} (h : l.ok d) : ∀ b ∈ l.all, 0 < b.en := fun b hb => by
 obtain ⟨s, hs, hb⟩ := List.mem_flatMap.1 hb
 have hk := (h.seg s hs).1
 have := en_base hk hb
 have := hk.base0
 omega
theorem vis_all {l : Lx} {d : Dk} (h : l.ok d) (h0 : l.start = 0) : l.vis = l.all := by
 unfold Lx.vis keepN; rw [h0]; exact List.filter_eq_self.2 fun b hb => decide_eq_true (h.en_pos b hb)
theorem nil_all {α : Type} {p : α → Prop} : ∀ x ∈ ([] : List α), p x := fun _ h => (by cases h)
theorem NotesOk.nil (t : Tm) : NotesOk t [] := fun i b h => (by cases h)
theorem keptE_id {d : Dk} {c : Cx} {es : List Ep} (h : es = c.es) : keptE d c es = d := if_pos h
theorem openF_new {z : Nat} {l : Lx} {d : Dk} (h : OpenTo [112] 300 (Dk.mk z []) l d ∨ OpenTo [112] 256 (Dk.mk z []) l d) (hz : 5000 ≤ z) : OpenF [112] [] [] l d := by
 have key : ∀ m, OpenTo [112] m (Dk.mk z []) l d → OpenF [112] [] [] l d := fun m h => by
  have hv : l.vis = [] := by rw [vis_all h.ok h.start, h.all]
  have hus : d.used = 0 := h.used
  have hsz : d.size = z := h.size
  have hln := h.len
  refine ⟨h.dok, h.ok, h.pre, by rw [h.all]; exact Nat.zero_le _, .nil, .inl ⟨?_, rfl⟩, .inl ⟨?_, rfl⟩, by omega, Nat.lt_of_le_of_lt hln (by show 0 + 1 < 254; decide), by rw [hv]; exact nil_all, by rw [hv]; exact .nil _⟩
  ·
   rw [(h.far _ fun u hu => nmE_far hu).2]; rfl
  ·
   rw [(h.far _ fun u hu => nmP_far hu).2]; rfl
 rcases h with h | h <;> exact key _ h
theorem new_store {z : Nat} {m : Int} {s : St} {e d : Dk} (h : OpenTo [112] m (Dk.mk z []) s.l e) (hz : 5000 ≤ z) (hO : OpenS [112] [] [] s e d) : BaseS z 0 0 0 s d ∧ PlainS s d := by
 have hes : s.c.es = [] := hO.es
 have hd : d = e := hO.dsk.trans (keptE_id rfl)
 subst hd
 have hv : s.l.vis = [] := by rw [vis_all h.ok h.start, h.all]
 have ht : pur s.t.m = [] := by rw [hO.t, hv]; rfl
 have hE0 : (d.get (nmE [112])).isSome = false := by rw [(h.far _ fun u hu => nmE_far hu).2]; rfl
 have hsg := h.segs
 have hln := h.len
 have hnx := h.next
 have hP0 : (d.file (nmP [112])).b = [] := by rw [(h.far _ fun u hu => nmP_far hu).1]; rfl
 refine ⟨⟨h.dok, h.ok, h.own, h.full, h.short pre1 (dkz_short _), h.pre, by rw [hO.nm, h.pre], by rw [hnx]; decide, by omega, by rw [h.all]; exact Nat.le_refl _, h.size, by rw [h.used]; exact Nat.zero_le _, by rw [h.pre, hP0]; exact Nat.zero_le _, fun n hn => ?_, by rw [hes]; exact .nil, by rw [hes]; exact Nat.le_refl _, by rw [hes]; exact nil_all, by rw [hes]; show (-1 : Int) ≤ 0; decide, by rw [hO.nm, hes]; exact .inl ⟨hE0, rfl⟩, by rw [ht]; exact .nil, by rw [ht]; exact nil_all, by rw [ht]; exact nil_all⟩, ⟨h.start, h.base', h.high, ?_, ?_, by rw [hes, h.all]; rfl, by rw [ht, h.all]; rfl, by rw [h.all]; exact .nil _, by rw [h.all]; exact nil_all⟩⟩
 ·
  rw [h.pre]
  by_cases hx : ∃ u, u ≤ 1000000000 ∧ n = nameOf [112] u
  ·
   exact .inr (.inr (.inr hx))
  ·
   rw [(h.far n fun u hu e => hx ⟨u, hu, e⟩).2] at hn; cases hn
 ·
  rw [h.pre, (h.far _ fun u hu e => nameOf_meta (by omega) e.symm).2]; rfl
 ·
  rw [h.pre, (h.far _ fun u hu => nmP_far hu).2]; rfl
theorem SyncTo.short {l : Lx} {d d' : Dk} (h : SyncTo l d d') (hs : Short d) : Short d' := fun n hn => hs n (by rw [← h.names]; exact hn)
theorem BaseS.sync {Z i j E s d} (h : BaseS Z i j E s d) : BaseS Z i j E s (sync s.l d) := by
 have hS := sync_to h.ok h.dok
 have h1 := h.ok.cur.1.base0
 have h2 := h.ok.cur.1.base1
 have hnE : nmE s.l.pre ≠ s.l.cur.nm := fun e => nmE_far (pre := s.l.pre) (u := s.l.cur.base.toNat) (by omega) (e.trans h.ok.cur.2.1)
 have hnP : nmP s.l.pre ≠ s.l.cur.nm := fun e => nmP_far (pre := s.l.pre) (u := s.l.cur.base.toNat) (by omega) (e.trans h.ok.cur.2.1)
 exact ⟨hS.dok, hS.ok, hS.own h.own, hS.full h.full, hS.short h.short, h.pre, h.nm, h.next, h.segs, h.all, by rw [hS.size, h.size], by rw [hS.used, (hS.far _ hnE).1, (hS.far _ hnP).1]; exact h.used, by rw [(hS.far _ hnP).1]; exact h.psz, fun n hn => h.names n (by rw [← hS.names]; exact hn), h.es, h.esl, h.esn, h.last, h.holdsE.same (by rw [h.nm]; exact (hS.far _ hnE).1) (hS.names _), h.tab, h.keys, h.offs⟩
theorem PlainS.sync {Z i j E s d} (hb : BaseS Z i j E s d) (h : PlainS s d) : PlainS s (sync s.l d) := by
 have hS := sync_to hb.ok hb.dok
 exact ⟨h.start, h.base, h.high, by rw [hS.names]; exact h.num, by rw [hS.names]; exact h.pids, h.es, h.t, h.notes, h.eps⟩
def Synced (l : Lx) (d : Dk) : Prop := (d.file l.cur.nm).safe = (d.file l.cur.nm).b.length
theorem synced (l : Lx) (d : Dk) : Synced l (sync l d) := by unfold Synced sync; rw [Dk.file_put]
theorem plain_found {Z i j E s d e} (hb : BaseS Z i j E s d) (h : PlainS s d) (hs : Synced s.l d) (hC : CrashTo d e) (hi : i ≤ 60 ∧ j ≤ 60) : Found [112] e (pieces s.l s.l.cur.bs.length []) 0 0 ∧ (∀ s' ∈ s.l.segs, e.file s'.nm = d.file s'.nm) := by
 have hc := hb.ok.cur
 have hsegs := hb.segs
 have hall : ∀ s' ∈ s.l.segs, e.file s'.nm = d.file s'.nm := fun s' hs' => by
  refine crashed_full (hC.file _) ?_
  rcases List.mem_append.1 hs' with hi | hi
  ·
   exact hb.full s' hi
  ·
   rw [List.mem_singleton.1 hi]; exact hs
 have hh := hb.ok.high
 have h0 := h.start
 obtain ⟨k, rest, h1, h2, h3⟩ := found_crash (m := s.l.cur.bs.length) (z := 0) (w := 0) hb.ok hb.dok hb.own hb.full hC (by omega) h0 ⟨Nat.le_refl _, by decide⟩ (.inl ⟨rfl, rfl, h.num⟩) ⟨Nat.le_refl _, by rw [List.take_length, ← hc.2.2.2]; exact Nat.le_of_eq hs.symm⟩ (by
  have hst := hb.ok.start
  have hn : s.l.next = safeN s.l s.l.cur.bs.length := by unfold safeN; rw [List.take_length]; rfl
  show (0 : Int) ≤ _
  rw [← hn]; omega)
 have hk : k = s.l.cur.bs.length := by omega
 subst hk
 have hr : rest = [] := by
  have := (h3.holds (s.l.cur.base.toNat, s.l.cur.bs.take s.l.cur.bs.length, rest) (by unfold pieces; simp)).file
  have hf := hall s.l.cur s.l.cur_in
  have h4 : (e.file (nameOf s.l.pre s.l.cur.base.toNat)).b = flat s.l.cur.bs := by rw [← hc.2.1, hf]; exact hc.2.2.2
  rw [h4, List.take_length] at this
  dsimp only at this
  have := congrArg List.length this
  rw [List.length_append] at this
  exact List.eq_nil_of_length_eq_zero (by omega)
 subst hr
 rw [hb.pre] at h3
 exact ⟨h3, hall⟩
theorem openF_again {Z i j E s d e l2 ss e2} (hb : BaseS Z i j E s d) (h : PlainS s d) (hs : Synced s.l d) (hC : CrashTo d e) (hi : i ≤ 60 ∧ j ≤ 60) (hZ : 90000 ≤ Z) (hp2 : l2.pre = [112]) (hO : Opened [112] e (pieces s.l s.l.cur.bs.length []) 0 0 l2 ss e2) : OpenF [112] s.c.es [] l2 e2 ∧ l2.all = s.l.all ∧ l2.next = s.l.next ∧ l2.start = 0 ∧ s.l.ok e2 ∧ e2.ok := by
 obtain ⟨_, hall⟩ := plain_found hb h hs hC hi
 have hO' : Opened s.l.pre e (pieces s.l s.l.cur.bs.length []) 0 0 l2 ss e2 := by rw [hb.pre]; exact hO
 obtain ⟨a1, a2, _⟩ := opened_all hb.ok hO'
 have ea : l2.all = s.l.all := by rw [a1, List.take_length]; unfold Lx.all Lx.segs; rw [List.flatMap_append]; simp
 have en : l2.next = s.l.next := by rw [a2]; unfold safeN; rw [List.take_length]; rfl
 have est : l2.start = 0 := hO.start
 have hI := hO.open_
 have hdok := hI.dok
 have hnm : ∀ n, (e2.get n).isSome = (d.get n).isSome := fun n => by rw [hI.get, hC.get]
 have hsz : e2.size = Z := by rw [hI.size, hC.size, hb.size]
 have hus : e2.used ≤ 4330 + 940 * i + 100 * j := by have := hI.used; have := hC.used; have := hb.usd; omega
 have hln : e2.fs.length ≤ i + 4 := by rw [same_len hb.dok hdok hnm]; exact hb.len
 have hpin : ∀ p ∈ pieces s.l s.l.cur.bs.length [], ∃ t ∈ s.l.segs, nameOf s.l.pre p.1 = t.nm ∧ p.2.1 = t.bs := fun p hp => by
  unfold pieces at hp
  rcases List.mem_append.1 hp with hp | hp
  ·
   obtain ⟨t, ht, rfl⟩ := List.mem_map.1 hp
   exact ⟨t, List.mem_append_left _ ht, ((hb.ok.seg t (List.mem_append_left _ ht)).2.1).symm, rfl⟩
  ·
   rw [List.mem_singleton.1 hp]
   exact ⟨s.l.cur, s.l.cur_in, hb.ok.cur.2.1.symm, List.take_length⟩
 have hfarE : ∀ n, (∀ u, u ≤ 1000000000 → n ≠ nameOf s.l.pre u) → e2.file n = e.file n := fun n hn => hI.left n fun p hp e' => by
  rw [List.take_length] at hp
  obtain ⟨t, ht, h1, _⟩ := hpin p hp
  have ho := (hb.ok.seg t ht).1
  have := ho.base0; have := ho.base1
  rw [← hb.pre] at e'
  exact hn t.base.toNat (by omega) (e'.trans (h1.trans (hb.ok.seg t ht).2.1))
 have hnmE : s.c.nm = nmE [112] := by rw [hb.nm, hb.pre]
 have hHE : HoldsE e2 (nmE [112]) s.c.es := by
  have h1 := hb.holdsE
  rw [hnmE] at h1
  rcases h1 with ⟨h1, h2⟩ | ⟨h1, h2⟩
  ·
   exact .inl ⟨by rw [hnm]; exact h1, h2⟩
  ·
   refine .inr ⟨by rw [hnm]; exact h1, ?_⟩
   rw [hfarE _ fun u hu => by rw [hb.pre]; exact nmE_far hu, crashed_full (hC.file _) (by rw [h2]), h2]
 have hvis : l2.vis = s.l.all := by rw [vis_all hO.ok est, ea]
 refine ⟨⟨hdok, hO.ok, hp2, by rw [ea]; have := hb.all; omega, hb.es, hHE, .inl ⟨by rw [hnm, ← hb.pre]; exact h.pids, rfl⟩, by omega, by omega, ?_, ?_⟩, ea, en, est, ?_, hdok⟩
 ·
  rw [hvis, en, cutE_id hb.esn]; exact fun b hb' => (h.eps b hb').2
 ·
  rw [hvis, est]; exact h.notes
 ·
  refine ⟨hb.ok.pre, fun t ht => ?_, hb.ok.link, hb.ok.ne, hb.ok.start, hb.ok.high, hb.ok.most, hb.ok.len⟩
  obtain ⟨k1, k2, k3, k4⟩ := hb.ok.seg t ht
  refine ⟨k1, k2, by rw [hnm]; exact k3, ?_⟩
  have hin : ∃ p ∈ pieces s.l s.l.cur.bs.length [], p.1 = t.base.toNat ∧ p.2.1 = t.bs := by
   unfold pieces
   rcases List.mem_append.1 ht with ht | ht
   ·
    exact ⟨_, List.mem_append_left _ (List.mem_map.2 ⟨t, ht, rfl⟩), rfl, rfl⟩
   ·
    rw [List.mem_singleton.1 ht]
    exact ⟨_, List.mem_append_right _ (.head _), rfl, List.take_length⟩
  obtain ⟨p, hp, p1, p2⟩ := hin
  have h1 := hI.did p (by rw [List.take_length]; exact hp)
  rw [p1, p2, ← hb.pre, ← k2] at h1
  rw [h1]
end Go.Proofs.YtoglbebcdjdkiaaGreatDoor
/- Chapter 13: what the statements are given, in plain Lean. -/
namespace Go.Proofs.YtoglbebcdjdkiaaGreatDoor
open Go Go.Sp
set_option linter.unusedVariables false
structure Ty where
 pid : Int
 ep : Int
 seq : Int
 n : Int
 th : Int
 at_ : Int
 ka : Option Addr
 kl : List Int
 kc : Nat
def Ty.cells (y : Ty) : List Value := [.int .i64 y.pid, .int .i64 y.ep, .int .i64 y.seq, .int .i64 y.n, .int .i64 y.th, .int .i64 y.at_, .slice y.ka y.kl.length y.kc]
theorem Ty.cells_len (y : Ty) : y.cells.length = 7 := rfl
structure Ty.ok (y : Ty) : Prop where
 pid : i64 y.pid
 ep : i64 y.ep
 seq : i64 y.seq
 n : i64 y.n
 th : i64 y.th
 at_ : i64 y.at_
 kl : y.kl.length ≤ y.kc ∧ (∀ x ∈ y.kl, i64 x) ∧ y.kl.length ≤ 140737488351232
theorem BaseS.mono {Z i i' j j' E F s d} (h : BaseS Z i j E s d) (hi : i ≤ i') (hj : j ≤ j') (hE : E ≤ F) : BaseS Z i' j' F s d :=
 ⟨h.dok, h.ok, h.own, h.full, h.short, h.pre, h.nm, by have := h.next; omega, by have := h.segs; omega, by have := h.all; omega, h.size, by have := h.used; omega, by have := h.psz; omega, h.names, h.es, by have := h.esl; omega, h.esn, by have := h.last; omega, h.holdsE, h.tab, h.keys, h.offs⟩
theorem BaseS.late {Z i j E s d} (h : BaseS Z i j E s d) {pid ep seq e : Int} {n : Nat} (h1 : (ask (pur s.t.m) pid ep seq n).2 = 0) (h2 : (ask (pur s.t.m) pid ep seq n).1 < 0) (hp : pid ≠ 0) : late (notesOf (pur s.t.m) pid) (smB e pid ep seq n s.l.next) = false := by
 obtain ⟨_, _, h3⟩ := ask_new h.tab.toTabOk h1 h2 hp
 refine late_of fun z hz => ?_
 obtain ⟨a1, a2, _⟩ := h3 z hz
 have hm := List.mem_of_getLast? hz
 exact ⟨h.noff pid z hm, a1, a2⟩
theorem epStep_cut {es : List Ep} {b : Bat} {z : Int} (hb : z ≤ b.base) : cutE z (epStep es b) = cutE z es := by
 unfold epStep
 split
 ·
  rfl
 ·
  unfold cutE; rw [List.filter_append]; simp; omega
theorem epFold_cut {z : Int} : ∀ (bs : List Bat) (es : List Ep), (∀ b ∈ bs, z ≤ b.base) → cutE z (bs.foldl epStep es) = cutE z es
 | [], _, _ => rfl
 | b :: bs, es, h => by
  rw [List.foldl_cons, epFold_cut bs _ fun x hx => h x (.tail _ hx), epStep_cut (h b (.head _))]
theorem epFold_lt {z : Int} : ∀ (bs : List Bat) (es : List Ep), (∀ b ∈ bs, b.base < z) → (∀ e ∈ es, e.2 < z) → ∀ e ∈ bs.foldl epStep es, e.2 < z
 | [], _, _, h => h
 | b :: bs, es, hb, h => by
  rw [List.foldl_cons]
  refine epFold_lt bs _ (fun x hx => hb x (.tail _ hx)) fun e he => ?_
  unfold epStep at he
  split at he
  ·
   exact h e he
  ·
   rcases List.mem_append.1 he with he | he
   ·
    exact h e he
   ·
    rw [List.mem_singleton.1 he]; exact hb b (.head _)
theorem epsOf_cut {n : Int} {l : List Bat} (hc : Chain n l) (hg : ∀ b ∈ l, b.good) (j : Nat) : cutE (nextOf n (l.take j)) (epsOf l) = epsOf (l.take j) := by
 have h1 : epsOf l = (l.drop j).foldl epStep (epsOf (l.take j)) := by unfold epsOf; rw [← List.foldl_append, List.take_append_drop]
 have hbase : ∀ k b, l[k]? = some b → b.base = nextOf n (l.take k) := fun k b hk => (hc.at hk).1
 rw [h1, epFold_cut]
 ·
  refine cutE_id (epFold_lt _ _ (fun b hb => ?_) nil_all)
  obtain ⟨k, hk⟩ := List.getElem?_of_mem hb
  have hkj : k < j := by have := (List.getElem?_eq_some_iff.1 hk).1; rw [List.length_take] at this; omega
  rw [List.getElem?_take_of_lt hkj] at hk
  have h2 := (hc.at hk).2
  have h3 := (hg b (List.mem_of_getElem? hk)).lt
  have h4 := hc.mono hg (i := k + 1) (j := j) hkj
  omega
 ·
  intro b hb
  obtain ⟨k, hk⟩ := List.getElem?_of_mem hb
  rw [List.getElem?_drop] at hk
  rw [hbase _ b hk]
  exact hc.mono hg (i := j) (j := j + k) (by omega)
end Go.Proofs.YtoglbebcdjdkiaaGreatDoor
namespace Go.Proofs.YtoglbebcdjdkiaaGreatDoor
open Go Go.Sp
set_option linter.unusedVariables false
namespace ep3
theorem na64 : NotAgg Tryz.prog 64 := ⟨_, Tryz.underlying64, trivial⟩
theorem ts70 : TS Tryz.prog 70 3 := .of (by kernel_rfl)
theorem na3 : NotAgg Tryz.prog 3 := ⟨_, Tryz.underlying3, trivial⟩
theorem na65 : NotAgg Tryz.prog 65 := ⟨_, Tryz.underlying65, trivial⟩
end ep3
open ep3
set_option maxHeartbeats 1000000 in
set_option maxRecDepth 20000 in
theorem Last_ok (db : Nat) (c : Cx) (hl : c.es.length ≤ 100000) : Cn Tryz.prog 31 [.pointer (some ⟨c.cb, 0, none⟩)] (CacheAt db c) [] fun v G => v = .int .i64 (lastE c.es) ∧ G = [] := by
 refine .enter Tryz.func31 rfl (by kernel_rfl) rfl fun R k => ?_
 refine .goO fds 10 ?_
 refine .rd (.load na64 rfl (Knows.one (i := 2) (Knows.pick .head (k.mono fun _ h => h.1)) rfl)) ?_
 refine .rd (.lenL rfl rfl Tryz.underlying64 rfl) ?_
 refine .goR fds 2 ?_
 refine .condP rfl (fun c1 => ?_) (fun c1 => ?_)
 ·
  refine .go fds 4 ?_
  refine .retP Tryz.func31 (.cons (.tmp rfl) .nil) (.cons .head .nil) ?_
  exact ⟨[], ⟨by have : c.es = [] := List.eq_nil_of_length_eq_zero (by omega); rw [this]; rfl, rfl⟩, rfl⟩
 ·
  refine .go fds 2 ?_
  obtain ⟨x, hx⟩ : ∃ x, c.es[c.es.length - 1]? = some x := ⟨_, List.getElem?_eq_getElem (by omega)⟩
  refine .tell (φ := ∃ b o, c.la = some ⟨b, o, none⟩) (Knows.pick .head (k.mono fun _ h => RowAt.addr h.2 (by rw [flat_length epc_len]; omega))) (fun hh => ?_)
  obtain ⟨b9, o9, h9⟩ := hh
  refine .draws [3, 7, 12] [R] (by kernel_rfl) ?_
  refine .goD fds [0] ?_
  refine .goD fds [1] ?_
  refine .goD fds [2] ?_
  refine .rd 3 rfl rfl (by kernel_rfl) (by kernel_rfl) (by kernel_rfl) (.load na64 rfl (Knows.one (i := 2) (Knows.pick .head (k.mono fun _ h => h.1)) rfl)) (.cons .head .nil) ?_
  refine .goD fds [4] ?_
  refine .goD fds [5] ?_
  refine .goD fds [6] ?_
  refine .rd 7 rfl rfl (by kernel_rfl) (by kernel_rfl) (by kernel_rfl) (.load na64 rfl (Knows.one (i := 2) (Knows.pick .head (k.mono fun _ h => h.1)) rfl)) (.cons .head .nil) ?_
  refine .rp 8 rfl (by kernel_rfl) (by kernel_rfl) (by kernel_rfl) (Reads.pure (.lenL rfl rfl Tryz.underlying64 rfl)) ?_
  refine .rp 9 rfl (by kernel_rfl) (by kernel_rfl) (by kernel_rfl) (Reads.pure (.sub rfl rfl (by omega) (by omega))) ?_
  refine .alter (t := 18) (v' := .int .i64 ((c.es.length - 1 : Nat))) rfl (congrArg (Value.int .i64) (by omega)) ?_
  refine .rp 10 rfl (by kernel_rfl) (by kernel_rfl) (by kernel_rfl) (Reads.pure (.indexAddr (b := b9) (o := o9) Tryz.underlying64 ts70 (by show some (Value.slice (c.la) _ _) = _; rw [h9]) rfl (by omega) (by omega))) ?_
  refine .goD fds [11] ?_
  refine .rd 12 rfl rfl (by kernel_rfl) (by kernel_rfl) (by kernel_rfl) (.load na3 rfl (Knows.one (i := 0) (Knows.elem (f := epc) epc_len (by decide) (Knows.pick .head (k.mono fun _ h => h9 ▸ h.2)) (hx)) rfl)) (.cons .head .nil) ?_
  refine .goD fds [13] ?_
  refine .done (by kernel_rfl) ?_
  refine .retP Tryz.func31 (.cons (.tmp rfl) .nil) (.cons .head .nil) ?_
  exact ⟨[], ⟨by rw [last_of hx (by omega)]; rfl, rfl⟩, rfl⟩
set_option maxHeartbeats 1000000 in
set_option maxRecDepth 20000 in
theorem ahead1_ok (db bx by' i : Nat) (c : Cx) (z : Int) (x : Ep) (hl : c.es.length ≤ 100000) (hx : c.es[i]? = some x) : Cn Tryz.prog 119 [.int .i64 (i : Nat), .pointer (some ⟨bx, 0, none⟩), .pointer (some ⟨by', 0, none⟩)] (fun w => CellsAt bx 0 [.pointer (some ⟨c.cb, 0, none⟩)] w ∧ CellsAt by' 0 [.int .i64 z] w ∧ CacheAt db c w) [] fun v G => v = .bool (decide (z ≤ x.2)) ∧ G = [] := by
 refine .enter Tryz.func119 rfl (by kernel_rfl) rfl fun R k => ?_
 have hi := (List.getElem?_eq_some_iff.1 hx).1
 refine .tell (φ := ∃ b o, c.la = some ⟨b, o, none⟩) (Knows.pick .head (k.mono fun _ h => RowAt.addr h.2.2.2 (by rw [flat_length epc_len]; omega))) (fun hh => ?_)
 obtain ⟨b9, o9, h9⟩ := hh
 refine .go fds 5 ?_
 refine .draws [0, 3, 7, 8] [R] (by kernel_rfl) ?_
 refine .rd 0 rfl rfl (by kernel_rfl) (by kernel_rfl) (by kernel_rfl) (.load na65 rfl (Knows.one (i := 0) (Knows.pick .head (k.mono fun _ h => h.1)) rfl)) (.cons .head .nil) ?_
 refine .goD fds [1] ?_
 refine .goD fds [2] ?_
 refine .rd 3 rfl rfl (by kernel_rfl) (by kernel_rfl) (by kernel_rfl) (.load na64 rfl (Knows.one (i := 2) (Knows.pick .head (k.mono fun _ h => h.2.2.1)) rfl)) (.cons .head .nil) ?_
 refine .goD fds [4] ?_
 refine .rp 5 rfl (by kernel_rfl) (by kernel_rfl) (by kernel_rfl) (Reads.pure (.indexAddr (b := b9) (o := o9) Tryz.underlying64 ts70 (by show some (Value.slice (c.la) _ _) = _; rw [h9]) rfl (by omega) (by omega))) ?_
 refine .goD fds [6] ?_
 refine .rd 7 rfl rfl (by kernel_rfl) (by kernel_rfl) (by kernel_rfl) (.load na3 rfl (Knows.one (i := 1) (Knows.elem (f := epc) epc_len (by decide) (Knows.pick .head (k.mono fun _ h => h9 ▸ h.2.2.2)) (hx)) rfl)) (.cons .head .nil) ?_
 refine .rd 8 rfl rfl (by kernel_rfl) (by kernel_rfl) (by kernel_rfl) (.load na3 rfl (Knows.one (i := 0) (Knows.pick .head (k.mono fun _ h => h.2.1)) rfl)) (.cons .head .nil) ?_
 refine .goD fds [9] ?_
 refine .goD fds [10] ?_
 refine .done (by kernel_rfl) ?_
 refine .retP Tryz.func119 (.cons (.tmp rfl) .nil) (.cons .head .nil) ?_
 exact ⟨[], ⟨rfl, rfl⟩, rfl⟩
theorem ahead1 {db bx by' : Nat} {c : Cx} {z : Int} (hl : c.es.length ≤ 100000) (i : Nat) (hi : i < c.es.length) : Cn Tryz.prog 119 [.int .i64 (i : Nat), .pointer (some ⟨bx, 0, none⟩), .pointer (some ⟨by', 0, none⟩)] (fun w => CellsAt bx 0 [.pointer (some ⟨c.cb, 0, none⟩)] w ∧ CellsAt by' 0 [.int .i64 z] w ∧ CacheAt db c w) [] fun v G => v = .bool (pE c.es z i) ∧ G = [] := by
 obtain ⟨x, hx⟩ : ∃ x, c.es[i]? = some x := ⟨_, List.getElem?_eq_getElem hi⟩
 rw [pE_at hx]; exact ahead1_ok db bx by' i c z x hl hx
set_option maxHeartbeats 1000000 in
set_option maxRecDepth 20000 in
theorem ahead_ok (db : Nat) (c : Cx) (z : Int) (hc : EpsOk c.es) : Cn Tryz.prog 76 [.pointer (some ⟨c.cb, 0, none⟩), .int .i64 z] (CacheAt db c) [] fun v G => v = .int .i64 ((cutE z c.es).length : Nat) ∧ G = [] := by
 refine .enter Tryz.func76 rfl (by kernel_rfl) rfl fun R k => ?_
 have hl := hc.len
 refine .goO fds 2 ?_
 refine .ef (.box (l := [.pointer (some ⟨c.cb, 0, none⟩)]) rfl rfl (ones.of rfl)) ?_
 rintro _ _ ⟨b2, rfl, rfl⟩
 refine .ef (.box (l := [.int .i64 z]) rfl rfl (ones.of rfl)) ?_
 rintro _ _ ⟨b3, rfl, rfl⟩
 refine .goO fds 4 ?_
 refine .rd (.ld na65 rfl (.tail .head) rfl) ?_
 refine .go fds 2 ?_
 refine .rd (.load na64 rfl (Knows.one (i := 2) (Knows.pick (.tail (.tail .head)) (k.mono fun _ h => h.1)) rfl)) ?_
 refine .rd (.lenL rfl rfl Tryz.underlying64 rfl) ?_
 refine .rd (.makeFunc (cs := [.pointer (some ⟨b2, 0, none⟩), .pointer (some ⟨b3, 0, none⟩)]) rfl rfl) ?_
 refine .fn rfl rfl .nil ((Knows.blk (.tail .head)).and ((Knows.blk .head).and (Knows.pick (.tail (.tail .head)) k))) (Search_ok c.es.length (by omega) (pE c.es z) (pE_mono hc z) (fun w => CellsAt b2 0 [.pointer (some ⟨c.cb, 0, none⟩)] w ∧ CellsAt b3 0 [.int .i64 z] w ∧ CacheAt db c w) 119 #[.pointer (some ⟨b2, 0, none⟩), .pointer (some ⟨b3, 0, none⟩)] (ahead1 (by omega))) (fun v G1 hq => ?_)
 obtain ⟨u, hu, hu1, hu2, rfl, rfl⟩ := hq
 simp only [List.nil_append]
 obtain ⟨_, rfl⟩ := ahead_is hc hu hu1 hu2
 refine .goR fds 2 ?_
 refine .retP Tryz.func76 (.cons (.tmp rfl) .nil) (.cons (.tail (.tail .head)) .nil) ?_
 exact ⟨[], ⟨rfl, rfl⟩, rfl⟩
set_option maxHeartbeats 1000000 in
set_option maxRecDepth 20000 in
theorem AllE_ok (db : Nat) (c : Cx) (hl : c.es.length ≤ 100000) : Cn Tryz.prog 30 [.pointer (some ⟨c.cb, 0, none⟩)] (CacheAt db c) [] fun v G => ∃ a n, v = .slice a c.es.length n ∧ G = [arr 70 3 a n (c.es.flatMap epc)] := by
 refine .enter Tryz.func30 rfl (by kernel_rfl) rfl fun R k => ?_
 refine .goO fds 9 ?_
 refine .rd (.load na64 rfl (Knows.one (i := 2) (Knows.pick .head (k.mono fun _ h => h.1)) rfl)) ?_
 refine .fn rfl rfl .nil (Knows.pick .head (k.mono fun _ h => h.2)) (cloneE_ok c.la c.lc c.es (by omega)) (fun v G1 hq => ?_)
 obtain ⟨a', n', rfl, rfl⟩ := hq
 simp only [List.cons_append, List.nil_append]
 refine .goR fds 2 ?_
 refine .retP Tryz.func30 (.cons (.tmp rfl) .nil) (.cons .head (.cons .head .nil)) ?_
 exact ⟨[_], ⟨a', n', rfl, rfl⟩, rfl⟩
end Go.Proofs.YtoglbebcdjdkiaaGreatDoor
namespace Go.Proofs.YtoglbebcdjdkiaaGreatDoor
open Go Go.Sp
set_option linter.unusedVariables false
namespace ep2
theorem na115 : NotAgg Tryz.prog 115 := ⟨_, Tryz.underlying115, trivial⟩
theorem ti5 : TI Tryz.prog 5 1 1 (.int .u8 0) := .of (by kernel_rfl)
theorem ts115 : TS Tryz.prog 115 1 := .of (by kernel_rfl)
end ep2
open ep2
theorem ableCC : Able Tryz.prog 161 := ⟨_, Tryz.func161, by kernel_rfl, rfl⟩
theorem copyCheck_ok (b : Nat) (p v : Value) (hp : p = .pointer none ∨ p = .pointer (some ⟨b, 0, none⟩)) : Cn Tryz.prog 161 [.pointer (some ⟨b, 0, none⟩)] (fun _ => True) [blk b [p, v] 177] fun r G => r = .tuple #[] ∧ G = [blk b [.pointer (some ⟨b, 0, none⟩), v] 177] := by
 refine Cn.callsSet (i := 0) (u := .pointer (some ⟨b, 0, none⟩)) ableCC (Nat.zero_lt_succ _) rfl fun w fz hfz hb => ?_
 have hc : w.cell? ⟨b, 0, none⟩ = some p := cell_of (l := [p, v]) (o := 0) hb
 rcases hp with rfl | rfl
 ·
  exact Any.Builder_copyCheck_fresh (ρ := Tryz.lays105_ren) { Tryz.lays105 with } { Tryz.Builder_Extra_105 with } b w hc (by simp [World.shape?, hb]; rfl) (by
   simp only [World.frozen?, hb]
   rcases hfz with h | h
   ·
    simp [h]
   ·
    simp at h; simp; omega)
 ·
  refine (Any.Builder_copyCheck_used (ρ := Tryz.lays105_ren) { Tryz.lays105 with } { Tryz.Builder_Extra_105 with } b w hc).mono fun x w' h => ⟨h.1, h.2.trans ?_⟩
  unfold World.setCell
  have e : w.heap.modify b (fun o => match o with | .cells c e f => .cells (if (none : Option Nat).isSome then c else c.setIfInBounds 0 (.pointer (some ⟨b, 0, none⟩))) e f | o => o) = w.heap := by
   apply Array.ext_getElem?
   intro i
   rw [Array.getElem?_modify]
   split
   ·
    rename_i h; subst h; rw [hb]; rfl
   ·
    rfl
  exact (congrArg (fun h => { w with heap := h }) e.symm)
theorem ableWS : Able Tryz.prog 117 := ⟨_, Tryz.func117, by kernel_rfl, rfl⟩
theorem ableST : Able Tryz.prog 118 := ⟨_, Tryz.func118, by kernel_rfl, rfl⟩
set_option maxRecDepth 20000 in
theorem wrs_ok (b : Nat) (l s : List UInt8) (p : Value) (a : Option Addr) (c : Nat) (hp : p = .pointer none ∨ p = .pointer (some ⟨b, 0, none⟩)) (hl : l.length ≤ 1000000000) (hs : s.length ≤ 1000000000) : Cn Tryz.prog 117 [.pointer (some ⟨b, 0, none⟩), .string (str s)] (fun _ => True) [blk b [p, .slice a l.length c] 177, arr 5 1 a c (bcs l)] fun v G => v = .tuple #[.int .i64 (s.length : Int), .nilIface] ∧ G = [BL b (l ++ s)] := by
 refine .enter Tryz.func117 rfl (by kernel_rfl) rfl fun R k => ?_
 refine .goO fds 8 ?_
 refine .fn rfl rfl (.cons .head .nil) (fun _ _ _ => trivial) (copyCheck_ok b p (.slice a l.length c) hp) (fun v G1 hq => ?_)
 obtain ⟨rfl, rfl⟩ := hq
 simp only [List.cons_append, List.nil_append]
 refine .goO fds 7 ?_
 refine .rd (.ld na115 rfl .head rfl) ?_
 refine .rd (.move rfl) ?_
 refine .ef (.append rfl rfl Tryz.underlying115 ti5 rfl (ones.of rfl) (by decide) (by decide) rfl rfl (.tail .head) (n := l.length) (m := s.length) (by rw [bcs_len, Nat.mul_one]) (.srcT Tryz.underlying9) (by omega)) ?_
 rintro _ _ ⟨ra, rc, rfl, rn, rfl⟩
 refine .go fds 2 ?_
 refine .ef0 (.store ts115 rfl rfl (.tail .head) rfl (Nat.le_of_ble_eq_true rfl)) ?_
 rintro _ _ rfl
 refine .goO fds 4 ?_
 refine .rd (.lenT rfl rfl Tryz.underlying9 rfl) ?_
 refine .goR fds 3 ?_
 refine .cast (X' := blk b [.pointer (some ⟨b, 0, none⟩), .slice ra (l ++ s).length rc] 177) (by rw [List.length_append]; rfl) ?_
 refine .perm (.cons (.tail .head) (.cons .head (.cons .head .nil))) ?_
 refine .cast (X' := arr 5 1 ra rc (bcs (l ++ s))) (by rw [bcs_append]) ?_
 refine .close (X := BL b (l ++ s)) (.cons (.tail .head) (.cons .head .nil)) (fun h H => ⟨(.pointer (some ⟨b, 0, none⟩), ra, rc), .inr rfl, H⟩) ?_
 refine .retP Tryz.func117 (.cons (.tmp rfl) (.cons (.tmp rfl) .nil)) (.cons .head (.cons .head .nil)) ?_
 exact ⟨[_], ⟨rfl, rfl⟩, rfl⟩
theorem WriteString_ok (b : Nat) (l s : List UInt8) (hl : l.length ≤ 1000000000) (hs : s.length ≤ 1000000000) : Cn Tryz.prog 117 [.pointer (some ⟨b, 0, none⟩), .string (str s)] (fun _ => True) [BL b l] fun v G => v = .tuple #[.int .i64 (s.length : Int), .nilIface] ∧ G = [BL b (l ++ s)] :=
 Cn.ex ableWS (fun _ h => h) fun ⟨p, a, c⟩ hp => wrs_ok b l s p a c hp hl hs
set_option maxRecDepth 20000 in
theorem string1_ok (b : Nat) (l : List UInt8) (p : Value) (a : Addr) (c : Nat) (hc : c ≠ 0) (h0 : l ≠ []) (hl : l.length ≤ 1000000000) : Cn Tryz.prog 118 [.pointer (some ⟨b, 0, none⟩)] (fun _ => True) [blk b [p, .slice (some a) l.length c] 177, raw 5 (some a) (bcs l)] fun v G => v = .string (str l) ∧ G = [BS b l] := by
 refine .enter Tryz.func118 rfl (by kernel_rfl) rfl fun R k => ?_
 refine .go fds 5 ?_
 refine .draws [3, 8] [blk b [p, .slice (some a) l.length c] 177] (by kernel_rfl) ?_
 refine .goD fds [0] ?_
 refine .goD fds [1] ?_
 refine .goD fds [2] ?_
 refine .rd 3 rfl rfl (by kernel_rfl) (by kernel_rfl) (by kernel_rfl) (.ld na115 rfl .head rfl) (.cons .head .nil) ?_
 refine .rp 4 rfl (by kernel_rfl) (by kernel_rfl) (by kernel_rfl) (Reads.pure (.sliceData (a := some a) (n := l.length) (c := c) rfl rfl (.inr hc))) ?_
 refine .goD fds [5] ?_
 refine .goD fds [6] ?_
 refine .goD fds [7] ?_
 refine .rd 8 rfl rfl (by kernel_rfl) (by kernel_rfl) (by kernel_rfl) (.ld na115 rfl .head rfl) (.cons .head .nil) ?_
 refine .rp 9 rfl (by kernel_rfl) (by kernel_rfl) (by kernel_rfl) (Reads.pure (.lenL rfl rfl Tryz.underlying115 rfl)) ?_
 refine .ef 10 (by kernel_rfl) rfl (.unsafeStrR (p := some a) (l := l) rfl rfl Tryz.underlying206 (by kernel_rfl) h0 (by omega) rfl rfl (.tail .head)) ?_
 rintro _ _ ⟨rfl, rfl⟩
 refine ⟨.inl (by kernel_rfl), ?_⟩
 refine .goD fds [11] ?_
 refine .done (by kernel_rfl) ?_
 refine .close (X := BS b l) (.cons (.tail .head) (.cons .head .nil)) (fun h H => ⟨(p, a, c), hc, H⟩) ?_
 refine .retP Tryz.func118 (.cons (.tmp rfl) .nil) (.cons .head (.cons .head .nil)) ?_
 exact ⟨[_], ⟨rfl, rfl⟩, rfl⟩
theorem String_ok (b : Nat) (l : List UInt8) (h0 : l ≠ []) (hl : l.length ≤ 1000000000) : Cn Tryz.prog 118 [.pointer (some ⟨b, 0, none⟩)] (fun _ => True) [BS b l] fun v G => v = .string (str l) ∧ G = [BS b l] :=
 Cn.ex ableST (fun _ h => h) fun ⟨p, a, c⟩ hc => string1_ok b l p a c hc h0 hl
end Go.Proofs.YtoglbebcdjdkiaaGreatDoor
namespace Go.Proofs.YtoglbebcdjdkiaaGreatDoor
open Go Go.Sp
set_option linter.unusedVariables false
namespace ep4
theorem na64 : NotAgg Tryz.prog 64 := ⟨_, Tryz.underlying64, trivial⟩
theorem ti177 : TI Tryz.prog 177 2 32 (.agg #[.pointer none, .slice none 0 0]) := .of (by kernel_rfl)
theorem ts70 : TS Tryz.prog 70 3 := .of (by kernel_rfl)
theorem ia70 : IsAgg Tryz.prog 70 := ⟨_, Tryz.underlying70, trivial⟩
theorem ti70 : TI Tryz.prog 70 3 32 (.agg #[.int .i64 0, .int .i64 0, .string ⟨#[]⟩]) := .of (by kernel_rfl)
theorem na3 : NotAgg Tryz.prog 3 := ⟨_, Tryz.underlying3, trivial⟩
theorem na24 : NotAgg Tryz.prog 24 := ⟨_, Tryz.underlying24, trivial⟩
theorem na9 : NotAgg Tryz.prog 9 := ⟨_, Tryz.underlying9, trivial⟩
theorem ts64 : TS Tryz.prog 64 1 := .of (by kernel_rfl)
end ep4
open ep4
theorem mayN.i64 {n : Int} (h : mayN n) : Go.Proofs.YtoglbebcdjdkiaaGreatDoor.i64 n := by unfold mayN at h; unfold Go.Proofs.YtoglbebcdjdkiaaGreatDoor.i64; omega
theorem flat_next_e {es : List Ep} {i : Nat} {x : Ep} (h : es[i]? = some x) : (es.take (i + 1)).flatMap enE = (es.take i).flatMap enE ++ enE x := by
 rw [List.take_add_one, h, List.flatMap_append]; simp
theorem body_le_take {es : List Ep} (h : EpsOk es) (i : Nat) : (eint (es.length : Int) ++ (es.take i).flatMap enE).length ≤ 10 + es.length * 20 := by
 have h1 := eint_len (n := (es.length : Int)) ⟨by omega, by have := h.len; omega⟩
 have h2 := flat_le (f := enE) (k := 20) (es.take i) fun e he => enE_le (h.may e (List.mem_of_mem_take he))
 rw [List.length_append]; rw [List.length_take] at h2; omega
theorem bodyE_ne (es : List Ep) : bodyE es ≠ [] := fun e => by
 have h1 := congrArg List.length e
 have h2 := vint_pos (zig (es.length : Int))
 unfold bodyE eint at h1; rw [List.length_append, List.length_nil] at h1; omega
set_option maxHeartbeats 2000000 in
set_option maxRecDepth 20000 in
theorem write_ok (db mb : Nat) (d : Dk) (c : Cx) (es : List Ep) (a : Option Addr) (ac : Nat) (hc : c.es.length ≤ 100000) (he : EpsOk es) (hd : d.ok) (hn : Named c.nm) (hr : (d.get c.nm).isSome = true ∨ d.fs.length < 256) (hroom : d.used + (14 + es.length * 20) ≤ d.size) : Cn Tryz.prog 75 [.pointer (some ⟨c.cb, 0, none⟩), .slice a es.length ac] (fun _ => True) [blk c.cb (c.cells db) 125, arr 70 3 c.la c.lc (c.es.flatMap epc), arr 70 3 a ac (es.flatMap epc), blk db (d.cells mb) 74, mp nmv Fl.val mb d.fs] fun v G => v = .int .i64 0 ∧ ∃ la lc, G = [CG db ⟨c.cb, c.nm, es, la, lc⟩, blk db ((keptE d c es).cells mb) 74, mp nmv Fl.val mb (keptE d c es).fs] := by
 refine .enter Tryz.func75 rfl (by kernel_rfl) rfl fun R k => ?_
 have hl := he.len
 refine .goO fds 11 ?_
 refine .rd (.ld na64 rfl .head rfl) ?_
 refine .fn rfl rfl .nil ((Knows.arr (.tail (.tail .head))).and (Knows.arr (.tail .head))) (equalE_ok a c.la ac c.lc es c.es (by omega) (by omega)) (fun v G1 hq => ?_)
 obtain ⟨rfl, rfl⟩ := hq
 simp only [List.nil_append]
 refine .nil ?_
 refine .condP rfl (fun h1 => ?_) (fun h1 => ?_)
 ·
  refine .go fds 4 ?_
  obtain rfl := h1
  refine .perm (.cons (.tail (.tail (.tail .head))) (.cons .head (.cons .head (.cons .head (.cons .head (.cons .head .nil)))))) ?_
  refine .cast (X' := blk db ((keptE d c c.es).cells mb) 74) (by unfold keptE; rw [if_pos rfl]) ?_
  refine .perm (.cons (.tail (.tail (.tail (.tail .head)))) (.cons .head (.cons .head (.cons .head (.cons .head (.cons .head .nil)))))) ?_
  refine .cast (X' := mp nmv Fl.val mb (keptE d c c.es).fs) (by unfold keptE; rw [if_pos rfl]) ?_
  refine .close (X := CG db ⟨c.cb, c.nm, c.es, c.la, c.lc⟩) (.cons (.tail (.tail .head)) (.cons (.tail (.tail .head)) .nil)) (fun h H => H) ?_
  refine .retP Tryz.func75 (.cons (.tmp rfl) .nil) (.cons .head (.cons (.tail .head) (.cons .head (.cons (.tail .head) .nil)))) ?_
  exact ⟨[_, _, _], ⟨rfl, c.la, c.lc, rfl⟩, rfl⟩
 ·
  refine .goO fds 3 ?_
  refine .ef (.alloc ti177 rfl (ones.of rfl)) ?_
  rintro _ _ ⟨b5, rfl, rfl⟩
  refine .nil ?_
  refine .nilArr 5 1 none ?_
  refine .close (X := BL b5 []) (.cons (.tail .head) (.cons .head .nil)) (fun h H => ⟨(.pointer none, none, 0), .inl rfl, H⟩) ?_
  refine .goO fds 3 ?_
  refine .rd (.lenL rfl rfl Tryz.underlying64 rfl) ?_
  refine .fn rfl rfl .nil (fun _ _ _ => trivial) (Int_ok (es.length : Int) (by unfold i64; omega)) (fun v G1 hq => ?_)
  obtain ⟨rfl, rfl⟩ := hq
  simp only [List.nil_append]
  have he0 := eint_len (n := (es.length : Int)) (by unfold i64; omega)
  refine .fn rfl rfl (.cons .head .nil) (fun _ _ _ => trivial) (WriteString_ok b5 [] (eint (es.length : Int)) (Nat.zero_le _) (by omega)) (fun v G1 hq => ?_)
  obtain ⟨rfl, rfl⟩ := hq
  simp only [List.cons_append, List.nil_append]
  refine .nil ?_
  refine .cast (X' := BL b5 (eint (es.length : Int) ++ (es.take 0).flatMap enE)) (by rw [List.take_zero]; simp) ?_
  refine .goO fds 4 ?_
  refine .rd (.lenL rfl rfl Tryz.underlying64 rfl) ?_
  refine .goR fds 3 ?_
  refine .loop (σ := Nat) (fun i => i ≤ es.length) (fun i => es.length - i) (fun i => [(0, .pointer (some ⟨c.cb, 0, none⟩)), (1, .slice a es.length ac), (5, .pointer (some ⟨b5, 0, none⟩)), (19, .slice a es.length ac), (20, .int .i64 (es.length : Nat)), (21, .int .i64 (i : Nat))]) (fun i => [BL b5 (eint (es.length : Int) ++ (es.take i).flatMap enE), blk c.cb (c.cells db) 125, arr 70 3 c.la c.lc (c.es.flatMap epc), arr 70 3 a ac (es.flatMap epc), blk db (d.cells mb) 74, mp nmv Fl.val mb d.fs, R]) 0 (Nat.zero_le _) (.cons rfl (.cons rfl (.cons rfl (.cons rfl (.cons rfl (.cons rfl .nil)))))) (.cons .head (.cons .head (.cons .head (.cons .head (.cons .head (.cons .head (.cons .head .nil))))))) (fun i hI ih => ?_)
  have hil := hI
  have hbt := body_le_take he i
  refine .go fds 5 ?_
  refine .condP rfl (fun h6 => ?_) (fun h6 => ?_)
  ·
   refine .go fds 4 ?_
   obtain ⟨x, hx⟩ : ∃ x, es[i]? = some x := ⟨_, List.getElem?_eq_getElem (by omega)⟩
   have hx1 := he.may x (List.mem_of_getElem? hx)
   have hx2 := enE_le hx1
   refine .tell (φ := ∃ b o, a = some ⟨b, o, none⟩) ((Knows.arr (.tail (.tail (.tail .head)))).mono fun _ h => RowAt.addr h (by rw [flat_length epc_len]; omega)) (fun hh => ?_)
   obtain ⟨b9, o9, h9⟩ := hh
   refine .region ?_
   refine .rd (.indexAddr (b := b9) (o := o9) Tryz.underlying64 ts70 (by show some (Value.slice (a) _ _) = _; rw [h9]) rfl (by omega) (by omega)) ?_
   refine .rd (.loadN ia70 ts70 rfl rfl (Knows.elem (f := epc) epc_len (by decide) ((Knows.arr (.tail (.tail (.tail .head)))).mono fun _ h => h9 ▸ h) (hx))) ?_
   refine .ef (.alloc ti70 rfl (ones.of rfl)) ?_
   rintro _ _ ⟨b7, rfl, rfl⟩
   refine .ef0 (.storeAll (vs := epc x) ts70 rfl rfl rfl .head rfl (ones.of rfl)) ?_
   rintro _ _ rfl
   refine .nil ?_
   refine .drawsTo [1, 4] [blk b7 (epc x) 70] [(0, .pointer (some ⟨c.cb, 0, none⟩)), (1, .slice a es.length ac), (5, .pointer (some ⟨b5, 0, none⟩)), (19, .slice a es.length ac), (20, .int .i64 (es.length : Nat)), (21, .int .i64 (i : Nat))] [BL b5 (eint (es.length : Int) ++ (es.take (i + 1)).flatMap enE), blk c.cb (c.cells db) 125, arr 70 3 c.la c.lc (c.es.flatMap epc), arr 70 3 a ac (es.flatMap epc), blk db (d.cells mb) 74, mp nmv Fl.val mb d.fs, R] (by kernel_rfl) ?_ ?_
   ·
    refine .goD fds [0] ?_
    refine .rd 1 rfl rfl (by kernel_rfl) (by kernel_rfl) (by kernel_rfl) (.ld na3 rfl .head rfl) (.cons .head .nil) ?_
    refine .goD fds [3] ?_
    refine .rd 4 rfl rfl (by kernel_rfl) (by kernel_rfl) (by kernel_rfl) (.ld na3 rfl .head rfl) (.cons .head .nil) ?_
    refine .ef 2 (by kernel_rfl) rfl (.fn rfl rfl .nil (fun _ _ _ => trivial) (Int_ok x.1 hx1.1.i64)) ?_
    rintro v _ ⟨G1, hq, rfl⟩
    obtain ⟨rfl, rfl⟩ := hq
    simp only [List.nil_append]
    refine ⟨.inr ⟨_, (.cons .head .nil)⟩, ?_⟩
    refine .ef 5 (by kernel_rfl) rfl (.fn rfl rfl .nil (fun _ _ _ => trivial) (Int_ok x.2 hx1.2.i64)) ?_
    rintro v _ ⟨G1, hq, rfl⟩
    obtain ⟨rfl, rfl⟩ := hq
    simp only [List.nil_append]
    refine ⟨.inl (by kernel_rfl), ?_⟩
    refine .rp 6 rfl (by kernel_rfl) (by kernel_rfl) (by kernel_rfl) (Reads.pure (.catT (l := eint x.1) (m := eint x.2) rfl rfl (by have := hx2; unfold enE at this; rw [List.length_append] at this; omega))) ?_
    refine .alter (t := 31) (v' := .string (str (enE x))) rfl (rfl) ?_
    refine .ef 7 (by kernel_rfl) rfl (.fn rfl rfl (.cons (.tail .head) .nil) (fun _ _ _ => trivial) (WriteString_ok b5 (eint (es.length : Int) ++ (es.take i).flatMap enE) (enE x) (by omega) (by omega))) ?_
    rintro v _ ⟨G1, hq, rfl⟩
    obtain ⟨rfl, rfl⟩ := hq
    simp only [List.cons_append, List.nil_append]
    refine ⟨.inl (by kernel_rfl), ?_⟩
    refine .cast (X' := BL b5 (eint (es.length : Int) ++ (es.take (i + 1)).flatMap enE)) (by rw [flat_next_e hx, List.append_assoc]) ?_
    exact .done (by kernel_rfl) ⟨(.cons rfl (.cons rfl (.cons rfl (.cons rfl (.cons rfl (.cons rfl .nil)))))), _, (.cons .head (.cons (.tail .head) (.cons (.tail .head) (.cons (.tail .head) (.cons (.tail .head) (.cons (.tail .head) (.cons (.tail .head) .nil)))))))⟩
   ·
    refine .goO fds 2 ?_
    refine .rd (.add rfl rfl (by omega) (by omega)) ?_
    refine .goR fds 2 ?_
    exact (ih (i + 1) (by omega) (by omega)).to (.cons rfl (.cons rfl (.cons rfl (.cons rfl (.cons rfl (.cons rfl .nil)))))) (.cons .head (.cons .head (.cons .head (.cons .head (.cons .head (.cons .head (.cons .head .nil)))))))
  ·
   refine .go fds 2 ?_
   obtain rfl : i = es.length := by omega
   refine .cast (X' := BL b5 (bodyE es)) (by rw [List.take_length]; rfl) ?_
   have hbd := bodyE_le he
   have hsl := summed_len (bodyE es)
   refine .close (X := BS b5 (bodyE es)) (.cons .head .nil) (fun h H => BL.done (bodyE_ne es) H) ?_
   refine .drawsTo [3, 7] [blk c.cb (c.cells db) 125] [(0, .pointer (some ⟨c.cb, 0, none⟩)), (1, .slice a es.length ac), (8, .int .i64 0)] [blk c.cb (c.cells db) 125, arr 70 3 a ac (es.flatMap epc), blk db ((d.put c.nm ⟨summed (bodyE es), (summed (bodyE es)).length⟩).cells mb) 74, mp nmv Fl.val mb (d.put c.nm ⟨summed (bodyE es), (summed (bodyE es)).length⟩).fs, R] (by kernel_rfl) ?_ ?_
   ·
    refine .goD fds [0] ?_
    refine .goD fds [1] ?_
    refine .goD fds [2] ?_
    refine .rd 3 rfl rfl (by kernel_rfl) (by kernel_rfl) (by kernel_rfl) (.ld na24 rfl .head rfl) (.cons (.tail .head) .nil) ?_
    refine .goD fds [4] ?_
    refine .goD fds [5] ?_
    refine .goD fds [6] ?_
    refine .rd 7 rfl rfl (by kernel_rfl) (by kernel_rfl) (by kernel_rfl) (.ld na9 rfl .head rfl) (.cons (.tail .head) .nil) ?_
    refine .ef 8 (by kernel_rfl) rfl (.fn rfl rfl (.cons .head .nil) (fun _ _ _ => trivial) (String_ok b5 (bodyE es) (bodyE_ne es) (by omega))) ?_
    rintro v _ ⟨G1, hq, rfl⟩
    obtain ⟨rfl, rfl⟩ := hq
    simp only [List.cons_append, List.nil_append]
    refine ⟨.inr ⟨_, (.cons (.tail .head) .nil)⟩, ?_⟩
    refine .ef 9 (by kernel_rfl) rfl (.fn rfl rfl .nil (fun _ _ _ => trivial) (esum_ok (bodyE es) (by omega))) ?_
    rintro v _ ⟨G1, hq, rfl⟩
    obtain ⟨rfl, rfl⟩ := hq
    simp only [List.nil_append]
    refine ⟨.inr ⟨_, (.cons (.tail .head) .nil)⟩, ?_⟩
    refine .ef 10 (by kernel_rfl) rfl (.fn rfl rfl (.cons .head .nil) (fun _ _ _ => trivial) (String_ok b5 (bodyE es) (bodyE_ne es) (by omega))) ?_
    rintro v _ ⟨G1, hq, rfl⟩
    obtain ⟨rfl, rfl⟩ := hq
    simp only [List.cons_append, List.nil_append]
    refine ⟨.inr ⟨_, (.cons (.tail .head) .nil)⟩, ?_⟩
    refine .rp 11 rfl (by kernel_rfl) (by kernel_rfl) (by kernel_rfl) (Reads.pure (.catT (l := fours (crc (bodyE es)).toNat) (m := bodyE es) rfl rfl (by rw [fours_len]; omega))) ?_
    refine .alter (t := 45) (v' := .string (str (summed (bodyE es)))) rfl (rfl) ?_
    refine .ef 12 (by kernel_rfl) rfl (.fn rfl rfl (.cons (.tail (.tail (.tail (.tail .head)))) (.cons (.tail (.tail (.tail (.tail .head)))) .nil)) (fun _ _ _ => trivial) (Replace_ok db mb d c.nm (summed (bodyE es)) hd hn hr (by omega))) ?_
    rintro v _ ⟨G1, hq, rfl⟩
    obtain ⟨rfl, rfl⟩ := hq
    simp only [List.cons_append, List.nil_append]
    refine ⟨.inl (by kernel_rfl), ?_⟩
    refine .goD fds [13] ?_
    exact .done (by kernel_rfl) ⟨(.cons rfl (.cons rfl (.cons rfl .nil))), _, (.cons (.tail (.tail (.tail .head))) (.cons (.tail (.tail (.tail (.tail .head)))) (.cons .head (.cons .head (.cons (.tail (.tail .head)) .nil)))))⟩
   ·
    refine .goO fds 12 ?_
    refine .ef0 (.store ts64 rfl rfl .head rfl (Nat.le_of_ble_eq_true rfl)) ?_
    rintro _ _ rfl
    refine .goR fds 6 ?_
    refine .perm (.cons (.tail (.tail .head)) (.cons .head (.cons .head (.cons .head (.cons .head .nil))))) ?_
    refine .cast (X' := blk db ((keptE d c es).cells mb) 74) (by unfold keptE; rw [if_neg h1]) ?_
    refine .perm (.cons (.tail (.tail (.tail .head))) (.cons .head (.cons .head (.cons .head (.cons .head .nil))))) ?_
    refine .cast (X' := mp nmv Fl.val mb (keptE d c es).fs) (by unfold keptE; rw [if_neg h1]) ?_
    refine .close (X := CG db ⟨c.cb, c.nm, es, a, ac⟩) (.cons (.tail (.tail .head)) (.cons (.tail (.tail .head)) .nil)) (fun h H => H) ?_
    refine .retP Tryz.func75 (.cons (.tmp rfl) .nil) (.cons .head (.cons (.tail .head) (.cons .head (.cons .head .nil)))) ?_
    exact ⟨[_, _, _], ⟨rfl, a, ac, rfl⟩, rfl⟩
end Go.Proofs.YtoglbebcdjdkiaaGreatDoor
namespace Go.Proofs.YtoglbebcdjdkiaaGreatDoor
open Go Go.Sp
set_option linter.unusedVariables false
namespace ep5
theorem na64 : NotAgg Tryz.prog 64 := ⟨_, Tryz.underlying64, trivial⟩
theorem ts70 : TS Tryz.prog 70 3 := .of (by kernel_rfl)
theorem bld70_0_1 (x0 : Int) (x1 : Int) (w : World) : (Instr.build 70 (([0, 1] : List Nat).zip [.int .i64 x0, .int .i64 x1]).toArray).run Tryz.prog w = .ok (.agg #[.int .i64 x0, .int .i64 x1, .string ⟨#[]⟩]) w := by kernel_rfl
theorem ti70 : TI Tryz.prog 70 3 32 (.agg #[.int .i64 0, .int .i64 0, .string ⟨#[]⟩]) := .of (by kernel_rfl)
theorem ia70 : IsAgg Tryz.prog 70 := ⟨_, Tryz.underlying70, trivial⟩
theorem na3 : NotAgg Tryz.prog 3 := ⟨_, Tryz.underlying3, trivial⟩
theorem fd70_1 : FD Tryz.prog 70 1 1 := .of Tryz.underlying70 (by kernel_rfl)
theorem ts3 : TS Tryz.prog 3 1 := .of (by kernel_rfl)
end ep5
open ep5
theorem cutE_pre {es : List Ep} (h : EpsOk es) (off : Int) {w : World} {a : Option Addr} (H : RowAt a (es.flatMap epc) w) : RowAt a ((cutE off es).flatMap epc) w := by
 obtain ⟨z, _, e⟩ := cutE_take h off
 rw [e]; exact H.takeF z
theorem cutE_le (off : Int) (es : List Ep) : (cutE off es).length ≤ es.length := List.length_filter_le ..
theorem EpsOk.begin {es : List Ep} (h : EpsOk es) {ep off : Int} (h1 : mayN ep) (h2 : mayN off) (hl : lastE es < ep) (hn : es.length < 200) : EpsOk (cutE off es ++ [(ep, off)]) := by
 refine (h.cut off).more h1 h2 ?_ (fun e he => of_decide_eq_true (List.mem_filter.1 he).2) (Nat.lt_of_le_of_lt (cutE_le _ _) hn)
 by_cases h0 : cutE off es = []
 ·
  rw [h0]; unfold mayN at h1; show (-1 : Int) < ep; omega
 ·
  obtain ⟨x, hx⟩ : ∃ x, (cutE off es)[(cutE off es).length - 1]? = some x := ⟨_, List.getElem?_eq_getElem (by have := List.length_pos_iff.2 h0; omega)⟩
  rw [last_of hx (by have := List.length_pos_iff.2 h0; omega)]
  have := h.le_last x (List.mem_filter.1 (List.mem_of_getElem? hx)).1
  show x.1 < ep; omega
theorem goneE_le (off : Int) (es : List Ep) : goneE off es ≤ es.length := by have := cutE_le (off + 1) es; unfold goneE; omega
theorem EpsOk.del {es : List Ep} (h : EpsOk es) {off : Int} (ho : mayN off) : EpsOk (delE off es) := by
 have hs := h.sub (List.drop_sublist (goneE off es) es)
 unfold delE
 cases hd : es.drop (goneE off es) with
 | nil => exact .nil
 | cons x r =>
  rw [hd] at hs
  have h1 := List.pairwise_cons.1 hs.up
  have hx := hs.may x (.head _)
  have hgt : ∀ y ∈ r, off < y.2 := fun y hy => by
   obtain ⟨z, hz, e⟩ := cutE_take h (off + 1)
   have hyl : y ∈ es.drop z := by
    have e1 : goneE off es + 1 ≥ z := by unfold goneE; rw [e, List.length_take]; omega
    have e2 : r = es.drop (goneE off es + 1) := by rw [← List.tail_drop, hd]; rfl
    have e3 : es.drop (goneE off es + 1) = (es.drop z).drop (goneE off es + 1 - z) := by rw [List.drop_drop]; congr 1; omega
    rw [e2, e3] at hy; exact List.mem_of_mem_drop hy
   have hnc : y ∉ cutE (off + 1) es := fun hm => by
    rw [e] at hm
    obtain ⟨i, hi⟩ := List.getElem?_of_mem hm
    obtain ⟨j, hj⟩ := List.getElem?_of_mem hyl
    rw [List.getElem?_take] at hi
    split at hi
    ·
     rename_i hiz
     rw [List.getElem?_drop] at hj
     obtain ⟨a1, a2⟩ := List.getElem?_eq_some_iff.1 hi
     obtain ⟨b1, b2⟩ := List.getElem?_eq_some_iff.1 hj
     have := (List.pairwise_iff_getElem.1 h.up i (z + j) a1 b1 (by omega)).1
     rw [a2, b2] at this; omega
    ·
     cases hi
   have hm : y ∈ es := List.mem_of_mem_drop hyl
   have : ¬ y.2 < off + 1 := fun hlt => hnc (List.mem_filter.2 ⟨hm, decide_eq_true hlt⟩)
   omega
  refine ⟨hs.len, fun e he => ?_, List.pairwise_cons.2 ⟨fun y hy => ⟨(h1.1 y hy).1, by have := (h1.1 y hy).2; have := hgt y hy; show max x.2 off < y.2; omega⟩, h1.2⟩⟩
  rcases List.mem_cons.1 he with rfl | he
  ·
   exact ⟨hx.1, by unfold mayN at *; show 0 ≤ max x.2 off ∧ max x.2 off ≤ 1000000000; omega⟩
  ·
   exact hs.may e (.tail _ he)
theorem delE_le (off : Int) (es : List Ep) : (delE off es).length ≤ es.length := by
 unfold delE
 cases hd : es.drop (goneE off es) with
 | nil => exact Nat.zero_le _
 | cons x r => have := congrArg List.length hd; rw [List.length_drop, List.length_cons] at this; show r.length + 1 ≤ _; omega
set_option maxHeartbeats 1000000 in
set_option maxRecDepth 20000 in
theorem CutE_ok (db mb : Nat) (d : Dk) (c : Cx) (off : Int) (hoff : mayN off) (hc : EpsOk c.es) (hd : d.ok) (hn : Named c.nm) (hr : (d.get c.nm).isSome = true ∨ d.fs.length < 256) (hroom : d.used + 4020 ≤ d.size) : Cn Tryz.prog 38 [.pointer (some ⟨c.cb, 0, none⟩), .int .i64 off] (fun _ => True) [CG db c, blk db (d.cells mb) 74, mp nmv Fl.val mb d.fs] fun v G => v = .int .i64 0 ∧ ∃ la lc, G = [CG db ⟨c.cb, c.nm, cutE off c.es, la, lc⟩, blk db ((keptE d c (cutE off c.es)).cells mb) 74, mp nmv Fl.val mb (keptE d c (cutE off c.es)).fs] := by
 refine .enter Tryz.func38 rfl (by kernel_rfl) rfl fun R k => ?_
 have hl := hc.len
 refine .unpack (L := [blk c.cb (c.cells db) 125, arr 70 3 c.la c.lc (c.es.flatMap epc)]) .head ?_
 simp only [List.cons_append, List.nil_append]
 refine .tell (Knows.cap (.tail .head)) (fun hcap => ?_)
 rw [flat_length epc_len] at hcap
 have hcl := cutE_le off c.es
 have hok := hc.cut off
 refine .goO fds 8 ?_
 refine .fn rfl rfl .nil (fun _ _ _ => trivial) (may_ok off) (fun v G1 hq => ?_)
 obtain ⟨rfl, rfl⟩ := hq
 simp only [List.nil_append]
 refine .alter (t := 6) (v' := .bool true) rfl (congrArg Value.bool (decide_eq_true hoff)) ?_
 refine .goR fds 5 ?_
 refine .draws [4] [blk c.cb (c.cells db) 125] (by kernel_rfl) ?_
 refine .goD fds [0] ?_
 refine .goD fds [1] ?_
 refine .goD fds [2] ?_
 refine .goD fds [3] ?_
 refine .rd 4 rfl rfl (by kernel_rfl) (by kernel_rfl) (by kernel_rfl) (.ld na64 rfl .head rfl) (.cons .head .nil) ?_
 refine .goD fds [5] ?_
 refine .goD fds [6] ?_
 refine .ef 7 (by kernel_rfl) rfl (.fn rfl rfl .nil ((Knows.blk .head).and (Knows.arr (.tail .head))) (ahead_ok db c off hc)) ?_
 rintro v _ ⟨G1, hq, rfl⟩
 obtain ⟨rfl, rfl⟩ := hq
 simp only [List.nil_append]
 refine ⟨.inr ⟨_, (.cons .head .nil)⟩, ?_⟩
 refine .rp 8 rfl (by kernel_rfl) (by kernel_rfl) (by kernel_rfl) (Reads.pure (.slice (l := 0) (h := (cutE off c.es).length) (m := c.lc) Tryz.underlying64 ts70 rfl rfl ⟨_, rfl⟩ rfl (Nat.zero_le _) (by omega) (Nat.le_refl _))) ?_
 refine .alter (t := 16) (v' := .slice c.la (cutE off c.es).length c.lc) rfl (by rw [slice0]) ?_
 refine .ef 9 (by kernel_rfl) rfl (.fn rfl rfl .nil ((Knows.arr (.tail .head)).mono fun _ h => cutE_pre hc off h) (cloneE_ok c.la c.lc (cutE off c.es) (by omega))) ?_
 rintro v _ ⟨G1, hq, rfl⟩
 obtain ⟨na, nc, rfl, rfl⟩ := hq
 simp only [List.cons_append, List.nil_append]
 refine ⟨.inl (by kernel_rfl), ?_⟩
 refine .ef 10 (by kernel_rfl) rfl (.fn rfl rfl (.cons (.tail .head) (.cons (.tail .head) (.cons .head (.cons .head (.cons .head .nil))))) (fun _ _ _ => trivial) (write_ok db mb d c (cutE off c.es) na nc (by omega) hok hd hn hr (by omega))) ?_
 rintro v _ ⟨G1, hq, rfl⟩
 obtain ⟨rfl, la, lc, rfl⟩ := hq
 simp only [List.cons_append, List.nil_append]
 refine ⟨.inl (by kernel_rfl), ?_⟩
 refine .goD fds [11] ?_
 refine .done (by kernel_rfl) ?_
 refine .retP Tryz.func38 (.cons (.tmp rfl) .nil) (.cons .head (.cons .head (.cons .head (.cons .head .nil)))) ?_
 exact ⟨[_, _, _], ⟨rfl, la, lc, rfl⟩, rfl⟩
set_option maxHeartbeats 1000000 in
set_option maxRecDepth 20000 in
theorem BeginE_ok (db mb : Nat) (d : Dk) (c : Cx) (ep off : Int) (hep : mayN ep) (hoff : mayN off) (hlast : lastE c.es < ep) (h200 : c.es.length < 200) (hc : EpsOk c.es) (hd : d.ok) (hn : Named c.nm) (hr : (d.get c.nm).isSome = true ∨ d.fs.length < 256) (hroom : d.used + 4020 ≤ d.size) : Cn Tryz.prog 40 [.pointer (some ⟨c.cb, 0, none⟩), .int .i64 ep, .int .i64 off] (fun _ => True) [CG db c, blk db (d.cells mb) 74, mp nmv Fl.val mb d.fs] fun v G => v = .int .i64 0 ∧ ∃ la lc, G = [CG db ⟨c.cb, c.nm, cutE off c.es ++ [(ep, off)], la, lc⟩, blk db ((keptE d c (cutE off c.es ++ [(ep, off)])).cells mb) 74, mp nmv Fl.val mb (keptE d c (cutE off c.es ++ [(ep, off)])).fs] := by
 refine .enter Tryz.func40 rfl (by kernel_rfl) rfl fun R k => ?_
 have hl := hc.len
 refine .unpack (L := [blk c.cb (c.cells db) 125, arr 70 3 c.la c.lc (c.es.flatMap epc)]) .head ?_
 simp only [List.cons_append, List.nil_append]
 refine .tell (Knows.cap (.tail .head)) (fun hcap => ?_)
 rw [flat_length epc_len] at hcap
 have hcl := cutE_le off c.es
 have hok := hc.begin hep hoff hlast h200
 have hbl : (cutE off c.es ++ [(ep, off)]).length = (cutE off c.es).length + 1 := by rw [List.length_append]; rfl
 refine .goO fds 8 ?_
 refine .fn rfl rfl .nil (fun _ _ _ => trivial) (may_ok ep) (fun v G1 hq => ?_)
 obtain ⟨rfl, rfl⟩ := hq
 simp only [List.nil_append]
 refine .alter (t := 11) (v' := .bool true) rfl (congrArg Value.bool (decide_eq_true hep)) ?_
 refine .go fds 3 ?_
 refine .on (t := 13) rfl rfl ?_
 refine .fn rfl rfl .nil (fun _ _ _ => trivial) (may_ok off) (fun v G1 hq => ?_)
 obtain ⟨rfl, rfl⟩ := hq
 simp only [List.nil_append]
 refine .alter (t := 15) (v' := .bool true) rfl (congrArg Value.bool (decide_eq_true hoff)) ?_
 refine .goO fds 11 ?_
 refine .rd (.ld na64 rfl .head rfl) ?_
 refine .rd (.lenL rfl rfl Tryz.underlying64 rfl) ?_
 refine .goR fds 7 ?_
 refine .joinAt (E' := [(0, .pointer (some ⟨c.cb, 0, none⟩)), (1, .int .i64 ep), (2, .int .i64 off)]) (Γ' := [blk c.cb (c.cells db) 125, arr 70 3 c.la c.lc (c.es.flatMap epc), blk db (d.cells mb) 74, mp nmv Fl.val mb d.fs, R]) ?_ (fun fin => ?_)
 ·
  refine .goO fds 4 ?_
  refine .fn rfl rfl .nil ((Knows.blk .head).and (Knows.arr (.tail .head))) (ahead_ok db c off hc) (fun v G1 hq => ?_)
  obtain ⟨rfl, rfl⟩ := hq
  simp only [List.nil_append]
  refine .goO fds 7 ?_
  refine .alter (t := 53) (v' := .bool false) rfl (congrArg Value.bool (decide_eq_false (by omega))) ?_
  refine .goO fds 9 ?_
  refine .rd (.ld na64 rfl .head rfl) ?_
  refine .rd (.move rfl) ?_
  refine .rd (.slice (l := 0) (h := (cutE off c.es).length) (m := c.lc) Tryz.underlying64 ts70 rfl rfl ⟨_, rfl⟩ rfl (Nat.zero_le _) (by omega) (Nat.le_refl _)) ?_
  refine .alter (t := 60) (v' := .slice c.la (cutE off c.es).length c.lc) rfl (by rw [slice0]) ?_
  refine .fn rfl rfl .nil ((Knows.arr (.tail .head)).mono fun _ h => cutE_pre hc off h) (cloneE_ok c.la c.lc (cutE off c.es) (by omega)) (fun v G1 hq => ?_)
  obtain ⟨na, nc, rfl, rfl⟩ := hq
  simp only [List.cons_append, List.nil_append]
  refine .go fds 2 ?_
  refine .rd (.build rfl (bld70_0_1 _ _)) ?_
  refine .ef (.buildOne (cs := epc (ep, off)) Tryz.underlying64 ti70 (by decide) rfl rfl rfl (ones.of rfl)) ?_
  rintro _ _ ⟨bs, rfl, rfl⟩
  refine .ef (.append rfl rfl Tryz.underlying64 ti70 rfl (ones.of rfl) (by decide) (by decide) rfl rfl (.tail .head) (n := (cutE off c.es).length) (m := 1) (by rw [flat_length epc_len]) (.srcBlk .head Tryz.underlying64 rfl (by decide)) (by omega)) ?_
  rintro _ _ ⟨ra, rc, rfl, rn, rfl⟩
  refine .alter (t := 66) (v' := .slice ra (cutE off c.es ++ [(ep, off)]).length rc) rfl (by rw [List.length_append]; rfl) ?_
  refine .cast (X' := arr 70 3 ra rc ((cutE off c.es ++ [(ep, off)]).flatMap epc)) (by rw [List.flatMap_append]; simp) ?_
  refine .fn rfl rfl (.cons (.tail (.tail .head)) (.cons (.tail (.tail .head)) (.cons .head (.cons (.tail .head) (.cons (.tail .head) .nil))))) (fun _ _ _ => trivial) (write_ok db mb d c (cutE off c.es ++ [(ep, off)]) ra rc (by omega) hok hd hn hr (by omega)) (fun v G1 hq => ?_)
  obtain ⟨rfl, la, lc, rfl⟩ := hq
  simp only [List.cons_append, List.nil_append]
  refine .goR fds 2 ?_
  refine .retP Tryz.func40 (.cons (.tmp rfl) .nil) (.cons .head (.cons .head (.cons .head (.cons (.tail .head) .nil)))) ?_
  exact ⟨[_, _, _], ⟨rfl, la, lc, rfl⟩, rfl⟩
 ·
  refine .condP rfl (fun c4 => ?_) (fun c4 => ?_)
  ·
   refine .seq ?_
   obtain ⟨x, hx⟩ : ∃ x, c.es[c.es.length - 1]? = some x := ⟨_, List.getElem?_eq_getElem (by omega)⟩
   have hxl : x.1 < ep := by rw [last_of hx (by omega)] at hlast; exact hlast
   refine .tell (φ := ∃ b o, c.la = some ⟨b, o, none⟩) ((Knows.arr (.tail .head)).mono fun _ h => RowAt.addr h (by rw [flat_length epc_len]; omega)) (fun hh => ?_)
   obtain ⟨b9, o9, h9⟩ := hh
   refine .goO fds 4 ?_
   refine .rd (.ld na64 rfl .head rfl) ?_
   refine .rd (.move rfl) ?_
   refine .rd (.sub rfl rfl (by omega) (by omega)) ?_
   refine .alter (t := 30) (v' := .int .i64 ((c.es.length - 1 : Nat))) rfl (congrArg (Value.int .i64) (by omega)) ?_
   refine .rd (.indexAddr (b := b9) (o := o9) Tryz.underlying64 ts70 (by show some (Value.slice (c.la) _ _) = _; rw [h9]) rfl (by omega) (by omega)) ?_
   refine .rd (.loadN ia70 ts70 rfl rfl (Knows.elem (f := epc) epc_len (by decide) ((Knows.arr (.tail .head)).mono fun _ h => h9 ▸ h) (hx))) ?_
   refine .ef (.alloc ti70 rfl (ones.of rfl)) ?_
   rintro _ _ ⟨b8, rfl, rfl⟩
   refine .ef0 (.storeAll (vs := epc x) ts70 rfl rfl rfl .head rfl (ones.of rfl)) ?_
   rintro _ _ rfl
   refine .goO fds 6 ?_
   refine .rd (.ld na3 rfl .head rfl) ?_
   refine .rd (.eqI rfl rfl) ?_
   refine .alter (t := 37) (v' := .bool false) rfl (congrArg Value.bool (decide_eq_false (by omega))) ?_
   refine .goO fds 13 ?_
   refine .rd (.ld na3 rfl .head rfl) ?_
   refine .rd (.le rfl rfl) ?_
   refine .alter (t := 48) (v' := .bool false) rfl (congrArg Value.bool (decide_eq_false (by omega))) ?_
   refine .goR fds 5 ?_
   exact fin (.cons rfl (.cons rfl (.cons rfl .nil))) (.cons (.tail .head) (.cons (.tail .head) (.cons (.tail .head) (.cons (.tail .head) (.cons (.tail .head) .nil)))))
  ·
   refine .skip ?_
   exact fin (.cons rfl (.cons rfl (.cons rfl .nil))) (.cons .head (.cons .head (.cons .head (.cons .head (.cons .head .nil)))))
set_option maxHeartbeats 1000000 in
set_option maxRecDepth 20000 in
theorem DeleteE_ok (db mb : Nat) (d : Dk) (c : Cx) (off : Int) (hoff : mayN off) (hc : EpsOk c.es) (hd : d.ok) (hn : Named c.nm) (hr : (d.get c.nm).isSome = true ∨ d.fs.length < 256) (hroom : d.used + 4020 ≤ d.size) : Cn Tryz.prog 55 [.pointer (some ⟨c.cb, 0, none⟩), .int .i64 off] (fun _ => True) [CG db c, blk db (d.cells mb) 74, mp nmv Fl.val mb d.fs] fun v G => v = .int .i64 0 ∧ ∃ la lc, G = [CG db ⟨c.cb, c.nm, delE off c.es, la, lc⟩, blk db ((keptE d c (delE off c.es)).cells mb) 74, mp nmv Fl.val mb (keptE d c (delE off c.es)).fs] := by
 refine .enter Tryz.func55 rfl (by kernel_rfl) rfl fun R k => ?_
 have hl := hc.len
 refine .unpack (L := [blk c.cb (c.cells db) 125, arr 70 3 c.la c.lc (c.es.flatMap epc)]) .head ?_
 simp only [List.cons_append, List.nil_append]
 refine .tell (Knows.cap (.tail .head)) (fun hcap => ?_)
 rw [flat_length epc_len] at hcap
 obtain ⟨ho1, ho2⟩ := id hoff
 have hgl := goneE_le off c.es
 have hcl := cutE_le (off + 1) c.es
 have hok := hc.del hoff
 have hdle := delE_le off c.es
 refine .goO fds 8 ?_
 refine .fn rfl rfl .nil (fun _ _ _ => trivial) (may_ok off) (fun v G1 hq => ?_)
 obtain ⟨rfl, rfl⟩ := hq
 simp only [List.nil_append]
 refine .alter (t := 8) (v' := .bool true) rfl (congrArg Value.bool (decide_eq_true hoff)) ?_
 refine .goO fds 8 ?_
 refine .rd (.add rfl rfl (by omega) (by omega)) ?_
 refine .fn rfl rfl .nil ((Knows.blk .head).and (Knows.arr (.tail .head))) (ahead_ok db c (off + 1) hc) (fun v G1 hq => ?_)
 obtain ⟨rfl, rfl⟩ := hq
 simp only [List.nil_append]
 refine .rd (.sub rfl rfl (by omega) (by omega)) ?_
 refine .rd (.max2 rfl rfl rfl) ?_
 refine .alter (t := 15) (v' := .int .i64 (goneE off c.es : Nat)) rfl (congrArg (Value.int .i64) (by unfold goneE; omega)) ?_
 refine .goO fds 7 ?_
 refine .rd (.ld na64 rfl .head rfl) ?_
 refine .rd (.move rfl) ?_
 refine .rd (.slice (l := goneE off c.es) (h := c.es.length) (m := c.lc) Tryz.underlying64 ts70 rfl rfl ⟨rfl, rfl⟩ ⟨_, rfl⟩ hgl (by omega) (Nat.le_refl _)) ?_
 refine .alter (t := 21) (v' := .slice (if c.lc = goneE off c.es then c.la else c.la.map (·.add (goneE off c.es * 3))) (c.es.drop (goneE off c.es)).length (c.lc - goneE off c.es)) rfl (by rw [List.length_drop]) ?_
 refine .fn rfl rfl .nil ((Knows.arr (.tail .head)).mono fun _ h => h.tailF epc_len (by decide) (goneE off c.es) hgl (by omega)) (cloneE_ok (if c.lc = goneE off c.es then c.la else c.la.map (·.add (goneE off c.es * 3))) (c.lc - goneE off c.es) (c.es.drop (goneE off c.es)) (by rw [List.length_drop]; omega)) (fun v G1 hq => ?_)
 obtain ⟨na, nc, rfl, rfl⟩ := hq
 simp only [List.cons_append, List.nil_append]
 refine .goO fds 6 ?_
 refine .rd (.lenL rfl rfl Tryz.underlying64 rfl) ?_
 refine .goR fds 2 ?_
 refine .joinAt (E' := [(0, .pointer (some ⟨c.cb, 0, none⟩)), (6, .slice na (delE off c.es).length nc)]) (Γ' := [arr 70 3 na nc ((delE off c.es).flatMap epc), blk c.cb (c.cells db) 125, arr 70 3 c.la c.lc (c.es.flatMap epc), blk db (d.cells mb) 74, mp nmv Fl.val mb d.fs, R]) ?_ (fun fin => ?_)
 ·
  refine .goO fds 4 ?_
  refine .fn rfl rfl (.cons (.tail .head) (.cons (.tail .head) (.cons .head (.cons .head (.cons .head .nil))))) (fun _ _ _ => trivial) (write_ok db mb d c (delE off c.es) na nc (by omega) hok hd hn hr (by omega)) (fun v G1 hq => ?_)
  obtain ⟨rfl, la, lc, rfl⟩ := hq
  simp only [List.cons_append, List.nil_append]
  refine .goR fds 2 ?_
  refine .retP Tryz.func55 (.cons (.tmp rfl) .nil) (.cons .head (.cons .head (.cons .head (.cons .head .nil)))) ?_
  exact ⟨[_, _, _], ⟨rfl, la, lc, rfl⟩, rfl⟩
 ·
  refine .condP rfl (fun c5 => ?_) (fun c5 => ?_)
  ·
   obtain ⟨x, r, hdr⟩ : ∃ x r, c.es.drop (goneE off c.es) = x :: r := by
    cases h : c.es.drop (goneE off c.es) with
    | nil => rw [h] at c5; exact absurd c5 (by decide)
    | cons x r => exact ⟨x, r, rfl⟩
   have hdl : delE off c.es = (x.1, max x.2 off) :: r := by unfold delE; rw [hdr]
   have hln : (delE off c.es).length = (c.es.drop (goneE off c.es)).length := by rw [hdl, hdr]; rfl
   have hpos : 0 < (c.es.drop (goneE off c.es)).length := by rw [hdr]; exact Nat.zero_lt_succ _
   refine .cast (X' := arr 70 3 na nc ((x :: r).flatMap epc)) (by rw [hdr]) ?_
   refine .tell (φ := ∃ b o, na = some ⟨b, o, none⟩) ((Knows.arr .head).mono fun _ h => RowAt.addr h (by rw [flat_length epc_len]; simp)) (fun hh => ?_)
   obtain ⟨b9, o9, h9⟩ := hh
   refine .goO fds 3 ?_
   refine .rd (.indexAddr (b := b9) (o := o9) Tryz.underlying64 ts70 (by show some (Value.slice (na) _ _) = _; rw [h9]) rfl (by omega) (by omega)) ?_
   refine .rd (.fieldAddr fd70_1 rfl) ?_
   refine .rd (.load na3 rfl (Knows.one (i := 1) (Knows.elem (f := epc) epc_len (by decide) ((Knows.arr .head).mono fun _ h => h9 ▸ h) ((rfl : (x :: r)[0]? = some x))) rfl)) ?_
   refine .rd (.move rfl) ?_
   refine .rd (.max2 rfl rfl rfl) ?_
   refine .alter (t := 32) (v' := .int .i64 (max x.2 off)) rfl (congrArg (Value.int .i64) (by omega)) ?_
   refine .rd (.indexAddr (b := b9) (o := o9) Tryz.underlying64 ts70 (by show some (Value.slice (na) _ _) = _; rw [h9]) rfl (by omega) (by omega)) ?_
   refine .rd (.fieldAddr fd70_1 rfl) ?_
   refine .alter (t := 34) (v' := .pointer (some ⟨b9, o9 + 1, none⟩)) rfl (rfl) ?_
   refine .cast (X' := arr 70 3 (some ⟨b9, o9, none⟩) nc ((x :: r).flatMap epc)) (by rw [h9]) ?_
   refine .ef0 (.storeArr (k := 1) ts3 rfl rfl .head (by rw [List.flatMap_cons, List.length_append, epc_len]; omega)) ?_
   rintro _ _ rfl
   refine .nil ?_
   refine .cast (X' := arr 70 3 na nc ((delE off c.es).flatMap epc)) (by rw [hdl, ← h9]; rfl) ?_
   refine .alter (t := 6) (v' := .slice na (delE off c.es).length nc) rfl (by rw [hln]) ?_
   exact fin (.cons rfl (.cons rfl .nil)) (.cons .head (.cons .head (.cons .head (.cons .head (.cons .head (.cons .head .nil))))))
  ·
   have hdr : c.es.drop (goneE off c.es) = [] := List.eq_nil_of_length_eq_zero (by omega)
   have hdl : delE off c.es = [] := by unfold delE; rw [hdr]
   have hln : (delE off c.es).length = (c.es.drop (goneE off c.es)).length := by rw [hdl, hdr]
   refine .cast (X' := arr 70 3 na nc ((delE off c.es).flatMap epc)) (by rw [hdl, hdr]) ?_
   refine .skip ?_
   refine .alter (t := 6) (v' := .slice na (delE off c.es).length nc) rfl (by rw [hln]) ?_
   exact fin (.cons rfl (.cons rfl .nil)) (.cons .head (.cons .head (.cons .head (.cons .head (.cons .head (.cons .head .nil))))))
end Go.Proofs.YtoglbebcdjdkiaaGreatDoor
/- Chapter 13: a store that may have been cut, deleted from and opened again, in plain Lean. -/
namespace Go.Proofs.YtoglbebcdjdkiaaGreatDoor
open Go Go.Sp
set_option linter.unusedVariables false
def vN (q : Int) (bs : List Bat) : List Nt := (bs.filter fun b => decide (b.pid = q)).map ntOf
theorem vN_app (q : Int) (a b : List Bat) : vN q (a ++ b) = vN q a ++ vN q b := by unfold vN; rw [List.filter_append, List.map_append]
theorem vN_one (q : Int) (b : Bat) : vN q [b] = if b.pid = q then [ntOf b] else [] := by
 unfold vN; by_cases h : b.pid = q <;> simp [h]
theorem vN_cons (q : Int) (b : Bat) (bs : List Bat) : vN q (b :: bs) = (if b.pid = q then [ntOf b] else []) ++ vN q bs := by
 rw [← vN_one, ← vN_app]; rfl
theorem vN_sub {q : Int} {a b : List Bat} (h : a.Sublist b) : (vN q a).Sublist (vN q b) := (h.filter _).map _
structure BatOk (b : Bat) : Prop where
 pid : 0 < b.pid ∧ b.pid ≤ 7
 ep : mayN b.epoch
 fits : b.fits
 right : right b = 0
 nt : NtOk (ntOf b)
theorem SmOk.bat {ep pid pe seq u : Int} {n : Nat} (h : SmOk ep pid pe seq n u) (h7 : pid ≤ 7) : BatOk (smB ep pid pe seq n u) := ⟨⟨by show 0 < pid; have := h.pid; omega, h7⟩, h.ep, h.fits, h.right, .sm h⟩
theorem NotesOk.cons {t : Tm} {b : Bat} {bs : List Bat} (h1 : TabOk t) (h2 : 0 < b.pid) (h3 : b.fits) (h4 : right b = 0) (h5 : late (notesOf t b.pid) b = false) (h : NotesOk (note t b) bs) : NotesOk t (b :: bs) := fun i x hx => by
 cases i with
 | zero => cases hx; exact ⟨h1, h2, h3, h4, h5⟩
 | succ i => exact h i x hx
theorem last_list {l : List Nt} {z : Nt} (h : l.getLast? = some z) : l.getLast?.toList = [z] := by rw [h]; rfl
theorem fold_notes : ∀ (bs : List Bat) (t : Tm), TabW t → (∀ b ∈ bs, BatOk b) → (∀ q, ((notesOf t q).getLast?.toList ++ vN q bs).Pairwise nextN) → (∀ q, (notesOf t q).length + bs.length ≤ 10000) → NotesOk t bs ∧ TabW (bs.foldl note t) ∧ ∀ q, notesOf (bs.foldl note t) q = notesOf t q ++ vN q bs
 | [], t, ht, _, _, _ => ⟨.nil _, ht, fun q => (List.append_nil _).symm⟩
 | b :: bs, t, ht, hb, hc, hl => by
  have hb1 := hb b (.head _)
  have hlt : late (notesOf t b.pid) b = false := late_of fun z hz => by
   have h1 := hc b.pid
   rw [last_list hz, vN_cons, if_pos rfl] at h1
   exact (List.pairwise_cons.1 h1).1 _ (.head _)
  have hlb := hl b.pid
  rw [List.length_cons] at hlb
  have ht1 := ht.note hlt ⟨hb1.pid.1, by have := hb1.pid.2; omega⟩ hb1.nt (by omega)
  obtain ⟨a1, a2, a3⟩ := fold_notes bs (note t b) ht1 (fun x hx => hb x (.tail _ hx)) (fun q => by
   rw [note_at hlt]
   have h1 := hc q
   rw [vN_cons] at h1
   by_cases e : q = b.pid
   ·
    rw [if_pos e, List.getLast?_append]
    rw [if_pos e.symm] at h1
    exact h1.sublist (List.sublist_append_right _ _)
   ·
    rw [if_neg e]
    rw [if_neg (Ne.symm e)] at h1
    exact h1) (fun q => by
   rw [note_at hlt]
   have := hl q
   rw [List.length_cons] at this
   split
   ·
    rw [List.length_append]; simp; omega
   ·
    omega)
  refine ⟨.cons ht.toTabOk hb1.pid.1 hb1.fits hb1.right hlt a1, a2, fun q => ?_⟩
  rw [List.foldl_cons, a3, note_at hlt, vN_cons]
  by_cases e : q = b.pid
  ·
   rw [if_pos e, if_pos e.symm, List.append_assoc]
  ·
   rw [if_neg e, if_neg (Ne.symm e), List.nil_append]
theorem fold_keys : ∀ (bs : List Bat) (t : Tm) (p : Int × List Nt), p ∈ bs.foldl note t → p.1 ∈ t.map (·.1) ∨ ∃ b ∈ bs, b.pid = p.1
 | [], _, p, h => .inl (List.mem_map_of_mem h)
 | b :: bs, t, p, h => by
  rcases fold_keys bs _ p h with h | ⟨x, hx, e⟩
  ·
   obtain ⟨q, hq, e⟩ := List.mem_map.1 h
   unfold note at hq
   split at hq
   ·
    exact .inl (e ▸ List.mem_map_of_mem hq)
   ·
    rcases mset_in hq with rfl | hq
    ·
     exact .inr ⟨b, .head _, e⟩
    ·
     exact .inl (e ▸ List.mem_map_of_mem hq)
  ·
   exact .inr ⟨x, .tail _ hx, e⟩
theorem ahN_mem {z : Int} {l : List Nt} {x : Nt} (h : x ∈ ahN z l) : x ∈ l ∧ x.off < z := by
 unfold ahN at h
 induction l with
 | nil => cases h
 | cons y l ih =>
  rw [List.takeWhile_cons] at h
  split at h
  ·
   rename_i hy
   rcases List.mem_cons.1 h with rfl | h
   ·
    exact ⟨.head _, of_decide_eq_true hy⟩
   ·
    exact ⟨.tail _ (ih h).1, (ih h).2⟩
  ·
   cases h
theorem ahN_all {z : Int} {l : List Nt} (h : ∀ x ∈ l, x.off < z) : ahN z l = l := by
 unfold ahN
 induction l with
 | nil => rfl
 | cons x l ih => rw [List.takeWhile_cons, if_pos (decide_eq_true (h x (.head _))), ih fun y hy => h y (.tail _ hy)]
theorem ahN_none {z : Int} {l : List Nt} (h : ∀ x ∈ l, z ≤ x.off) : ahN z l = [] := by
 cases l with
 | nil => rfl
 | cons x l => unfold ahN; rw [List.takeWhile_cons, if_neg (by have := h x (.head _); simp; omega)]
theorem ahN_split {z : Int} {a b : List Nt} (ha : ∀ x ∈ a, x.off < z) (hb : ∀ x ∈ b, z ≤ x.off) : ahN z (a ++ b) = a ∧ bhN z (a ++ b) = b := by
 have h1 : ahN z (a ++ b) = a := by
  unfold ahN
  rw [List.takeWhile_append, if_pos (by
   have := ahN_all ha
   unfold ahN at this; rw [this])]
  have := ahN_none hb
  unfold ahN at this; rw [this, List.append_nil]
 refine ⟨h1, ?_⟩
 have h2 := ah_bh z (a ++ b)
 rw [h1] at h2
 exact List.append_cancel_left h2
theorem cutT_notes {t : Tm} (hn : (t.map (·.1)).Nodup) (z q : Int) : notesOf (cutT z t) q = ahN z (notesOf t q) := by
 have h := fm_get (f := cutF z (t.map (·.1))) hn q
 have e : fm (cutF z (t.map (·.1))) t = cutT z t := cutF_end fun p hp => fm_keys hp
 rw [e] at h
 unfold notesOf
 rw [h]
 cases hg : mget t q with
 | none => rfl
 | some l =>
  have hq : q ∈ t.map (·.1) := List.mem_map.2 ⟨_, mget_mem' hg, rfl⟩
  simp only [Option.bind_some, cutF, if_pos hq]
  split
  ·
   rename_i e; rw [Option.getD_none, Option.getD_some, e]
  ·
   rfl
theorem delT_notes {t : Tm} (hn : (t.map (·.1)).Nodup) (z q : Int) : notesOf (delT z t) q = latest (ahN z (notesOf t q)) ++ bhN z (notesOf t q) := by
 have h := fm_get (f := delF z (t.map (·.1))) hn q
 have e : fm (delF z (t.map (·.1))) t = delT z t := delF_end fun p hp => fm_keys hp
 rw [e] at h
 unfold notesOf
 rw [h]
 cases hg : mget t q with
 | none => rfl
 | some l =>
  have hq : q ∈ t.map (·.1) := List.mem_map.2 ⟨_, mget_mem' hg, rfl⟩
  simp only [Option.bind_some, delF, if_pos hq, Option.getD_some]
theorem TabW.cut {t : Tm} (h : TabW t) (z : Int) : TabW (cutT z t) := by
 have key : ∀ p ∈ cutT z t, ∃ q ∈ t, p.1 = q.1 ∧ p.2 = ahN z q.2 ∧ p.2 ≠ [] := fun p hp => by
  obtain ⟨q, hq, e⟩ := List.mem_filterMap.1 hp
  split at e
  ·
   cases e
  ·
   rename_i hne; cases e; exact ⟨q, hq, rfl, rfl, hne⟩
 refine ⟨⟨?_, fun p hp => ?_, fun p hp => ?_, fun p hp => ?_, fun p hp => ?_⟩, fun p hp => ?_⟩
 ·
  refine h.nodup.sublist ?_
  unfold cutT
  clear key h
  induction t with
  | nil => exact .slnil
  | cons x t ih =>
   rw [List.filterMap_cons]
   split
   ·
    exact .cons _ ih
   ·
    rename_i e
    split at e
    ·
     cases e
    ·
     cases e; exact ih.cons_cons _
 all_goals obtain ⟨q, hq, e1, e2, e3⟩ := key p hp
 ·
  rw [e1]; exact h.pid q hq
 ·
  exact e3
 ·
  rw [e2]; exact fun x hx => h.ok q hq x (ahN_mem hx).1
 ·
  rw [e2]; have := ahN_len z q.2; have := h.len q hq; omega
 ·
  rw [e2]; exact (h.chain q hq).sublist (List.takeWhile_sublist _)
theorem TabW.del {t : Tm} (h : TabW t) (z : Int) : TabW (delT z t) := by
 have hsub : ∀ l : List Nt, (latest (ahN z l) ++ bhN z l).Sublist l := fun l => by
  have h1 : (latest (ahN z l) ++ bhN z l).Sublist (ahN z l ++ bhN z l) := (List.drop_sublist _ _).append (.refl _)
  rwa [ah_bh] at h1
 have key : ∀ p ∈ delT z t, ∃ q ∈ t, p.1 = q.1 ∧ p.2 = latest (ahN z q.2) ++ bhN z q.2 := fun p hp => by
  obtain ⟨q, hq, rfl⟩ := List.mem_map.1 hp; exact ⟨q, hq, rfl, rfl⟩
 refine ⟨⟨by unfold delT; rw [List.map_map]; exact h.nodup, fun p hp => ?_, fun p hp => ?_, fun p hp => ?_, fun p hp => ?_⟩, fun p hp => ?_⟩
 all_goals obtain ⟨q, hq, e1, e2⟩ := key p hp
 ·
  rw [e1]; exact h.pid q hq
 ·
  rw [e2]
  intro e
  obtain ⟨h1, h2⟩ := List.append_eq_nil_iff.1 e
  have h3 : ahN z q.2 ≠ [] := fun e3 => h.ne q hq (by rw [← ah_bh z q.2, e3, h2]; rfl)
  have := latest_ne h3
  have h4 := congrArg List.length h1
  rw [latest_len] at h4
  simp only [List.length_nil] at h4; omega
 ·
  rw [e2]; exact fun x hx => h.ok q hq x ((hsub q.2).subset hx)
 ·
  rw [e2]; have := (hsub q.2).length_le; have := h.len q hq; omega
 ·
  rw [e2]; exact (h.chain q hq).sublist (hsub q.2)
end Go.Proofs.YtoglbebcdjdkiaaGreatDoor
/- Chapter 13: what stays true of a store, in plain Lean: its beginning, Append. -/
namespace Go.Proofs.YtoglbebcdjdkiaaGreatDoor
open Go Go.Sp
set_option linter.unusedVariables false
structure OldS (D : Tm) (s : St) (d : Dk) : Prop where
 num : ∃ z w : Nat, s.l.start = z ∧ z ≤ w ∧ w ≤ 1000000000 ∧ ((z = 0 ∧ w = 0 ∧ (d.get (metaOf s.l.pre)).isSome = false) ∨ ((d.get (metaOf s.l.pre)).isSome = true ∧ d.file (metaOf s.l.pre) = ⟨mt z w, (mt z w).length⟩))
 edge : ∀ b ∈ s.l.all, b.en ≤ s.l.start ∨ s.l.start ≤ b.base
 pids : ((d.get (nmP s.l.pre)).isSome = false ∧ D = []) ∨ ((d.get (nmP s.l.pre)).isSome = true ∧ d.file (nmP s.l.pre) = ⟨keepR D, (keepR D).length⟩ ∧ RowsOk D)
 keys : ∀ p ∈ D, p.1 ≤ 7
 t : ∀ q, ∃ S, S <:+ ahN s.l.start (notesOf D q) ∧ (ahN s.l.start (notesOf D q) ≠ [] → S ≠ []) ∧ notesOf (pur s.t.m) q = S ++ vN q s.l.vis
 bat : ∀ b ∈ s.l.all, BatOk b
 ep : ∀ b ∈ s.l.vis, (∃ e ∈ s.c.es, e.1 = b.epoch ∧ e.2 ≤ b.base) ∧ ∀ e ∈ s.c.es, e.2 ≤ b.base → e.1 ≤ b.epoch
theorem vis_mem {l : Lx} {b : Bat} : b ∈ l.vis ↔ b ∈ l.all ∧ l.start < b.en := by
 unfold Lx.vis keepN; rw [List.mem_filter]; exact and_congr_right fun _ => decide_eq_true_iff
theorem chain_lt {n : Int} {l : List Bat} (hc : Chain n l) (hg : ∀ b ∈ l, b.good) : ∀ b ∈ l, n ≤ b.base ∧ b.en ≤ nextOf n l := fun b hb => by
 refine ⟨?_, chain_en hc hg b hb⟩
 obtain ⟨i, hi⟩ := List.getElem?_of_mem hb
 have h1 := (hc.at hi).1
 have h2 := hc.mono hg (i := 0) (j := i) (Nat.zero_le _)
 have h3 : nextOf n (l.take 0) = n := rfl
 omega
theorem chain_split {n : Int} {l : List Bat} (hc : Chain n l) (hg : ∀ b ∈ l, b.good) {c : Bat} (h : c ∈ l) : ∀ b ∈ l, b.en ≤ c.base ∨ c.base ≤ b.base := fun b hb => by
 obtain ⟨i, hi⟩ := List.getElem?_of_mem hb
 obtain ⟨k, hk⟩ := List.getElem?_of_mem h
 have h1 := (hc.at hi).2
 have h2 := (hc.at hk).1
 have h3 := (hc.at hi).1
 by_cases hik : i < k
 ·
  have := hc.mono hg (i := i + 1) (j := k) hik
  exact .inl (by omega)
 ·
  have := hc.mono hg (i := k) (j := i) (by omega)
  exact .inr (by omega)
theorem chain_up : ∀ {n : Int} {l : List Bat}, Chain n l → (∀ b ∈ l, b.good) → l.Pairwise fun a b => a.base < b.base
 | _, [], _, _ => .nil
 | n, b :: l, hc, hg => by
  refine .cons (fun x hx => ?_) (chain_up hc.2 fun x hx => hg x (.tail _ hx))
  have h1 := (chain_lt hc.2 (fun x hx => hg x (.tail _ hx)) x hx).1
  have h2 := (hg b (.head _)).lt
  omega
theorem mem_next {l : Lx} {d : Dk} (h : l.ok d) {b : Bat} (hb : b ∈ l.all) : b.base < l.next ∧ b.en ≤ l.next ∧ baseOf l ≤ b.base := by
 have h1 := chain_lt h.chain h.good b hb
 have h2 := (h.good b hb).lt
 have h3 : nextOf (baseOf l) l.all = l.next := h.nextOf
 omega
theorem new_old {z : Nat} {m : Int} {s : St} {e d : Dk} (hp : PlainS s d) (ha : s.l.all = []) (ht : pur s.t.m = []) : OldS [] s d := by
 have hv : s.l.vis = [] := by unfold Lx.vis; rw [ha]; rfl
 refine ⟨⟨0, 0, hp.start, Nat.le_refl _, by decide, .inl ⟨rfl, rfl, hp.num⟩⟩, by rw [ha]; exact nil_all, .inl ⟨hp.pids, rfl⟩, nil_all, fun q => ⟨[], List.nil_suffix, fun h => absurd rfl h, by rw [ht, hv]; rfl⟩, by rw [ha]; exact nil_all, by rw [hv]; exact nil_all⟩
theorem OldS.took {Z i j E D s d s' d'} (hb : BaseS Z i j E s d) (h : OldS D s d) {ep pid pe seq : Int} {n : Nat} (hA : TookTo s d (smB ep pid pe seq n s.l.next) s' d') (hS : SmOk ep pid pe seq n s.l.next) (hE : E ≤ ep) (h7 : pid ≤ 7) (hl : late (notesOf (pur s.t.m) pid) (smB ep pid pe seq n s.l.next) = false) (hi : i ≤ 60 ∧ j ≤ 60) (hZ : 90000 ≤ Z) : OldS D s' d' := by
 have hA1 : AppTo s.l (keptE d s.c (nextE s.c.es ep s.l.next)) (smB ep pid pe seq n s.l.next) s'.l d' := hA.app
 have hus := hb.usd
 have hsz := hb.size
 have hep := hS.ep
 have hbm : mayN s.l.next := by have := hS.u; unfold mayN; omega
 have hes := hb.es.next (ep := ep) (off := s.l.next) hep hbm (by have := hb.esl; omega)
 obtain ⟨hB, _, _⟩ := kept_facts hb.dok hb.ok hb.nm hes (by omega) hb.holdsE
 have hlast := hb.last
 obtain ⟨m1, m2⟩ := hA1.far (metaOf s.l.pre) fun u hu e => nameOf_meta (by omega) e.symm
 obtain ⟨p1, p2⟩ := hA1.far (nmP s.l.pre) fun u hu => nmP_far hu
 obtain ⟨m3, m4⟩ := hB.far (metaOf s.l.pre) nmE_meta.symm
 obtain ⟨p3, p4⟩ := hB.far (nmP s.l.pre) nmP_E
 have htm : pur s'.t.m = note (pur s.t.m) (smB ep pid pe seq n s.l.next) := hA.t
 have he : s'.c.es = nextE s.c.es ep s.l.next := hA.es
 have hst := hb.ok.start
 have hen : (smB ep pid pe seq n s.l.next).en = s.l.next + n := sm_en ..
 have hn1 := hS.n
 have hv : s'.l.vis = s.l.vis ++ [smB ep pid pe seq n s.l.next] := by
  unfold Lx.vis
  rw [hA1.all, hA1.start, keepN_app, keep_hit (by omega)]
 refine ⟨?_, fun b hbm => ?_, ?_, h.keys, fun q => ?_, fun b hbm => ?_, fun b hbv => ?_⟩
 ·
  obtain ⟨z, w, a1, a2, a3, a4⟩ := h.num
  refine ⟨z, w, hA1.start.trans a1, a2, a3, ?_⟩
  rw [hA1.pre, m1, m2, m3, m4]; exact a4
 ·
  rw [hA1.all] at hbm
  rw [hA1.start]
  rcases List.mem_append.1 hbm with hbm | hbm
  ·
   exact h.edge b hbm
  ·
   rw [List.mem_singleton.1 hbm]; exact .inr hst.2.2
 ·
  rw [hA1.pre, p1, p2, p3, p4]; exact h.pids
 ·
  obtain ⟨S, a1, a2, a3⟩ := h.t q
  refine ⟨S, by rw [hA1.start]; exact a1, by rw [hA1.start]; exact a2, ?_⟩
  rw [htm, note_at hl, hv, vN_app, vN_one, a3]
  show (if q = pid then _ else _) = _ ++ (_ ++ if pid = q then _ else _)
  by_cases e : q = pid
  ·
   rw [if_pos e, if_pos e.symm, List.append_assoc]
  ·
   rw [if_neg e, if_neg (Ne.symm e), List.append_nil]
 ·
  rw [hA1.all] at hbm
  rcases List.mem_append.1 hbm with hbm | hbm
  ·
   exact h.bat b hbm
  ·
   rw [List.mem_singleton.1 hbm]; exact hS.bat h7
 ·
  rw [he]
  rw [hv] at hbv
  have hcut : cutE s.l.next s.c.es = s.c.es := cutE_id hb.esn
  have hlp : ∀ e ∈ s.c.es, e.1 ≤ ep := fun e he => by have := hb.es.le_last e he; omega
  rcases List.mem_append.1 hbv with hbv | hbv
  ·
   obtain ⟨⟨e0, g1, g2, g3⟩, g4⟩ := h.ep b hbv
   have hbn := (mem_next hb.ok (vis_mem.1 hbv).1).1
   unfold nextE
   split
   ·
    rw [hcut]
    refine ⟨⟨e0, List.mem_append_left _ g1, g2, g3⟩, fun e he2 hle => ?_⟩
    rcases List.mem_append.1 he2 with he2 | he2
    ·
     exact g4 e he2 hle
    ·
     rw [List.mem_singleton.1 he2] at hle; have : s.l.next ≤ b.base := hle; omega
   ·
    exact ⟨⟨e0, g1, g2, g3⟩, g4⟩
  ·
   rw [List.mem_singleton.1 hbv]
   show (∃ e ∈ nextE s.c.es ep s.l.next, e.1 = ep ∧ e.2 ≤ s.l.next) ∧ ∀ e ∈ nextE s.c.es ep s.l.next, e.2 ≤ s.l.next → e.1 ≤ ep
   unfold nextE
   split
   ·
    refine ⟨⟨(ep, s.l.next), List.mem_append_right _ (.head _), rfl, Int.le_refl _⟩, fun e he2 _ => ?_⟩
    rcases List.mem_append.1 he2 with he2 | he2
    ·
     rw [hcut] at he2; exact hlp e he2
    ·
     rw [List.mem_singleton.1 he2]; exact Int.le_refl _
   ·
    rename_i hlt
    refine ⟨?_, fun e he2 _ => hlp e he2⟩
    cases hg : s.c.es.getLast? with
    | none =>
     exfalso
     unfold lastE at hlt; rw [hg] at hlt
     unfold mayN at hep
     exact hlt (by show (-1 : Int) < ep; omega)
    | some x =>
     have hx := List.mem_of_getLast? hg
     have h1 : lastE s.c.es = x.1 := by unfold lastE; rw [hg]; rfl
     exact ⟨x, hx, by omega, by have := hb.esn x hx; omega⟩
end Go.Proofs.YtoglbebcdjdkiaaGreatDoor
/- Chapter 13: what stays true of a store: Delete, in plain Lean. -/
namespace Go.Proofs.YtoglbebcdjdkiaaGreatDoor
open Go Go.Sp
set_option linter.unusedVariables false
theorem delE_from {off : Int} {es : List Ep} {e' : Ep} (h : e' ∈ delE off es) : ∃ e ∈ es, e'.1 = e.1 ∧ (e'.2 = e.2 ∨ e'.2 = max e.2 off) := by
 unfold delE at h
 cases hd : es.drop (goneE off es) with
 | nil => rw [hd] at h; cases h
 | cons x r =>
  rw [hd] at h
  have hm : ∀ y ∈ x :: r, y ∈ es := fun y hy => List.mem_of_mem_drop (hd ▸ hy)
  rcases List.mem_cons.1 h with rfl | h
  ·
   exact ⟨x, hm x (.head _), rfl, .inr rfl⟩
  ·
   exact ⟨e', hm e' (.tail _ h), rfl, .inl rfl⟩
theorem delE_to {off : Int} {es : List Ep} (he : EpsOk es) {e : Ep} (h : e ∈ es) : (∃ x ∈ es, e.1 < x.1 ∧ x.2 ≤ off) ∨ ∃ e' ∈ delE off es, e'.1 = e.1 ∧ (e'.2 = e.2 ∨ e'.2 = max e.2 off) := by
 rw [← List.take_append_drop (goneE off es) es] at h
 rcases List.mem_append.1 h with h | h
 ·
  left
  obtain ⟨k, hk⟩ := List.getElem?_of_mem h
  have hkl := (List.getElem?_eq_some_iff.1 hk).1
  rw [List.length_take] at hkl
  rw [List.getElem?_take_of_lt (by omega)] at hk
  obtain ⟨z, hz, e1⟩ := cutE_take he (off + 1)
  have hg : goneE off es = z - 1 := by unfold goneE; rw [e1, List.length_take]; omega
  have hx : es[z - 1]? = some es[z - 1] := List.getElem?_eq_getElem (by omega)
  refine ⟨es[z - 1], List.mem_of_getElem? hx, ?_, ?_⟩
  ·
   obtain ⟨h1, rfl⟩ := List.getElem?_eq_some_iff.1 hk
   exact (List.pairwise_iff_getElem.1 he.up k (z - 1) h1 (by omega) (by omega)).1
  ·
   have hm : es[z - 1] ∈ cutE (off + 1) es := by
    rw [e1]
    exact List.mem_of_getElem? (i := z - 1) (by rw [List.getElem?_take_of_lt (by omega)]; exact hx)
   have := of_decide_eq_true (List.mem_filter.1 hm).2
   omega
 ·
  right
  unfold delE
  cases hd : es.drop (goneE off es) with
  | nil => rw [hd] at h; cases h
  | cons x r =>
   rw [hd] at h
   rcases List.mem_cons.1 h with rfl | h
   ·
    exact ⟨_, .head _, rfl, .inr rfl⟩
   ·
    exact ⟨e, .tail _ h, rfl, .inl rfl⟩
theorem bases_up {l : Lx} {d : Dk} (h : l.ok d) : (l.segs.map fun s => s.base.toNat).Nodup := (link_up h.link h.ini h.base0).imp fun h => by omega
structure DelD (s : St) (d : Dk) (off : Nat) (s' : St) (e : Dk) : Prop where
 del : DelTo s.l (putP d s) off (max s.l.high off).toNat s'.l e
 besd : Beside s.l (nmP s.l.pre) d (putP d s)
 all : ∀ b ∈ s'.l.all, b ∈ s.l.all
 next : s'.l.next = s.l.next
 segs : s'.l.segs.length ≤ s.l.segs.length
 full : Full s'.l e
 short : Short e
 own : Own s'.l e
 file : ∀ n, n ≠ metaOf s.l.pre → (∀ u, u ≤ 1000000000 → n ≠ nameOf s.l.pre u) → e.get n = (putP d s).get n ∧ e.file n = (putP d s).file n
theorem keepT_len {Z i j E s d} (h : BaseS Z i j E s d) : (keepT (pur s.t.m)).length ≤ 304 + 840 * i := by
 have h1 := h.tsz
 have h2 := h.few
 have h3 := bodyT_le h.tab.toTabOk (by omega) (rowsT (pur s.t.m)).length
 rw [List.take_length] at h3
 have h4 : (keepT (pur s.t.m)).length = 4 + (bodyT (pur s.t.m)).length := summed_len _
 have h5 : (bodyT (pur s.t.m)).length ≤ sizeT (pur s.t.m) := h3
 omega
theorem del_disk {Z i j E s d s' off e} (h : BaseS Z i j E s d) (hD : DelTo s.l (putP d s) off (max s.l.high off).toNat s'.l e) (hi : i ≤ 60 ∧ j ≤ 60) (hZ : 180000 ≤ Z ∨ (i ≤ 5 ∧ j ≤ 5 ∧ 90000 ≤ Z)) : DelD s d off s' e := by
 have hk := keepT_len h
 have hus := h.usd
 have hsz := h.size
 have hB : Beside s.l (nmP s.l.pre) d (putP d s) := .put h.dok h.ok (nmP_named h.ok.pre).2.1 (fun u hu => nmP_far hu) (by dsimp only; omega) (Nat.le_refl _)
 have hfile : ∀ n, n ≠ metaOf s.l.pre → (∀ u, u ≤ 1000000000 → n ≠ nameOf s.l.pre u) → e.get n = (putP d s).get n ∧ e.file n = (putP d s).file n := fun n h1 h2 => by
  have := hD.far n h1 fun t ht => .inr fun e' => by
   obtain ⟨k1, k2, _⟩ := h.ok.seg t (List.mem_append_left _ ht)
   have := k1.base0; have := k1.base1
   exact h2 t.base.toNat (by omega) (e'.trans k2)
  exact ⟨this, congrArg (fun o => o.getD fl0) this⟩
 have hsub : ∀ t ∈ s'.l.segs, t ∈ s.l.segs := fun t ht => by
  rcases List.mem_append.1 ht with ht | ht
  ·
   exact List.mem_append_left _ (hD.sub t ht)
  ·
   rw [List.mem_singleton.1 ht, hD.cur]; exact s.l.cur_in
 refine ⟨hD, hB, fun b hb => ?_, by show s'.l.cur.next = s.l.cur.next; rw [hD.cur], ?_, fun t ht => ?_, hD.short hB.ok (hB.short h.short), hD.own (hB.own h.own), hfile⟩
 ·
  obtain ⟨t, ht, hb⟩ := List.mem_flatMap.1 hb
  exact List.mem_flatMap.2 ⟨t, hsub t ht, hb⟩
 ·
  have := nodup_le _ (s.l.segs.map fun s => s.base.toNat) (bases_up hD.ok) fun x hx => by
   obtain ⟨t, ht, rfl⟩ := List.mem_map.1 hx
   exact List.mem_map_of_mem (hsub t ht)
  rwa [List.length_map, List.length_map] at this
 ·
  have hin := hD.sub t ht
  have hg : e.get t.nm = (putP d s).get t.nm := hD.far t.nm (meta_far h.ok (List.mem_append_left _ hin)) fun x hx => by
   by_cases hx' : x ∈ s'.l.ini
   ·
    exact .inl hx'
   ·
    refine .inr fun e' => hx' ?_
    have k1 := (h.ok.seg x (List.mem_append_left _ hx)).2.1
    have k2 := (h.ok.seg t (List.mem_append_left _ hin)).2.1
    have h3 := nameOf_inj (k1.symm.trans (e'.symm.trans k2))
    obtain ⟨p, hp⟩ := List.getElem?_of_mem (List.mem_append_left [s.l.cur] hx)
    obtain ⟨q, hq⟩ := List.getElem?_of_mem (List.mem_append_left [s.l.cur] hin)
    have hnd := bases_up h.ok
    obtain ⟨p1, p2⟩ := List.getElem?_eq_some_iff.1 hp
    obtain ⟨q1, q2⟩ := List.getElem?_eq_some_iff.1 hq
    have hpq : p = q := by
     have hp3 : (s.l.segs.map fun s => s.base.toNat)[p]? = some x.base.toNat := by rw [List.getElem?_map]; unfold Lx.segs; rw [hp]; rfl
     have hq3 : (s.l.segs.map fun s => s.base.toNat)[q]? = some t.base.toNat := by rw [List.getElem?_map]; unfold Lx.segs; rw [hq]; rfl
     obtain ⟨p4, p5⟩ := List.getElem?_eq_some_iff.1 hp3
     obtain ⟨q4, q5⟩ := List.getElem?_eq_some_iff.1 hq3
     rcases Nat.lt_trichotomy p q with hlt | hlt | hlt
     ·
      exact absurd (p5.trans (h3.trans q5.symm)) (List.pairwise_iff_getElem.1 hnd p q p4 q4 hlt)
     ·
      exact hlt
     ·
      exact absurd (q5.trans (h3.symm.trans p5.symm)) (List.pairwise_iff_getElem.1 hnd q p q4 p4 hlt)
    subst hpq
    rw [hp] at hq
    exact Option.some.inj hq ▸ ht
  have hf : e.file t.nm = (putP d s).file t.nm := congrArg (fun o => o.getD fl0) hg
  rw [hf]
  exact hB.full h.full t hin
theorem BaseS.del {Z i j E s d s' d' off} (h : BaseS Z i j E s d) (hE : -1 ≤ E) (hA : DelS s d off s' d') (ho : ∃ b ∈ s.l.all, b.base = (off : Int)) (hi : i ≤ 60 ∧ j ≤ 60) (hZ : 180000 ≤ Z ∨ (i ≤ 5 ∧ j ≤ 5 ∧ 90000 ≤ Z)) : BaseS Z i (j + 1) E s' d' := by
 obtain ⟨e, hD, rfl⟩ := hA.del
 have hX := del_disk h hD hi hZ
 have hk := keepT_len h
 have hus := h.usd
 have hsz := h.size
 obtain ⟨b0, hb0, hb1⟩ := ho
 have hbn := mem_next h.ok hb0
 have hnx1 := h.ok.cur.1.next_le
 have hnn : s.l.next = s.l.cur.next := rfl
 have hmay : mayN (off : Int) := ⟨by omega, by omega⟩
 have hes := h.es.del hmay
 have hsz2 : e.size = Z := by rw [hD.size, hX.besd.size, hsz]
 have hup := Dk.used_put h.dok (nmP s.l.pre) ⟨keepT (pur s.t.m), (keepT (pur s.t.m)).length⟩
 dsimp only at hup
 have hup' : (putP d s).used + (d.file (nmP s.l.pre)).b.length = d.used + (keepT (pur s.t.m)).length := hup
 have hdu := hD.used
 have hpf : ((putP d s).file (nmP s.l.pre)).b = keepT (pur s.t.m) := by unfold putP; rw [Dk.file_put]
 obtain ⟨fE1, fE2⟩ := hX.file (nmE s.l.pre) nmE_meta fun u hu => nmE_far hu
 obtain ⟨fP1, fP2⟩ := hX.file (nmP s.l.pre) nmP_meta fun u hu => nmP_far hu
 obtain ⟨gE1, gE2⟩ := hX.besd.far (nmE s.l.pre) nmP_E.symm
 have hHE : HoldsE e s.c.nm s.c.es := h.holdsE.same (by rw [h.nm, fE2, gE1]) (by rw [h.nm, fE1, gE2])
 have hpre : s'.l.pre = s.l.pre := hD.pre
 have hu2 : e.used ≤ (e.file (nmE s'.l.pre)).b.length + (e.file (nmP s'.l.pre)).b.length + 100 * (i + (j + 1)) := by
  rw [hpre, fE2, fP2, gE1, hpf]; have := h.used; omega
 obtain ⟨hB, hH, hU⟩ := kept_facts (es := delE off s.c.es) hX.del.dok hX.del.ok (by rw [h.nm, hpre]) hes (by omega) hHE
 have hku := kept_used (s := ⟨s.sx, s'.l, s.c, s.t⟩) (es := delE off s.c.es) hX.del.dok (by rw [hpre]; exact h.nm) hu2
 have hsub : ∀ l : List Nt, ∀ x ∈ latest (ahN off l) ++ bhN off l, x ∈ l := fun l x hx => by
  rcases List.mem_append.1 hx with hx | hx
  ·
   exact (ahN_mem (List.mem_of_mem_drop hx)).1
  ·
   exact (List.dropWhile_suffix _).subset hx
 refine ⟨hB.dok, hB.ok, hB.own hX.own, hB.full hX.full, hB.short hX.short, hpre.trans h.pre, by rw [hA.nm, h.nm, hpre], by rw [hX.next]; exact h.next, Nat.le_trans hX.segs h.segs, ?_, by rw [hB.size, hsz2], hku, ?_, fun n hn => ?_, by rw [hA.es]; exact hes, by rw [hA.es]; exact Nat.le_trans (delE_le _ _) h.esl, fun x hx => ?_, ?_, by rw [hA.nm, hA.es]; exact hH, by rw [hA.t]; exact h.tab.del _, fun p hp => ?_, fun p hp x hx => ?_⟩
 ·
  have h1 := chain_up hD.ok.chain hD.ok.good
  have h2 := nodup_le (s'.l.all.map (·.base)) (s.l.all.map (·.base)) ((List.pairwise_map.2 (h1.imp fun h => by omega))) fun x hx => by
   obtain ⟨b, hb, rfl⟩ := List.mem_map.1 hx
   exact List.mem_map_of_mem (hX.all b hb)
  rw [List.length_map, List.length_map] at h2
  exact Nat.le_trans h2 h.all
 ·
  rw [(hB.far (nmP s'.l.pre) nmP_E).1, hpre, fP2, hpf]; omega
 ·
  rw [hpre]
  rcases kept_names (s := ⟨s.sx, s'.l, s.c, s.t⟩) (by rw [hpre]; exact h.nm) hn with hn | hn
  ·
   exact .inl (by rw [← hpre]; exact hn)
  ·
   by_cases hx : ∃ u, u ≤ 1000000000 ∧ n = nameOf s.l.pre u
   ·
    exact .inr (.inr (.inr hx))
   ·
    by_cases hm : n = metaOf s.l.pre
    ·
     exact .inr (.inr (.inl hm))
    ·
     rw [(hX.file n hm fun u hu e => hx ⟨u, hu, e⟩).1] at hn
     by_cases hp : n = nmP s.l.pre
     ·
      exact .inr (.inl hp)
     ·
      rw [(hX.besd.far n hp).2] at hn
      exact h.names n hn
 ·
  rw [hA.es] at hx
  obtain ⟨x0, h1, _, h3⟩ := delE_from hx
  have := h.esn x0 h1
  rw [hX.next]
  rcases h3 with h3 | h3 <;> omega
 ·
  rw [hA.es]
  cases hg : (delE off s.c.es).getLast? with
  | none => unfold lastE; rw [hg]; exact hE
  | some x =>
   obtain ⟨x0, h1, h2, _⟩ := delE_from (List.mem_of_getLast? hg)
   have := h.es.le_last x0 h1
   have := h.last
   have h5 : lastE (delE (off : Int) s.c.es) = x.1 := by unfold lastE; rw [hg]; rfl
   omega
 ·
  rw [hA.t] at hp
  obtain ⟨q, hq, rfl⟩ := List.mem_map.1 hp
  exact h.keys q hq
 ·
  rw [hA.t] at hp
  obtain ⟨q, hq, rfl⟩ := List.mem_map.1 hp
  rw [hX.next]
  exact h.offs q hq x (hsub _ x hx)
end Go.Proofs.YtoglbebcdjdkiaaGreatDoor
/- Chapter 13: what stays true of a store: Delete, the rest, in plain Lean. -/
namespace Go.Proofs.YtoglbebcdjdkiaaGreatDoor
open Go Go.Sp
set_option linter.unusedVariables false
theorem vN_mem {q : Int} {bs : List Bat} {x : Nt} (h : x ∈ vN q bs) : ∃ b ∈ bs, b.pid = q ∧ x = ntOf b := by
 obtain ⟨b, hb, rfl⟩ := List.mem_map.1 h
 obtain ⟨h1, h2⟩ := List.mem_filter.1 hb
 exact ⟨b, h1, of_decide_eq_true h2, rfl⟩
theorem split_at {bs : List Bat} {z : Int} (hc : bs.Pairwise fun a b => a.base < b.base) (hs : ∀ b ∈ bs, b.en ≤ z ∨ z ≤ b.base) (hg : ∀ b ∈ bs, b.base < b.en) : ∃ P, bs = P ++ keepN z bs ∧ (∀ b ∈ P, b.en ≤ z) ∧ ∀ b ∈ keepN z bs, z ≤ b.base := by
 induction bs with
 | nil => exact ⟨[], rfl, nil_all, nil_all⟩
 | cons b bs ih =>
  obtain ⟨P, h1, h2, h3⟩ := ih (List.pairwise_cons.1 hc).2 (fun x hx => hs x (.tail _ hx)) (fun x hx => hg x (.tail _ hx))
  rcases hs b (.head _) with h | h
  ·
   refine ⟨b :: P, ?_, fun x hx => ?_, ?_⟩
   ·
    have : keepN z (b :: bs) = keepN z bs := by unfold keepN; rw [List.filter_cons_of_neg (by simpa using h)]
    rw [this, List.cons_append, ← h1]
   ·
    rcases List.mem_cons.1 hx with rfl | hx
    ·
     exact h
    ·
     exact h2 x hx
   ·
    have : keepN z (b :: bs) = keepN z bs := by unfold keepN; rw [List.filter_cons_of_neg (by simpa using h)]
    rw [this]; exact h3
  ·
   have hall : ∀ x ∈ b :: bs, z < x.en ∧ z ≤ x.base := fun x hx => by
    have := hg x hx
    rcases List.mem_cons.1 hx with rfl | hx
    ·
     omega
    ·
     have := (List.pairwise_cons.1 hc).1 x hx; omega
   have e : keepN z (b :: bs) = b :: bs := List.filter_eq_self.2 fun x hx => decide_eq_true (hall x hx).1
   exact ⟨[], by rw [e]; rfl, nil_all, by rw [e]; exact fun x hx => (hall x hx).2⟩
theorem OldS.S_off {D : Tm} {s : St} {q : Int} {S : List Nt} (h : S <:+ ahN s.l.start (notesOf D q)) : ∀ x ∈ S, x.off < s.l.start := fun x hx => (ahN_mem (h.subset hx)).2
theorem OldS.del {Z i j E D s d s' d' off} (hb : BaseS Z i j E s d) (h : OldS D s d) (hA : DelS s d off s' d') (ho : ∃ b ∈ s.l.all, b.base = (off : Int)) (hs : s.l.start ≤ (off : Int)) (hi : i ≤ 60 ∧ j ≤ 60) (hZ : 180000 ≤ Z ∨ (i ≤ 5 ∧ j ≤ 5 ∧ 90000 ≤ Z)) : OldS (rowsT (pur s.t.m)) s' d' := by
 obtain ⟨e, hD, rfl⟩ := hA.del
 have hX := del_disk hb hD hi hZ
 have hk := keepT_len hb
 have hus := hb.usd
 have hsz := hb.size
 obtain ⟨b0, hb0, hb1⟩ := ho
 have hbn := mem_next hb.ok hb0
 have hnx1 := hb.ok.cur.1.next_le
 have hnn : s.l.next = s.l.cur.next := rfl
 have hhi := hb.ok.high
 have hmay : mayN (off : Int) := ⟨by omega, by omega⟩
 have hpre : s'.l.pre = s.l.pre := hD.pre
 have hchain := hb.ok.chain
 have hgood := hb.ok.good
 have hsplit := chain_split hchain hgood hb0
 rw [hb1] at hsplit
 have hfile := Dk.file_put d (nmP s.l.pre) ⟨keepT (pur s.t.m), (keepT (pur s.t.m)).length⟩
 have hpf : (putP d s).file (nmP s.l.pre) = ⟨keepT (pur s.t.m), (keepT (pur s.t.m)).length⟩ := hfile
 have hpg : ((putP d s).get (nmP s.l.pre)).isSome = true := Dk.some_put ..
 obtain ⟨fP1, fP2⟩ := hX.file (nmP s.l.pre) nmP_meta fun u hu => nmP_far hu
 have far : ∀ n, n ≠ nmE s.l.pre → (keptE e s.c (delE off s.c.es)).file n = e.file n ∧ (keptE e s.c (delE off s.c.es)).get n = e.get n := fun n hn => by
  unfold keptE
  split
  ·
   exact ⟨rfl, rfl⟩
  ·
   rw [hb.nm]; exact Dk.file_put_ne _ _ hn
 have hrows := hb.tab.rows
 have hvis : s'.l.vis = keepN off s.l.all := by
  show keepN s'.l.start s'.l.all = _
  rw [hD.start]; exact hD.keep
 have hvv : keepN off s.l.all = keepN off s.l.vis := by
  unfold Lx.vis keepN
  rw [List.filter_filter]
  refine List.filter_congr fun b _ => ?_
  rw [← Bool.decide_and]
  exact decide_eq_decide.2 ⟨fun h => ⟨h, by omega⟩, fun h => h.1⟩
 have hup : s.l.vis.Pairwise fun a b => a.base < b.base := (chain_up hchain hgood).sublist List.filter_sublist
 obtain ⟨P, p1, p2, p3⟩ := split_at (z := off) hup (fun b hb => hsplit b (vis_mem.1 hb).1) fun b hb => (hgood b (vis_mem.1 hb).1).lt
 refine ⟨⟨off, (max s.l.high off).toNat, hD.start, by omega, by omega, .inr ?_⟩, fun b hbm => by rw [hD.start]; exact hsplit b (hX.all b hbm), .inr ?_, fun p hp => hb.keys p ((rowsT_perm hb.tab.toTabOk).mem_iff.1 hp), fun q => ?_, fun b hbm => h.bat b (hX.all b hbm), fun b hbv => ?_⟩
 ·
  rw [hpre, (far _ nmE_meta.symm).1, (far _ nmE_meta.symm).2]
  refine ⟨?_, hD.num⟩
  have h1 := hD.num
  cases hg : (e.get (metaOf s.l.pre)).isSome with
  | true => rfl
  | false =>
   rw [Dk.file_none hg] at h1
   have h2 := congrArg (fun f : Fl => f.b) h1
   have h3 : mt off (max s.l.high off).toNat = [] := h2.symm
   unfold mt at h3
   simp at h3
 ·
  rw [hpre, (far _ nmP_E).1, (far _ nmP_E).2, fP1, fP2, hpf]
  exact ⟨hpg, by rw [keepT_rows], hrows⟩
 ·
  obtain ⟨S, a1, a2, a3⟩ := h.t q
  have hS := OldS.S_off a1
  have e1 : notesOf (pur s.t.m) q = (S ++ vN q P) ++ vN q (keepN off s.l.vis) := by
   have hv : vN q s.l.vis = vN q P ++ vN q (keepN off s.l.vis) := by rw [← vN_app, ← p1]
   rw [a3, hv, List.append_assoc]
  have hal : ∀ x ∈ S ++ vN q P, x.off < (off : Int) := fun x hx => by
   rcases List.mem_append.1 hx with hx | hx
   ·
    have := hS x hx; omega
   ·
    obtain ⟨b, hb, _, rfl⟩ := vN_mem hx
    have h1 := p2 b hb
    have h2 := (hgood b (vis_mem.1 (by rw [p1]; exact List.mem_append_left _ hb)).1).lt
    show b.base < _; omega
  have hbe : ∀ x ∈ vN q (keepN off s.l.vis), (off : Int) ≤ x.off := fun x hx => by
   obtain ⟨b, hb, _, rfl⟩ := vN_mem hx
   exact p3 b hb
  obtain ⟨k1, k2⟩ := ahN_split hal hbe
  refine ⟨latest (ahN off (notesOf (pur s.t.m) q)), ?_, fun hne => ?_, ?_⟩
  ·
   rw [hD.start, rows_notes hb.tab.toTabOk]; exact List.drop_suffix _ _
  ·
   rw [hD.start, rows_notes hb.tab.toTabOk] at hne
   have := latest_ne hne
   intro e0
   have h4 := congrArg List.length e0
   rw [latest_len] at h4
   simp only [List.length_nil] at h4; omega
  ·
   rw [hA.t, delT_notes hb.tab.nodup, hvis, hvv, e1, k1, k2]
 ·
  rw [hvis, hvv] at hbv
  have hbb := p3 b hbv
  have hbo : b ∈ s.l.vis := (List.mem_filter.1 hbv).1
  obtain ⟨⟨e0, g1, g2, g3⟩, g4⟩ := h.ep b hbo
  rw [hA.es]
  refine ⟨?_, fun x hx hxb => ?_⟩
  ·
   rcases delE_to hb.es (off := off) g1 with ⟨x, x1, x2, x3⟩ | ⟨x, x1, x2, x3⟩
   ·
    have := g4 x x1 (by omega); omega
   ·
    exact ⟨x, x1, by omega, by omega⟩
  ·
   obtain ⟨x0, x1, x2, x3⟩ := delE_from hx
   have := g4 x0 x1 (by omega)
   omega
end Go.Proofs.YtoglbebcdjdkiaaGreatDoor
/- Chapter 13: what stays true of a store: a crash, and Open where the log's start is left, in plain Lean. -/
namespace Go.Proofs.YtoglbebcdjdkiaaGreatDoor
open Go Go.Sp
set_option linter.unusedVariables false
theorem pieces_in {Z i j E s d} (hb : BaseS Z i j E s d) {k : Nat} {rest : List UInt8} : ∀ p ∈ pieces s.l k rest, ∃ t ∈ s.l.segs, p.1 = t.base.toNat ∧ nameOf s.l.pre p.1 = t.nm := fun p hp => by
 unfold pieces at hp
 rcases List.mem_append.1 hp with hp | hp
 ·
  obtain ⟨t, ht, rfl⟩ := List.mem_map.1 hp
  exact ⟨t, List.mem_append_left _ ht, rfl, ((hb.ok.seg t (List.mem_append_left _ ht)).2.1).symm⟩
 ·
  rw [List.mem_singleton.1 hp]
  exact ⟨s.l.cur, s.l.cur_in, rfl, hb.ok.cur.2.1.symm⟩
theorem nameOf_pre {a b : Nm} {u : Nat} (h : nameOf a u = nameOf b u) : a = b := by
 unfold nameOf at h
 exact List.append_cancel_right (List.append_cancel_right (List.append_cancel_right h))
structure Again (s : St) (d : Dk) (k : Nat) (l2 : Lx) (e2 : Dk) : Prop where
 dok : e2.ok
 ok : l2.ok e2
 pre : l2.pre = s.l.pre
 start : l2.start = s.l.start
 all : ∃ r, s.l.all = l2.all ++ r
 next : l2.next ≤ s.l.next
 own : Own l2 e2
 full : Full l2 e2
 names : ∀ n, (e2.get n).isSome = (d.get n).isSome
 size : e2.size = d.size
 used : e2.used ≤ d.used
 segs : l2.segs.length ≤ s.l.segs.length
 file : ∀ n, (∀ u, u ≤ 1000000000 → n ≠ nameOf s.l.pre u) → (d.file n).safe = (d.file n).b.length → e2.file n = d.file n
 sync : Synced l2 e2
theorem again_of {Z i j E s d e l2 ss e2} {z w k : Nat} {rest : List UInt8} (hb : BaseS Z i j E s d) (hC : CrashTo d e) (hk : k ≤ s.l.cur.bs.length) (hz : s.l.start = (z : Int)) (hF : Found s.l.pre e (pieces s.l k rest) z w) (hO : Opened s.l.pre e (pieces s.l k rest) z w l2 ss e2) : Again s d k l2 e2 := by
 have hI := hO.open_
 obtain ⟨a1, a2, a3⟩ := opened_all hb.ok hO
 have hsig := hI.sigs
 rw [List.take_length, ← hO.segs] at hsig
 have hpin := @pieces_in _ _ _ _ _ _ hb k rest
 have hnm : ∀ n, (e2.get n).isSome = (d.get n).isSome := fun n => by rw [hI.get, hC.get]
 have hseg : ∀ t ∈ l2.segs, ∃ p ∈ pieces s.l k rest, t.base = (p.1 : Int) ∧ t.nm = nameOf s.l.pre p.1 ∧ t.bs = p.2.1 := fun t ht => by
  have : sig t ∈ l2.segs.map sig := List.mem_map_of_mem ht
  rw [hsig] at this
  obtain ⟨p, hp, e'⟩ := List.mem_map.1 this
  exact ⟨p, hp, (congrArg (·.1) e').symm, (congrArg (·.2.1) e').symm, (congrArg (·.2.2) e').symm⟩
 have hpre : l2.pre = s.l.pre := by
  obtain ⟨p, hp, h1, h2, _⟩ := hseg l2.cur l2.cur_in
  have h3 := hO.ok.cur.2.1
  rw [h2, h1] at h3
  exact (nameOf_pre (by simpa using h3)).symm
 have hln : l2.segs.length = s.l.segs.length := by
  have h1 := congrArg List.length hsig
  have h2 := congrArg List.length (pieces_fst s.l k rest)
  rw [List.length_map, List.length_map] at h1 h2
  rw [h1, h2]
 refine ⟨hI.dok, hO.ok, hpre, hO.start.trans hz.symm, ?_, ?_, fun u hu hg => ?_, fun t ht => ?_, hnm, by rw [hI.size, hC.size], by have := hI.used; have := hC.used; omega, by omega, fun n h1 h2 => ?_, ?_⟩
 ·
  refine ⟨s.l.cur.bs.drop k, ?_⟩
  rw [a1, List.append_assoc, List.take_append_drop]
  unfold Lx.all Lx.segs
  rw [List.flatMap_append]; simp
 ·
  rw [a2]
  have h1 := hb.ok.cur.1
  have h2 := h1.chain.mono h1.good (i := k) (j := s.l.cur.bs.length) hk
  rw [List.take_length] at h2
  exact h2
 ·
  rw [hpre] at hg
  have h1 : u ∈ basesOf s.l.pre (sorted (e.fs.map (·.1))) := by
   rw [basesOf_mem, sorted_mem, ← get_in, ← hI.get]; exact ⟨hu, hg⟩
  rw [hF.bases] at h1
  obtain ⟨p, hp, e1⟩ := List.mem_map.1 h1
  have h2 : sigP s.l.pre p ∈ l2.segs.map sig := by rw [hsig]; exact List.mem_map_of_mem hp
  obtain ⟨t, ht, e'⟩ := List.mem_map.1 h2
  refine ⟨t, ht, ?_⟩
  have : t.base = (p.1 : Int) := congrArg (·.1) e'
  omega
 ·
  obtain ⟨p, hp, h1, h2, _⟩ := hseg t (List.mem_append_left _ ht)
  rw [h2, hI.did p (by rw [List.take_length]; exact hp)]
 ·
  rw [hI.left n fun p hp e' => by
   rw [List.take_length] at hp
   obtain ⟨t, ht, h3, h4⟩ := hpin p hp
   have ho := (hb.ok.seg t ht).1
   have := ho.base0; have := ho.base1
   exact h1 p.1 (by omega) e']
  exact crashed_full (hC.file n) h2
 ·
  obtain ⟨p, hp, h1, h2, _⟩ := hseg l2.cur l2.cur_in
  unfold Synced
  rw [h2, hI.did p (by rw [List.take_length]; exact hp)]
theorem HoldsE.safe {d : Dk} {nm : Nm} {es : List Ep} (h : HoldsE d nm es) : (d.file nm).safe = (d.file nm).b.length := by
 rcases h with ⟨h, _⟩ | ⟨_, h⟩
 ·
  rw [Dk.file_none h]; rfl
 ·
  rw [h]
theorem OldS.notes {Z i j E D s d} (hb : BaseS Z i j E s d) (h : OldS D s d) (hi : i ≤ 60 ∧ j ≤ 60) {bs : List Bat} (hs : bs.Sublist s.l.vis) : NotesOk (cutT s.l.start D) bs ∧ TabW (bs.foldl note (cutT s.l.start D)) ∧ ∀ q, notesOf (bs.foldl note (cutT s.l.start D)) q = ahN s.l.start (notesOf D q) ++ vN q bs := by
 have hD : TabW D := by
  rcases h.pids with ⟨_, rfl⟩ | ⟨_, _, h⟩
  ·
   exact .nil
  ·
   exact h.toTabW
 have hn := cutT_notes hD.nodup s.l.start
 have hst := hb.ok.start
 have hnx := hb.next
 have hl := fold_notes bs (cutT s.l.start D) (hD.cut _) (fun b hb' => h.bat b (vis_mem.1 (hs.subset hb')).1) (fun q => ?_) fun q => ?_
 ·
  refine ⟨hl.1, hl.2.1, fun q => ?_⟩
  rw [hl.2.2 q, hn]
 ·
  rw [hn]
  obtain ⟨S, a1, a2, a3⟩ := h.t q
  have hch := hb.tab.chainOf q
  rw [a3] at hch
  have hsub := vN_sub (q := q) hs
  cases hg : (ahN s.l.start (notesOf D q)).getLast? with
  | none => exact hch.sublist (hsub.trans (List.sublist_append_right _ _))
  | some x =>
   have hne : ahN s.l.start (notesOf D q) ≠ [] := fun e => by rw [e] at hg; cases hg
   have hSne := a2 hne
   obtain ⟨pre, hp⟩ := a1
   have hS : S.getLast? = some x := by
    rw [← hp, List.getLast?_append] at hg
    cases hq : S.getLast? with
    | none => exact absurd (List.getLast?_eq_none_iff.1 hq) hSne
    | some y => rw [hq] at hg; exact hg
   obtain ⟨S0, hS0⟩ := List.getLast?_eq_some_iff.1 hS
   show ([x] ++ vN q bs).Pairwise nextN
   refine hch.sublist ?_
   rw [hS0, List.append_assoc]
   exact (((List.Sublist.refl [x]).append hsub)).trans (List.sublist_append_right _ _)
 ·
  rw [hn]
  have h0 := up_len (ahN s.l.start (notesOf D q)) 0 s.l.start ((hD.chainOf q).sublist (List.takeWhile_sublist _)) (fun x hx => ⟨((hD.notes q).1 x (ahN_mem hx).1).off.1, (ahN_mem hx).2⟩) hst.1
  have h1 := hs.length_le
  have h2 : s.l.vis.length ≤ s.l.all.length := List.length_filter_le ..
  have h3 := hb.all
  omega
theorem pidsD {D : Tm} {s : St} {d : Dk} (h : OldS D s d) : TabW D ∧ D.length ≤ 7 ∧ sizeT D ≤ 2800160 := by
 have hD : TabW D := by
  rcases h.pids with ⟨_, rfl⟩ | ⟨_, _, h⟩
  ·
   exact .nil
  ·
   exact h.toTabW
 have h7 : D.length ≤ 7 := by
  have := few_keys hD.nodup fun x hx => by
   obtain ⟨p, hp, rfl⟩ := List.mem_map.1 hx
   exact ⟨(hD.pid p hp).1, h.keys p hp⟩
  rwa [List.length_map] at this
 exact ⟨hD, h7, sizeT_le h7 fun p hp => hD.len p hp⟩
theorem openF_old {Z i j E D s d k l2 e2} (hb : BaseS Z i j E s d) (h : OldS D s d) (hA : Again s d k l2 e2) (hi : i ≤ 60 ∧ j ≤ 60) (hZ : 90000 ≤ Z) : OpenF [112] s.c.es D l2 e2 := by
 obtain ⟨r, hr⟩ := hA.all
 have hus := hb.usd
 have hsz := hb.size
 have hln := hb.len
 have h2 := hA.used
 have hln2 : e2.fs.length = d.fs.length := same_len hb.dok hA.dok hA.names
 obtain ⟨hD, h7, hDs⟩ := pidsD h
 have hvis : s.l.vis = l2.vis ++ keepN s.l.start r := by
  unfold Lx.vis; rw [hr, keepN_app, hA.start]
 have hsub : l2.vis.Sublist s.l.vis := by rw [hvis]; exact List.sublist_append_left _ _
 have hP : HoldsP e2 (nmP [112]) D := by
  rw [← hb.pre]
  rcases h.pids with ⟨h1, h2⟩ | ⟨h1, h2, h3⟩
  ·
   exact .inl ⟨by rw [hA.names]; exact h1, h2⟩
  ·
   refine .inr ⟨by rw [hA.names]; exact h1, ?_, h3, by omega, by omega⟩
   rw [hA.file _ (fun u hu => nmP_far hu) (by rw [h2]), h2]
 have hE : HoldsE e2 (nmE [112]) s.c.es := by
  have h1 := hb.holdsE
  rw [hb.nm] at h1
  rw [← hb.pre]
  exact h1.same (hA.file _ (fun u hu => nmE_far hu) h1.safe) (hA.names _)
 refine ⟨hA.dok, hA.ok, hA.pre.trans hb.pre, ?_, hb.es, hE, hP, by rw [hA.size]; omega, by omega, fun b hbv => ?_, ?_⟩
 ·
  have := hb.all; rw [hr, List.length_append] at this; omega
 ·
  obtain ⟨⟨e0, g1, g2, g3⟩, _⟩ := h.ep b (hsub.subset hbv)
  have hbn := (mem_next hA.ok (vis_mem.1 hbv).1).1
  have hm : e0 ∈ cutE l2.next s.c.es := List.mem_filter.2 ⟨g1, decide_eq_true (by omega)⟩
  have := (hb.es.cut l2.next).le_last e0 hm
  omega
 ·
  rw [hA.start]; exact (h.notes hb hi hsub).1
theorem again_kept {Z i j E D s d k s2 e2 d2} (hb : BaseS Z i j E s d) (h : OldS D s d) (hE : -1 ≤ E) (hA : Again s d k s2.l e2) (hO : OpenS [112] s.c.es D s2 e2 d2) (hi : i ≤ 60 ∧ j ≤ 60) (hZ : 90000 ≤ Z) : BaseS Z i (j + 1) E s2 d2 ∧ OldS D s2 d2 := by
 have hF := openF_old hb h hA hi hZ
 obtain ⟨r, hr⟩ := hA.all
 have hus := hb.usd
 have hpre := hA.pre
 have hnm : s2.c.nm = nmE s2.l.pre := by rw [hO.nm, hpre, hb.pre]
 have hvis : s.l.vis = s2.l.vis ++ keepN s.l.start r := by
  unfold Lx.vis; rw [hr, keepN_app, hA.start]
 have hsub : s2.l.vis.Sublist s.l.vis := by rw [hvis]; exact List.sublist_append_left _ _
 obtain ⟨n1, n2, n3⟩ := h.notes hb hi hsub
 have ht := hO.t
 rw [hA.start] at ht
 have hkE : d2 = keptE e2 ⟨s2.c.cb, nmE s2.l.pre, s.c.es, none, 0⟩ (cutE s2.l.next s.c.es) := by rw [hpre, hb.pre]; exact hO.dsk
 obtain ⟨hB, hH, _⟩ := kept_facts (c := ⟨s2.c.cb, nmE s2.l.pre, s.c.es, none, 0⟩) (es := cutE s2.l.next s.c.es) hA.dok hA.ok rfl (hb.es.cut _) (by rw [hA.size, hb.size]; have := hA.used; omega) (by rw [hpre, hb.pre]; exact hF.holdsE)
 have hE2 : e2.file (nmE s.l.pre) = d.file (nmE s.l.pre) := hA.file _ (fun u hu => nmE_far hu) (by have := hb.holdsE; rw [hb.nm] at this; exact this.safe)
 have hPs : (d.file (nmP s.l.pre)).safe = (d.file (nmP s.l.pre)).b.length := by
  rcases h.pids with ⟨h1, _⟩ | ⟨_, h2, _⟩
  ·
   rw [Dk.file_none h1]; rfl
  ·
   rw [h2]
 have hP2 : e2.file (nmP s.l.pre) = d.file (nmP s.l.pre) := hA.file _ (fun u hu => nmP_far hu) hPs
 have hu2 : e2.used ≤ (e2.file (nmE s2.l.pre)).b.length + (e2.file (nmP s2.l.pre)).b.length + 100 * (i + (j + 1)) := by
  rw [hpre, hE2, hP2]; have := hb.used; have := hA.used; omega
 have hku := kept_used (s := ⟨s2.sx, s2.l, ⟨s2.c.cb, nmE s2.l.pre, s.c.es, none, 0⟩, s2.t⟩) (es := cutE s2.l.next s.c.es) hA.dok rfl hu2
 rw [← hkE] at hB hH
 have hku' : d2.used ≤ (d2.file (nmE s2.l.pre)).b.length + (d2.file (nmP s2.l.pre)).b.length + 100 * (i + (j + 1)) := by rw [hkE]; exact hku
 obtain ⟨hD, _, _⟩ := pidsD h
 have hnotes : ∀ p ∈ pur s2.t.m, p.2 = ahN s.l.start (notesOf D p.1) ++ vN p.1 s2.l.vis := fun p hp => by
  rw [← n3 p.1, ← ht]
  exact (notes_in (by rw [ht]; exact n2.nodup) hp).symm
 have hst2 := hA.ok.start
 refine ⟨⟨hB.dok, hB.ok, hB.own hA.own, hB.full hA.full, hB.short fun n hn => hb.short n (by rw [← hA.names]; exact hn), hpre.trans hb.pre, hnm, by have := hA.next; have := hb.next; omega, Nat.le_trans hA.segs hb.segs, by have := hb.all; rw [hr, List.length_append] at this; omega, by rw [hB.size, hA.size, hb.size], hku', ?_, fun n hn => ?_, by rw [hO.es]; exact hb.es.cut _, by rw [hO.es]; exact Nat.le_trans (List.length_filter_le ..) hb.esl, by rw [hO.es]; exact fun e he => of_decide_eq_true (List.mem_filter.1 he).2, by rw [hO.es]; exact last_le hb.last hE hb.es, by rw [hnm, hO.es]; exact hH, by rw [ht]; exact n2, fun p hp => ?_, fun p hp x hx => ?_⟩, ⟨?_, fun b hbm => ?_, ?_, h.keys, fun q => ⟨ahN s.l.start (notesOf D q), by rw [hA.start]; exact List.suffix_refl _, fun hne => by rw [hA.start] at hne; exact hne, by rw [ht, n3]⟩, fun b hbm => h.bat b (by rw [hr]; exact List.mem_append_left _ hbm), fun b hbv => ?_⟩⟩
 ·
  rw [(hB.far (nmP s2.l.pre) nmP_E).1, hpre, hP2]; exact hb.psz
 ·
  rw [hpre]
  by_cases hx : n = nmE s.l.pre
  ·
   exact .inl hx
  ·
   rw [(hB.far n (by rw [hpre]; exact hx)).2, hA.names] at hn
   exact hb.names n hn
 ·
  rw [ht] at hp
  rcases fold_keys _ _ p hp with h1 | ⟨b, hbm, e⟩
  ·
   obtain ⟨q, hq, e⟩ := List.mem_map.1 h1
   obtain ⟨x, hx, e2⟩ := List.mem_filterMap.1 hq
   split at e2
   ·
    cases e2
   ·
    cases e2
    have e' : x.1 = p.1 := e
    rw [← e']; exact h.keys x hx
  ·
   rw [← e]; exact (h.bat b (vis_mem.1 (hsub.subset hbm)).1).pid.2
 ·
  rw [hnotes p hp] at hx
  rcases List.mem_append.1 hx with hx | hx
  ·
   have := (ahN_mem hx).2; rw [hA.start] at hst2; omega
  ·
   obtain ⟨b, hbm, _, rfl⟩ := vN_mem hx
   exact (mem_next hA.ok (vis_mem.1 hbm).1).1
 ·
  obtain ⟨z, w, a1, a2, a3, a4⟩ := h.num
  refine ⟨z, w, hA.start.trans a1, a2, a3, ?_⟩
  rw [hpre, (hB.far (metaOf s.l.pre) (by rw [hpre]; exact nmE_meta.symm)).1, (hB.far (metaOf s.l.pre) (by rw [hpre]; exact nmE_meta.symm)).2, hA.names]
  rcases a4 with ⟨b1, b2, b3⟩ | ⟨b1, b2⟩
  ·
   exact .inl ⟨b1, b2, b3⟩
  ·
   exact .inr ⟨b1, by rw [hA.file _ (fun u hu e => nameOf_meta (by omega) e.symm) (by rw [b2]), b2]⟩
 ·
  rw [hA.start]; exact h.edge b (by rw [hr]; exact List.mem_append_left _ hbm)
 ·
  rw [hpre, (hB.far (nmP s.l.pre) (by rw [hpre]; exact nmP_E)).1, (hB.far (nmP s.l.pre) (by rw [hpre]; exact nmP_E)).2, hA.names, hP2]
  exact h.pids
 ·
  obtain ⟨⟨e0, g1, g2, g3⟩, g4⟩ := h.ep b (hsub.subset hbv)
  have hbn := (mem_next hA.ok (vis_mem.1 hbv).1).1
  rw [hO.es]
  exact ⟨⟨e0, List.mem_filter.2 ⟨g1, decide_eq_true (by omega)⟩, g2, g3⟩, fun e he => g4 e (List.mem_filter.1 he).1⟩
end Go.Proofs.YtoglbebcdjdkiaaGreatDoor
/- Chapter 13: Sync; a cut's next offset; a synced store that is opened again; the examples' tables, in plain Lean. -/
namespace Go.Proofs.YtoglbebcdjdkiaaGreatDoor
open Go Go.Sp
set_option linter.unusedVariables false
theorem OldS.sync {Z i j E D s d} (hb : BaseS Z i j E s d) (h : OldS D s d) : OldS D s (sync s.l d) := by
 have hS := sync_to hb.ok hb.dok
 have h1 := hb.ok.cur.1.base0
 have h2 := hb.ok.cur.1.base1
 have hne : ∀ n, (∀ u, u ≤ 1000000000 → n ≠ nameOf s.l.pre u) → n ≠ s.l.cur.nm := fun n hn e => hn s.l.cur.base.toNat (by omega) (e.trans hb.ok.cur.2.1)
 obtain ⟨m1, m2⟩ := hS.far (metaOf s.l.pre) (hne _ fun u hu e => nameOf_meta (by omega) e.symm)
 obtain ⟨p1, p2⟩ := hS.far (nmP s.l.pre) (hne _ fun u hu => nmP_far hu)
 refine ⟨?_, h.edge, by rw [p1, p2]; exact h.pids, h.keys, h.t, h.bat, h.ep⟩
 obtain ⟨z, w, a1, a2, a3, a4⟩ := h.num
 exact ⟨z, w, a1, a2, a3, by rw [m1, m2]; exact a4⟩
theorem Synced.same {l l' : Lx} {d d' : Dk} (h : Synced l d) (hc : l'.cur = l.cur) (hf : d'.file l.cur.nm = d.file l.cur.nm) : Synced l' d' := by unfold Synced at *; rw [hc, hf]; exact h
theorem Synced.del {Z i j E s d s' d' off} (hb : BaseS Z i j E s d) (h : Synced s.l d) (hA : DelS s d off s' d') (hi : i ≤ 60 ∧ j ≤ 60) : Synced s'.l d' := by
 obtain ⟨e, hD, rfl⟩ := hA.del
 have h1 := hb.ok.cur.1.base0
 have h2 := hb.ok.cur.1.base1
 have hne : ∀ n, (∀ u, u ≤ 1000000000 → n ≠ nameOf s.l.pre u) → s.l.cur.nm ≠ n := fun n hn e => hn s.l.cur.base.toNat (by omega) (e ▸ hb.ok.cur.2.1)
 have hE : s.l.cur.nm ≠ nmE s.l.pre := hne _ fun u hu => nmE_far hu
 have hP : s.l.cur.nm ≠ nmP s.l.pre := hne _ fun u hu => nmP_far hu
 have hM : s.l.cur.nm ≠ metaOf s.l.pre := meta_far hb.ok s.l.cur_in
 have hg : e.get s.l.cur.nm = (putP d s).get s.l.cur.nm := hD.far _ hM fun t ht => .inr (hb.ok.nm_ne ht).symm
 have hf : e.file s.l.cur.nm = (putP d s).file s.l.cur.nm := congrArg (fun o => o.getD fl0) hg
 refine h.same hD.cur ?_
 have hk : (keptE e s.c (delE off s.c.es)).file s.l.cur.nm = e.file s.l.cur.nm := by
  unfold keptE
  split
  ·
   rfl
  ·
   rw [hb.nm]; exact (Dk.file_put_ne _ _ hE).1
 rw [hk, hf]
 unfold putP
 exact (Dk.file_put_ne _ _ hP).1
theorem OldS.cut_next {D s d Z i j E} (hb : BaseS Z i j E s d) (h : OldS D s d) {off : Int} (h1 : s.l.start ≤ off) : s.l.start ≤ nextOf (baseOf s.l) (cutN off s.l.all) ∧ nextOf (baseOf s.l) (cutN off s.l.all) ≤ off := by
 have hc := hb.ok.chain
 have hg := hb.ok.good
 have hst := hb.ok.start
 obtain ⟨k, hk⟩ := cut_pre (off := off) hc hg
 refine ⟨?_, nextOf_off (by omega) fun b hb => by simpa using (List.mem_filter.1 hb).2⟩
 rw [hk]
 by_cases hkl : k < s.l.all.length
 ·
  have hx : s.l.all[k]? = some s.l.all[k] := List.getElem?_eq_getElem hkl
  have h2 := (hc.at hx).1
  have hm := List.mem_of_getElem? hx
  rcases h.edge _ hm with h3 | h3
  ·
   have hin : s.l.all[k] ∈ cutN off s.l.all := List.mem_filter.2 ⟨hm, decide_eq_true (by omega)⟩
   rw [hk] at hin
   obtain ⟨p, hp⟩ := List.getElem?_of_mem hin
   have hpk : p < k := by have := (List.getElem?_eq_some_iff.1 hp).1; rw [List.length_take] at this; omega
   rw [List.getElem?_take_of_lt hpk] at hp
   have h4 := (hc.at hp).2
   have h5 := (hg _ (List.mem_of_getElem? hp)).lt
   have h6 := hc.mono hg (i := p + 1) (j := k) hpk
   have h7 := (hc.at hp).1
   omega
  ·
   omega
 ·
  rw [List.take_of_length_le (by omega), hb.ok.nextOf]; exact hst.2.2
theorem found_sync {Z i j E D s d e} (hb : BaseS Z i j E s d) (h : OldS D s d) (hs : Synced s.l d) (hC : CrashTo d e) (hi : i ≤ 60 ∧ j ≤ 60) : ∃ z w rest, s.l.start = (z : Nat) ∧ Found s.l.pre e (pieces s.l s.l.cur.bs.length rest) z w := by
 obtain ⟨z, w, a1, a2, a3, a4⟩ := h.num
 have hc := hb.ok.cur
 have hsegs := hb.segs
 obtain ⟨k, rest, h1, h2, h3⟩ := found_crash (m := s.l.cur.bs.length) (z := z) (w := w) hb.ok hb.dok hb.own hb.full hC (by omega) a1 ⟨a2, a3⟩ a4 ⟨Nat.le_refl _, by rw [List.take_length, ← hc.2.2.2]; exact Nat.le_of_eq hs.symm⟩ (by
  have hst := hb.ok.start
  have hn : s.l.next = safeN s.l s.l.cur.bs.length := by unfold safeN; rw [List.take_length]; rfl
  rw [← hn]; omega)
 have hk : k = s.l.cur.bs.length := by omega
 subst hk
 exact ⟨z, w, rest, a1, h3⟩
theorem reopen_ok (db mb : Nat) {Z i j E D s d e} (most : Int) (hb : BaseS Z i j E s d) (h : OldS D s d) (hs : Synced s.l d) (hC : CrashTo d e) (hi : i ≤ 60 ∧ j ≤ 60) (h1 : 256 ≤ most) (h2 : most ≤ 1000000) (hOpen : ∀ (L : List Piece) (z w : Nat), Found [112] e L z w → Cn Tryz.prog 32 [.pointer (some ⟨db, 0, none⟩), nmv [112], .int .i64 most] LV [blk db (e.cells mb) 74, mp nmv Fl.val mb e.fs] fun v G => ∃ l ss e2, v = .tuple #[.pointer (some ⟨l.lb, 0, none⟩), .int .i64 0] ∧ Opened [112] e L z w l ss e2 ∧ G = [LG db l, blk db (e2.cells mb) 74, mp nmv Fl.val mb e2.fs]) : Cn Tryz.prog 32 [.pointer (some ⟨db, 0, none⟩), nmv [112], .int .i64 most] LV [blk db (e.cells mb) 74, mp nmv Fl.val mb e.fs] fun v G => ∃ l d', v = .tuple #[.pointer (some ⟨l.lb, 0, none⟩), .int .i64 0] ∧ (Again s d s.l.cur.bs.length l d' ∧ l.all = s.l.all ∧ l.next = s.l.next) ∧ G = [LG db l, blk db (d'.cells mb) 74, mp nmv Fl.val mb d'.fs] := by
 obtain ⟨z, w, rest, a1, hF⟩ := found_sync hb h hs hC hi
 rw [hb.pre] at hF
 refine (hOpen _ z w hF).mono fun v G hv => ?_
 obtain ⟨l, ss, e2, hv, hO, hG⟩ := hv
 have hF' : Found s.l.pre e (pieces s.l s.l.cur.bs.length rest) z w := by rw [hb.pre]; exact hF
 have hO' : Opened s.l.pre e (pieces s.l s.l.cur.bs.length rest) z w l ss e2 := by rw [hb.pre]; exact hO
 obtain ⟨b1, b2, _⟩ := opened_all hb.ok hO'
 exact ⟨l, e2, hv, ⟨again_of hb hC (Nat.le_refl _) a1 hF' hO', by rw [b1, List.take_length]; unfold Lx.all Lx.segs; rw [List.flatMap_append]; simp, by rw [b2]; unfold safeN; rw [List.take_length]; rfl⟩, hG⟩
def n0 : Nt := ⟨0, 0, 1, 0⟩
def n1 : Nt := ⟨0, 1, 1, 1⟩
theorem tabs : note [] (smB 2 7 0 0 1 0) = [(7, [n0])] ∧ note [(7, [n0])] (smB 2 7 0 1 1 1) = [(7, [n0, n1])] ∧ note (cutT 1 [(7, [n0, n1])]) (smB 2 7 0 1 1 1) = [(7, [n0, n1])] ∧ cutT 1 [(7, [n0, n1])] = [(7, [n0])] := ⟨by decide, by decide, by decide, by decide⟩
theorem asks : ask [(7, [n0, n1])] 7 0 0 1 = (0, 0) ∧ ask [(7, [n0])] 7 0 1 1 = (-1, 0) ∧ late (notesOf [(7, [n0])] 7) (smB 2 7 0 1 1 1) = false ∧ late (notesOf [] 7) (smB 2 7 0 0 1 0) = false := ⟨by decide, by decide, by decide, by decide⟩
theorem rows_one (p : Int × List Nt) (h : TabOk [p]) : rowsT [p] = [p] := List.perm_singleton.1 (rowsT_perm h)
end Go.Proofs.YtoglbebcdjdkiaaGreatDoor
/- Chapter 13: the examples behind the crash, in plain Lean. -/
namespace Go.Proofs.YtoglbebcdjdkiaaGreatDoor
open Go Go.Sp
set_option linter.unusedVariables false
theorem shown_tab {s2 s3 s4 : St} {d3 d4 e2 d5 : Dk} {es : List Ep} (ha : s2.l.all = [smB 2 7 0 0 1 0, smB 2 7 0 1 1 1]) (ht : pur s2.t.m = [(7, [n0, n1])]) (hT : TabOk (pur s2.t.m)) (hA : DelS s2 d3 1 s3 d4) (h4 : s4.l.all = s3.l.all) (h5 : s4.l.start = s3.l.start) (hO : OpenS [112] es (rowsT (pur s2.t.m)) s4 e2 d5) : pur s4.t.m = [(7, [n0, n1])] ∧ s4.l.start = 1 := by
 obtain ⟨e, hD, _⟩ := hA.del
 have h1 : s4.l.start = 1 := h5.trans hD.start
 have hv : s4.l.vis = [smB 2 7 0 1 1 1] := by
  unfold Lx.vis
  rw [h1, h4]
  have := hD.keep
  rw [ha] at this
  exact this
 rw [ht] at hT
 refine ⟨?_, h1⟩
 have := hO.t
 rw [hv, h1, ht, rows_one _ hT] at this
 exact this.trans tabs.2.2.1
theorem base0 {Z E s d} (h : BaseS Z 0 0 E s d) (hp : PlainS s d) : s.l.next = 0 ∧ s.l.all = [] ∧ pur s.t.m = [] := by
 have h1 := h.next
 have h2 := h.next0
 have h3 : s.l.all = [] := List.eq_nil_of_length_eq_zero (Nat.le_zero.1 h.all)
 exact ⟨by omega, h3, by rw [hp.t, h3]; rfl⟩
theorem smok (seq u : Int) (h1 : 0 ≤ seq ∧ seq ≤ 1) (h2 : 0 ≤ u ∧ u ≤ 5) : SmOk 2 7 0 seq 1 u := ⟨by decide, by decide, by decide, by omega, by decide, by omega⟩
end Go.Proofs.YtoglbebcdjdkiaaGreatDoor
/- Chapter 13: the epochs that are asked for, in plain Lean. -/
namespace Go.Proofs.YtoglbebcdjdkiaaGreatDoor
open Go Go.Sp
set_option linter.unusedVariables false
theorem kept_beside {d : Dk} {l : Lx} {c : Cx} {es : List Ep} (hd : d.ok) (hl : l.ok d) (hc : c.nm = nmE l.pre) (he : EpsOk es) (hr : d.used + 4020 ≤ d.size) : Beside l (nmE l.pre) d (keptE d c es) := by
 have hle := summedE_le he
 unfold keptE
 by_cases h : es = c.es
 ·
  rw [if_pos h]; exact .refl hd hl
 ·
  rw [if_neg h, hc]
  exact .put hd hl (nmE_named hl.pre).2.1 (fun u hu => nmE_far hu) (by dsimp only; omega) (Nat.le_refl _)
structure CutP (s' : St) (d' : Dk) : Prop where
 ok : s'.l.ok d'
 start : s'.l.start = 0
 es : s'.c.es = epsOf s'.l.all
 esok : EpsOk s'.c.es
 ep : ∀ b ∈ s'.l.all, 0 ≤ b.epoch
 len : s'.l.all.length ≤ 1000
structure SameF (s : St) (l : Lx) (e : Dk) : Prop where
 f : OpenF [112] s.c.es [] l e
 all : l.all = s.l.all
 next : l.next = s.l.next
 start : l.start = 0
 ok : s.l.ok e
theorem replain_ok (db mb : Nat) {Z i j E s d e} (most : Int) (hb : BaseS Z i j E s d) (h : PlainS s d) (hs : Synced s.l d) (hC : CrashTo d e) (hi : i ≤ 60 ∧ j ≤ 60) (hZ : 90000 ≤ Z) (hOpen : ∀ (L : List Piece) (z w : Nat), Found [112] e L z w → Cn Tryz.prog 32 [.pointer (some ⟨db, 0, none⟩), nmv [112], .int .i64 most] LV [blk db (e.cells mb) 74, mp nmv Fl.val mb e.fs] fun v G => ∃ l ss e2, v = .tuple #[.pointer (some ⟨l.lb, 0, none⟩), .int .i64 0] ∧ Opened [112] e L z w l ss e2 ∧ G = [LG db l, blk db (e2.cells mb) 74, mp nmv Fl.val mb e2.fs]) : Cn Tryz.prog 32 [.pointer (some ⟨db, 0, none⟩), nmv [112], .int .i64 most] LV [blk db (e.cells mb) 74, mp nmv Fl.val mb e.fs] fun v G => ∃ l d', v = .tuple #[.pointer (some ⟨l.lb, 0, none⟩), .int .i64 0] ∧ SameF s l d' ∧ G = [LG db l, blk db (d'.cells mb) 74, mp nmv Fl.val mb d'.fs] := by
 obtain ⟨hF, _⟩ := plain_found hb h hs hC hi
 refine (hOpen _ 0 0 hF).mono fun v G hv => ?_
 obtain ⟨l, ss, e2, hv, hO, hG⟩ := hv
 have hF' : Found s.l.pre e (pieces s.l s.l.cur.bs.length []) 0 0 := by rw [hb.pre]; exact hF
 have hO' : Opened s.l.pre e (pieces s.l s.l.cur.bs.length []) 0 0 l ss e2 := by rw [hb.pre]; exact hO
 have hA := again_of hb hC (Nat.le_refl _) h.start hF' hO'
 obtain ⟨g1, g2, g3, g4, g5, _⟩ := openF_again hb h hs hC hi hZ (hA.pre.trans hb.pre) hO
 exact ⟨l, e2, hv, ⟨g1, g2, g3, g4, g5⟩, hG⟩
theorem SameF.store {Z i j E s d t e d2} (hb : BaseS Z i j E s d) (h : PlainS s d) (hF : SameF s t.l e) (hO : OpenS [112] s.c.es [] t e d2) : d2 = e ∧ t.c.es = s.c.es ∧ pur t.t.m = pur s.t.m ∧ t.l.vis = s.l.vis := by
 have hc : cutE t.l.next s.c.es = s.c.es := cutE_id (by rw [hF.next]; exact hb.esn)
 have hv : t.l.vis = s.l.vis := by unfold Lx.vis; rw [hF.all, hF.start, h.start]
 refine ⟨hO.dsk.trans (keptE_id hc), hO.es.trans hc, ?_, hv⟩
 rw [hO.t, hv, vis_all hb.ok h.start, h.t]; rfl
end Go.Proofs.YtoglbebcdjdkiaaGreatDoor