/- Part 3 of a claim's texts: rules for the machine's steps, and steps through functions of the program, under the conditions that each theorem states. -/
import Derived.Test.YtoglbebcdjdkiaaGreatDoorProg
import Derived.Lib.IndexMore
import Derived.Shelf.Strings.Builder1
import Derived.Test.YtoglbebcdjdkiaaGreatDoorAn2
set_option linter.unusedVariables false
set_option maxRecDepth 20000
set_option maxHeartbeats 8000000
namespace Go.Proofs.YtoglbebcdjdkiaaGreatDoor
open Go Go.Sp
theorem Ba{b:aQ}(hb:b.aT):Value.tuple #[.string (str (dA b).1),.int .i64 (dA b).2]=.tuple #[.string (str (enc b)),.int .i64 0]:=by unfold enc;rw[fg hb.right]
theorem tL(db mb:Nat)(d:Dk)(s:Sx)(b:aQ)(a:Option Addr)(c:Nat)(hd:d.ok)(hs:s.ok)(hb:b.aT)(hn:b.base=s.next)(hl:s.bs.length<4096)(ph:eS s.nm)(hx:(d.get s.nm).isSome=true)(hf:(d.file s.nm).b=flat s.bs)(hr:d.used+(enc b).length≤d.size):Cn Tryz.prog 126 [.pointer (some ⟨s.b,0,none⟩),.agg (b.cells a c).toArray] (aD a (b.aS.flatMap Rec.cells)) [an db (d.cells mb) 74,mp aW Fl.val mb d.fs,an s.b (s.cells db) 110,arr 112 4 s.aa s.ac s.rows,arr 3 1 s.ia s.ic (s.sm.flatMap fI)] fun v G=>v=.int .i64 0∧∃sm aa ac ia ic,Ix sm (s.bs.length+1)∧s.bs.length+1≤ac∧G=[an db ((d.put s.nm ⟨(d.file s.nm).b++enc b,(d.file s.nm).safe⟩).cells mb) 74,mp aW Fl.val mb (d.put s.nm ⟨(d.file s.nm).b++enc b,(d.file s.nm).safe⟩).fs]++[an s.b ((Sx.mk s.b s.nm s.base (s.bs++[b]) sm aa ac ia ic).cells db) 110,arr 112 4 aa ac (Sx.mk s.b s.nm s.base (s.bs++[b]) sm aa ac ia ic).rows,arr 3 1 ia ic (sm.flatMap fI)]:=by
 refine .en Tryz.func126 fun R k=>?_
 have mi:=hb.base
 have gE:=hb.en
 have kO:=hb.uI
 have vJ:=hb.lt
 have xz:=hb.uJ
 have ym:=hs.kC
 have QH:(d.file s.nm).b.length=(flat s.bs).length:=by rw[hf]
 refine .ax fds 2 ?_
 refine .ef (.box (l:=b.cells a c) rfl rfl (aB.of rfl)) ?_
 rintro _ _ ⟨b3,rfl,rfl⟩
 refine .ax fds 4 ?_
 refine .rd (.j4 bi aO rfl .p0 rfl) ?_
 refine .fn rfl rfl .nil ((af.pick .p6 (k.mono fun _ h=>h))) (wP b a c hb.fits) (fun v G1 hq=>?_)
 obtain⟨rfl,rfl⟩:=hq
 simp only[ae]
 refine .al 11 (.tuple #[.string (str (enc b)),.int .i64 0]) rfl (Ba hb) ?_
 refine .aH fds 16 ?_
 refine .dr [1] [an b3 (b.cells a c) 41] ?_
 refine .aq fds [0] ?_
 refine .re 1 rfl (.ld ak rfl .p0 rfl) .q0 ?_
 refine .aq fds [2] ?_
 refine .eg 3 rfl (.fn rfl rfl .nil ((af.an .p3).and ((af.arr .p4).and (af.arr .p5))) (bZ db s hs)) ?_
 rintro v _ ⟨G1,hq,rfl⟩
 obtain⟨rfl,rfl⟩:=hq
 simp only[ae]
 refine⟨.inr ⟨_,.q0⟩,?_⟩
 refine .aq fds [4] ?_
 refine .al 23 (.bool false) rfl (congrArg Value.bool (by rw[decide_eq_true hn];rfl)) ?_
 refine .aq fds [5] ?_
 refine .dn ?_
 refine .ax fds 3 ?_
 refine .rd (.j4 bi aO rfl .p0 rfl) ?_
 refine .fn rfl rfl .nil ah (vi b a c (by omega) (by omega) (by omega)) (fun v G1 hq=>?_)
 obtain⟨rfl,rfl⟩:=hq
 simp only[ae]
 refine .rd (.gt rfl rfl) ?_
 refine .al 27 (.bool false) rfl (aE (by omega)) ?_
 refine .ax fds 8 ?_
 refine .rd (.ld dz rfl .p3 rfl) ?_
 refine .rd (.bP rfl rfl Tryz.underlying108 rfl) ?_
 refine .rd (.ge rfl rfl) ?_
 refine .al 34 (.bool false) rfl (aE (by omega)) ?_
 refine .ax fds 8 ?_
 refine .fn rfl rfl .px ((af.an .p1).and ((af.arr .p2).and (af.arr .p3))) (nw db mb d s) (fun v G1 hq=>?_)
 obtain⟨rfl,rfl⟩:=hq
 simp only[ag,ae]
 refine .aH fds 4 ?_
 refine .dr [3,7] [an s.b (s.cells db) 110] ?_
 refine .aq fds [0] ?_
 refine .aq fds [1] ?_
 refine .aq fds [2] ?_
 refine .re 3 rfl (.ld dh rfl .p0 rfl) .q3 ?_
 refine .aq fds [4] ?_
 refine .aq fds [5] ?_
 refine .aq fds [6] ?_
 refine .re 7 rfl (.ld aR rfl .p0 rfl) .q3 ?_
 refine .aq fds [8] ?_
 refine .eg 9 rfl (.fn rfl rfl .cU ah (tE db mb d s.nm (enc b) hd ph (.inl hx) hr)) ?_
 rintro v _ ⟨G1,hq,rfl⟩
 obtain⟨rfl,rfl⟩:=hq
 simp only[ag,ae]
 refine ay ?_
 refine .aq fds [10] ?_
 refine .dn ?_
 refine .go fds 8 ?_
 refine .dr [2,3] [an b3 (b.cells a c) 41] ?_
 refine .aq fds [0] ?_
 refine .aq fds [1] ?_
 refine .re 2 rfl (.ld ak rfl .p0 rfl) .q2 ?_
 refine .re 3 rfl (.j4 bi aO rfl .p0 rfl) .q2 ?_
 refine .aq fds [5] ?_
 refine .aq fds [6] ?_
 refine .aq fds [7] ?_
 refine .rq 8 rfl (.ey rfl rfl Tryz.underlying9 rfl) ?_
 refine .rq 9 rfl (.add rfl rfl (by omega) (by omega)) ?_
 refine .eg 4 rfl (.fn rfl rfl .nil ah (vi b a c (by omega) (by omega) (by omega))) ?_
 rintro v _ ⟨G1,hq,rfl⟩
 obtain⟨rfl,rfl⟩:=hq
 simp only[ae]
 refine⟨.inr ⟨_,.q2⟩,?_⟩
 refine .rq 10 rfl (.build rfl (Av _ _ _ _)) ?_
 refine .al 70 (.agg (pg s b).cells.toArray) rfl (by rw[QH];rfl) ?_
 refine .eg 11 rfl (.fn rfl rfl .GO ah (EW db s b hs hb hn hl)) ?_
 rintro v _ ⟨G1,hq,rfl⟩
 obtain⟨sm,aa,ac,ia,ic,iJ,qT,rfl⟩:=hq
 simp only[ag,ae]
 refine ay ?_
 refine .dn ?_
 refine .go fds 4 ?_
 refine .aG Tryz.func126 (.t1 rfl) (.cons .p3 (.cons .p3 (.cons .p0 (.cons .p0 (.cons .p0 (.cons .p1 .nil)))))) ?_
 exact⟨[_,_,_,_,_],⟨rfl,sm,aa,ac,ia,ic,iJ,qT,rfl⟩,rfl⟩
theorem oD(l:Lx):l.ar.Perm (l.ai::l.bX):=by unfold Lx.ar;exact List.perm_append_comm
theorem IJ{s:Sx}(h:s.ok)(hf:0<(flat s.bs).length):s.base<s.next:=by
 by_cases h0:0<s.bs.length
 ·
  obtain⟨b,hb,he⟩:=Sx.last h0
  rw[←he];exact kZ h (List.mem_of_getElem? hb)
 ·
  have:s.bs=[]:=List.eq_nil_of_length_eq_zero (by omega)
  rw[this]at hf;exact absurd hf (by decide)
theorem Bb(l:Lx):l.ar.flatMap sp=(l.ar.map (·.b)).flatMap yp:=by rw[List.flatMap_map];rfl
theorem IK(db mb:Nat)(d:Dk)(l:Lx)(b:aQ)(a:Option Addr)(c:Nat)(hd:d.ok)(hl:l.ok d)(hb:b.aT)(oA:b.base=l.next)(yX:l.ai.bs.length<4096)(Qh:l.next-l.ai.base<4096)(fu:d.used+(enc b).length≤d.size)(KI:d.fs.length<255)(KJ:((d.put l.ai.nm ⟨(d.file l.ai.nm).b,(d.file l.ai.nm).b.length⟩).file (nameOf l.pre l.next.toNat)).b=[])(Pj:(d.put l.ai.nm ⟨(d.file l.ai.nm).b,(d.file l.ai.nm).b.length⟩).fs.length<256):Cn Tryz.prog 80 [.pointer (some ⟨l.lb,0,none⟩),.agg (b.cells a c).toArray] (fun w=>LV w∧aD a (b.aS.flatMap Rec.cells) w) [LG db l,an db (d.cells mb) 74,mp aW Fl.val mb d.fs] fun v G=>v=.int .i64 0∧((¬l.most≤((d.file l.ai.nm).b.length:Int)∧∃sm aa ac ia ic,Ix sm (l.ai.bs.length+1)∧l.ai.bs.length+1≤ac∧G=[LG db (l.grow b sm aa ac ia ic),an db ((d.put l.ai.nm ⟨(d.file l.ai.nm).b++enc b,(d.file l.ai.nm).safe⟩).cells mb) 74,mp aW Fl.val mb (d.put l.ai.nm ⟨(d.file l.ai.nm).b++enc b,(d.file l.ai.nm).safe⟩).fs])∨(l.most≤((d.file l.ai.nm).b.length:Int)∧∃sb sm aa ac ia ic qa qc,Ix sm 1∧1≤ac∧G=[LG db (l.roll sb b sm aa ac ia ic qa qc),an db ((((d.put l.ai.nm ⟨(d.file l.ai.nm).b,(d.file l.ai.nm).b.length⟩).put (nameOf l.pre l.next.toNat) ⟨flat [],(flat []).length⟩).put (nameOf l.pre l.next.toNat) ⟨(((d.put l.ai.nm ⟨(d.file l.ai.nm).b,(d.file l.ai.nm).b.length⟩).put (nameOf l.pre l.next.toNat) ⟨flat [],(flat []).length⟩).file (nameOf l.pre l.next.toNat)).b++enc b,(((d.put l.ai.nm ⟨(d.file l.ai.nm).b,(d.file l.ai.nm).b.length⟩).put (nameOf l.pre l.next.toNat) ⟨flat [],(flat []).length⟩).file (nameOf l.pre l.next.toNat)).safe⟩).cells mb) 74,mp aW Fl.val mb (((d.put l.ai.nm ⟨(d.file l.ai.nm).b,(d.file l.ai.nm).b.length⟩).put (nameOf l.pre l.next.toNat) ⟨flat [],(flat []).length⟩).put (nameOf l.pre l.next.toNat) ⟨(((d.put l.ai.nm ⟨(d.file l.ai.nm).b,(d.file l.ai.nm).b.length⟩).put (nameOf l.pre l.next.toNat) ⟨flat [],(flat []).length⟩).file (nameOf l.pre l.next.toNat)).b++enc b,(((d.put l.ai.nm ⟨(d.file l.ai.nm).b,(d.file l.ai.nm).b.length⟩).put (nameOf l.pre l.next.toNat) ⟨flat [],(flat []).length⟩).file (nameOf l.pre l.next.toNat)).safe⟩).fs])):=by
 refine .en Tryz.func80 fun R k=>?_
 obtain⟨iG,IL,QI,M6⟩:=hl.gN l.ai l.cJ
 have mi:=hb.base
 have gE:=hb.en
 have kO:=hb.uI
 have vJ:=hb.lt
 have lX:=iG.eC
 have Qb:=iG.kY
 have QH:(d.file l.ai.nm).b.length=(flat l.ai.bs).length:=by rw[M6]
 have AW:=hl.pre.len
 have R3:=hl.most
 refine .unpack (L:=[an l.lb (l.cells db) 57,arr 54 1 l.la l.lc (l.ar.flatMap sp),cD (SG db) l.ar]) .p0 ?_
 simp only[ag,ae]
 refine .mI (f:=SG db) (x:=l.ai) (m:=l.bX) .p2 (oD l) ?_
 refine .unpack (L:=[an l.ai.b (l.ai.cells db) 110,arr 112 4 l.ai.aa l.ai.ac l.ai.rows,arr 3 1 l.ai.ia l.ai.ic (l.ai.sm.flatMap fI)]) .p0 ?_
 simp only[ag,ae]
 refine .ax fds 2 ?_
 refine .ef (.box (l:=b.cells a c) rfl rfl (aB.of rfl)) ?_
 rintro _ _ ⟨b3,rfl,rfl⟩
 refine .aH fds 4 ?_
 refine .dr [1,5] [an b3 (b.cells a c) 41,an l.lb (l.cells db) 57] ?_
 refine .aq fds [0] ?_
 refine .re 1 rfl (.ld ak rfl .p0 rfl) .JQ ?_
 refine .aq fds [2] ?_
 refine .aq fds [3] ?_
 refine .aq fds [4] ?_
 refine .re 5 rfl (.ld aN rfl .p1 rfl) .JQ ?_
 refine .eg 6 rfl (.fn rfl rfl .nil ((af.an .p1).and ((af.arr .p2).and (af.arr .p3))) (bZ db l.ai iG)) ?_
 rintro v _ ⟨G1,hq,rfl⟩
 obtain⟨rfl,rfl⟩:=hq
 simp only[ae]
 refine⟨.inr ⟨_,.JQ⟩,?_⟩
 refine .aq fds [7] ?_
 refine .al 16 (.bool false) rfl (congrArg Value.bool (by rw[decide_eq_true (show b.base=l.ai.next from oA)];rfl)) ?_
 refine .dn ?_
 refine .ax fds 5 ?_
 refine .rd (.j4 bi aO rfl .p0 rfl) ?_
 refine .fn rfl rfl .nil ((af.pick .p9 (k.mono fun _ h=>h.2))) (wP b a c hb.fits) (fun v G1 hq=>?_)
 obtain⟨rfl,rfl⟩:=hq
 simp only[ae]
 refine .al 19 (.tuple #[.string (str (enc b)),.int .i64 0]) rfl (Ba hb) ?_
 refine .ax fds 16 ?_
 by_cases rA:l.most≤((d.file l.ai.nm).b.length:Int)
 ·
  have MV:l.ai.base<l.ai.next:=IJ iG (by omega)
  refine .rd (.j4 bi aO rfl .p0 rfl) ?_
  refine .fn rfl rfl .nil ah (vj b a c (by omega) (by omega) (by omega)) (fun v G1 hq=>?_)
  obtain⟨rfl,rfl⟩:=hq
  simp only[ae]
  refine .rd (.gt rfl rfl) ?_
  refine .al 27 (.bool false) rfl (aE (by omega)) ?_
  refine .aH fds 5 ?_
  refine .dr [3,8,14,19] [an l.lb (l.cells db) 57] ?_
  refine .aq fds [0] ?_
  refine .aq fds [1] ?_
  refine .aq fds [2] ?_
  refine .re 3 rfl (.ld aN rfl .p0 rfl) .q5 ?_
  refine .aq fds [5] ?_
  refine .aq fds [6] ?_
  refine .aq fds [7] ?_
  refine .re 8 rfl (.ld ak rfl .p0 rfl) .q5 ?_
  refine .eg 4 rfl (.fn rfl rfl (.cons .p7 (.cons .p7 .nil)) ((af.an .p1).and ((af.arr .p2).and (af.arr .p3))) (nw db mb d l.ai)) ?_
  rintro v _ ⟨G1,hq,rfl⟩
  obtain⟨rfl,rfl⟩:=hq
  simp only[ag,ae]
  refine⟨.inr ⟨_,.q7⟩,?_⟩
  refine .aq fds [9] ?_
  refine .al 37 (.bool true) rfl (bR rA) ?_
  refine .aq fds [10,11,12,13,14,15,16,17,18,19,20,21,22] ?_
  refine .aq fds [23] ?_
  refine .aq fds [24] ?_
  refine .dn ?_
  refine .seq ?_
  refine .dr [5,10] [an l.lb (l.cells db) 57] ?_
  refine .aq fds [0] ?_
  refine .aq fds [1] ?_
  refine .aq fds [2] ?_
  refine .aq fds [3] ?_
  refine .aq fds [4] ?_
  refine .vR 5 (t:=53) rfl rfl rfl rfl (by kernel_rfl) (by kernel_rfl) (by kernel_rfl) (.ld aN rfl .p0 rfl) .q7 ?_
  refine .aq fds [7] ?_
  refine .aq fds [8] ?_
  refine .aq fds [9] ?_
  refine .vR 10 (t:=53) rfl rfl rfl rfl (by kernel_rfl) (by kernel_rfl) (by kernel_rfl) (.ld aN rfl .p0 rfl) .q7 ?_
  refine .GD 6 (t:=53) (by kernel_rfl) rfl rfl rfl (.fn rfl rfl .nil ((af.an .p3).and ((af.arr .p4).and (af.arr .p5))) (bZ db l.ai iG)) ?_
  rintro v _ ⟨G1,hq,rfl⟩
  obtain⟨rfl,rfl⟩:=hq
  simp only[ae]
  refine⟨.inr ⟨_,.q7⟩,?_⟩
  refine .GD 11 (t:=53) (by kernel_rfl) rfl rfl rfl (.fn rfl rfl .nil ((af.an .p3).and ((af.arr .p4).and (af.arr .p5))) (k6 db l.ai)) ?_
  rintro v _ ⟨G1,hq,rfl⟩
  obtain⟨rfl,rfl⟩:=hq
  simp only[ae]
  refine ay ?_
  refine .aq fds [12] ?_
  refine .al 64 (.bool true) rfl (bR MV) ?_
  refine .aq fds [13] ?_
  refine .dn ?_
  refine .go fds 2 ?_
  refine .dr [3,8,14,18] [an l.lb (l.cells db) 57] ?_
  refine .aq fds [0] ?_
  refine .aq fds [1] ?_
  refine .aq fds [2] ?_
  refine .re 3 rfl (.ld aN rfl .p0 rfl) .q7 ?_
  refine .aq fds [5] ?_
  refine .aq fds [6] ?_
  refine .aq fds [7] ?_
  refine .re 8 rfl (.ld ak rfl .p0 rfl) .q7 ?_
  refine .eg 4 rfl (.fn rfl rfl .cU ((af.an .p1).and ((af.arr .p2).and (af.arr .p3))) (nw db mb d l.ai)) ?_
  rintro v _ ⟨G1,hq,rfl⟩
  obtain⟨rfl,rfl⟩:=hq
  simp only[ag,ae]
  refine⟨.inr ⟨_,.q7⟩,?_⟩
  refine .aq fds [9] ?_
  refine .al 75 (.bool true) rfl (bR rA) ?_
  refine .aq fds [10,11,12,13,14,15,16,17,18,19,20,21,22] ?_
  refine .aq fds [23] ?_
  refine .dn ?_
  refine .ax fds 6 ?_
  refine .rd (.ld aN rfl .p7 rfl) ?_
  refine .fn rfl rfl .cU ((af.an .p1).and ((af.arr .p2).and (af.arr .p3))) (rF db mb d l.ai hd QI) (fun v G1 hq=>?_)
  obtain⟨rfl,rfl⟩:=hq
  simp only[ag,ae]
  refine .ax fds 7 ?_
  refine .rd (.ld aN rfl .p7 rfl) ?_
  refine .fn rfl rfl .nil ((af.an .p3).and ((af.arr .p4).and (af.arr .p5))) (bZ db l.ai iG) (fun v G1 hq=>?_)
  obtain⟨rfl,rfl⟩:=hq
  simp only[ae]
  refine .pack (L:=[an l.ai.b (l.ai.cells db) 110,arr 112 4 l.ai.aa l.ai.ac l.ai.rows,arr 3 1 l.ai.ia l.ai.ic (l.ai.sm.flatMap fI)]) .GO ?_
  refine .close (X:=cD (SG db) l.ar) .Lt (fun h H=>iF (bX:=l.bX) (s:=l.ai) H) ?_
  have AF:(d.put l.ai.nm ⟨(d.file l.ai.nm).b,(d.file l.ai.nm).b.length⟩).ok:=Dk.dN hd (by show _+(d.file l.ai.nm).b.length≤_;have:=hd.used;omega) (Nat.le_refl _)
  refine .perm .iC ?_
  refine .ca (arr 54 1 l.la l.lc ((l.ar.map (·.b)).flatMap yp)) (by rw[Bb]) ?_
  refine .perm .iC ?_
  refine .ca (an l.lb (a6 (some ⟨l.ai.b,0,none⟩) db l.pre l.most l.start l.aJ l.la (l.ar.map (·.b)).length l.lc) 57) (by rw[List.length_map];unfold Lx.ar;rw[List.length_append];rfl) ?_
  refine .al 100 (.int .i64 ((l.next.toNat:Nat):Int)) rfl (congrArg (Value.int .i64) (by show l.ai.next=((l.ai.next.toNat:Nat):Int);have:=iG.bC;omega)) ?_
  refine .fn rfl rfl .DC ((af.pick .p2 (k.mono fun _ h=>h.1))) (vl l.lb db mb (d.put l.ai.nm ⟨(d.file l.ai.nm).b,(d.file l.ai.nm).b.length⟩) (some ⟨l.ai.b,0,none⟩) l.pre l.most l.start l.aJ l.la l.lc (l.ar.map (·.b)) l.next.toNat [] [] AF hl.pre (by show l.ai.next.toNat≤_;omega) (.inr Pj) KJ (.inl rfl) trivial (fun _ h=>by cases h) (by decide) (by rw[List.length_map];have:=hl.len;omega)) (fun v G1 hq=>?_)
  obtain⟨sb,sm,aa,ac,ia,ic,qa,qc,rfl,iJ,qT,rfl⟩:=hq
  simp only[ag,ae]
  refine .aH fds 10 ?_
  have Gj:((l.next.toNat:Nat):Int)=l.next:=by show((l.ai.next.toNat:Nat):Int)=l.ai.next;have:=iG.bC;omega
  have z8:l.next=l.ai.next:=rfl
  have DQ:((d.put l.ai.nm ⟨(d.file l.ai.nm).b,(d.file l.ai.nm).b.length⟩).put (nameOf l.pre l.next.toNat) ⟨flat [],(flat []).length⟩).ok:=Dk.dN AF (Nat.le_trans (by have:=Dk.cf hd l.ai.nm ⟨(d.file l.ai.nm).b,(d.file l.ai.nm).b.length⟩;exact AF.used) (Nat.le_add_right _ _)) (Nat.le_refl _)
  have Lu:(Sx.mk sb (nameOf l.pre l.next.toNat) ((l.next.toNat:Nat):Int) [] sm aa ac ia ic).ok:=⟨by show(0:Int)≤((l.next.toNat:Nat):Int);omega,by show((l.next.toNat:Nat):Int)≤_;omega,trivial,fun _ h=>(by cases h),Nat.zero_le _,iJ,Nat.zero_le _⟩
  have Pk:b.base=(Sx.mk sb (nameOf l.pre l.next.toNat) ((l.next.toNat:Nat):Int) [] sm aa ac ia ic).next:=by rw[oA,←Gj];rfl
  have Pm:((d.put l.ai.nm ⟨(d.file l.ai.nm).b,(d.file l.ai.nm).b.length⟩).put (nameOf l.pre l.next.toNat) ⟨flat [],(flat []).length⟩).used+(enc b).length≤((d.put l.ai.nm ⟨(d.file l.ai.nm).b,(d.file l.ai.nm).b.length⟩).put (nameOf l.pre l.next.toNat) ⟨flat [],(flat []).length⟩).size:=by
   have h1:=Dk.cf hd l.ai.nm ⟨(d.file l.ai.nm).b,(d.file l.ai.nm).b.length⟩
   have h2:=Dk.cf AF (nameOf l.pre l.next.toNat) ⟨flat [],(flat []).length⟩
   have h3:(flat ([]:List aQ)).length=0:=rfl
   show _≤d.size
   dsimp only at h1 h2
   omega
  refine .dr [3,4] [an l.lb (a6 (some ⟨sb,0,none⟩) db l.pre l.most l.start l.aJ qa (l.ar.map (·.b)++[sb]).length qc) 57,an b3 (b.cells a c) 41] ?_
  refine .aq fds [0] ?_
  refine .aq fds [1] ?_
  refine .aq fds [2] ?_
  refine .re 3 rfl (.ld aN rfl .p0 rfl) (.cons .p0 (.cons .p7 .nil)) ?_
  refine .re 4 rfl (.j4 bi aO rfl .p1 rfl) (.cons .p0 (.cons .p7 .nil)) ?_
  refine .eg 5 rfl (.fn rfl rfl (.cons .p2 (.cons .p2 (.cons .p2 (.cons .p2 (.cons .p2 .nil))))) ((af.pick .p4 (k.mono fun _ h=>h.2))) (tL db mb ((d.put l.ai.nm ⟨(d.file l.ai.nm).b,(d.file l.ai.nm).b.length⟩).put (nameOf l.pre l.next.toNat) ⟨flat [],(flat []).length⟩) (Sx.mk sb (nameOf l.pre l.next.toNat) ((l.next.toNat:Nat):Int) [] sm aa ac ia ic) b a c DQ Lu hb Pk (by show 0<4096;omega) (jM hl.pre (by show l.ai.next.toNat<10^10;omega)) (Dk.cB _ _ _) (by rw[Dk.aV]) Pm)) ?_
  rintro v _ ⟨G1,hq,rfl⟩
  obtain⟨rfl,tm,ta,tc,ua,uc,Pn,KB,rfl⟩:=hq
  simp only[ag,ae]
  refine ay ?_
  refine .aq fds [6] ?_
  refine .dn ?_
  refine .pack (L:=[an (Sx.mk sb (nameOf l.pre l.next.toNat) ((l.next.toNat:Nat):Int) ([]++[b]) tm ta tc ua uc).b ((Sx.mk sb (nameOf l.pre l.next.toNat) ((l.next.toNat:Nat):Int) ([]++[b]) tm ta tc ua uc).cells db) 110,arr 112 4 ta tc (Sx.mk sb (nameOf l.pre l.next.toNat) ((l.next.toNat:Nat):Int) ([]++[b]) tm ta tc ua uc).rows,arr 3 1 ua uc (tm.flatMap fI)]) (.cons .p2 (.cons .p2 (.cons .p2 .nil))) ?_
  refine .close (X:=cD (SG db) (l.roll sb b tm ta tc ua uc qa qc).ar) .JQ (fun h H=>iF (bX:=l.ar) (s:=(l.roll sb b tm ta tc ua uc qa qc).ai) H) ?_
  refine .perm .mL ?_
  refine .ca (arr 54 1 qa qc ((l.roll sb b tm ta tc ua uc qa qc).ar.flatMap sp)) (by rw[Bb];show _=arr 54 1 qa qc (((l.ar++[_]).map fun s:Sx=>s.b).flatMap yp);rw[List.map_append];rfl) ?_
  refine .perm .mL ?_
  refine .ca (an l.lb ((l.roll sb b tm ta tc ua uc qa qc).cells db) 57) (by rw[List.length_append,List.length_map];rfl) ?_
  refine .pack (L:=[an l.lb ((l.roll sb b tm ta tc ua uc qa qc).cells db) 57,arr 54 1 qa qc ((l.roll sb b tm ta tc ua uc qa qc).ar.flatMap sp),cD (SG db) (l.roll sb b tm ta tc ua uc qa qc).ar]) .ez ?_
  refine .aG Tryz.func80 (.t1 rfl) .oP ?_
  exact⟨[_,_,_],⟨rfl,.inr ⟨rA,sb,tm,ta,tc,ua,uc,qa,qc,Pn,KB,rfl⟩⟩,rfl⟩
 ·
  refine .rd (.j4 bi aO rfl .p0 rfl) ?_
  refine .fn rfl rfl .nil ah (vj b a c (by omega) (by omega) (by omega)) (fun v G1 hq=>?_)
  obtain⟨rfl,rfl⟩:=hq
  simp only[ae]
  refine .rd (.gt rfl rfl) ?_
  refine .al 27 (.bool false) rfl (aE (by omega)) ?_
  refine .aH fds 5 ?_
  refine .dr [3,8,14,19] [an l.lb (l.cells db) 57] ?_
  refine .aq fds [0] ?_
  refine .aq fds [1] ?_
  refine .aq fds [2] ?_
  refine .re 3 rfl (.ld aN rfl .p0 rfl) .q5 ?_
  refine .aq fds [5] ?_
  refine .aq fds [6] ?_
  refine .aq fds [7] ?_
  refine .re 8 rfl (.ld ak rfl .p0 rfl) .q5 ?_
  refine .eg 4 rfl (.fn rfl rfl (.cons .p7 (.cons .p7 .nil)) ((af.an .p1).and ((af.arr .p2).and (af.arr .p3))) (nw db mb d l.ai)) ?_
  rintro v _ ⟨G1,hq,rfl⟩
  obtain⟨rfl,rfl⟩:=hq
  simp only[ag,ae]
  refine⟨.inr ⟨_,.q7⟩,?_⟩
  refine .aq fds [9] ?_
  refine .al 37 (.bool false) rfl (aE rA) ?_
  refine .aq fds [10] ?_
  refine .aq fds [11] ?_
  refine .aq fds [12] ?_
  refine .aq fds [13] ?_
  refine .vR 14 (t:=38) rfl rfl rfl rfl (by kernel_rfl) (by kernel_rfl) (by kernel_rfl) (.ld aN rfl .p0 rfl) .q7 ?_
  refine .aq fds [16] ?_
  refine .aq fds [17] ?_
  refine .aq fds [18] ?_
  refine .vR 19 (t:=38) rfl rfl rfl rfl (by kernel_rfl) (by kernel_rfl) (by kernel_rfl) (.ld aN rfl .p0 rfl) .q7 ?_
  refine .GD 15 (t:=38) (by kernel_rfl) rfl rfl rfl (.fn rfl rfl .nil ((af.an .p3).and ((af.arr .p4).and (af.arr .p5))) (bZ db l.ai iG)) ?_
  rintro v _ ⟨G1,hq,rfl⟩
  obtain⟨rfl,rfl⟩:=hq
  simp only[ae]
  refine⟨.inr ⟨_,.q7⟩,?_⟩
  refine .GD 20 (t:=38) (by kernel_rfl) rfl rfl rfl (.fn rfl rfl .nil ((af.an .p3).and ((af.arr .p4).and (af.arr .p5))) (k6 db l.ai)) ?_
  rintro v _ ⟨G1,hq,rfl⟩
  obtain⟨rfl,rfl⟩:=hq
  simp only[ae]
  refine ay ?_
  refine .BB 21 (t:=38) rfl rfl rfl (by kernel_rfl) (by kernel_rfl) (by kernel_rfl) (Reads.pure (.sub rfl rfl (by omega) (by omega))) ?_
  refine .aq fds [22] ?_
  refine .al 50 (.bool false) rfl (aE (by show¬_;have:l.next=l.ai.next:=rfl;omega)) ?_
  refine .aq fds [23] ?_
  refine .aq fds [24] ?_
  refine .dn ?_
  refine .seq ?_
  refine .dr [5,10] [an l.lb (l.cells db) 57] ?_
  refine .aq fds [0] ?_
  refine .aq fds [1,2,3,4,5,6,7,8,9,10,11,12] ?_
  refine .aq fds [13] ?_
  refine .dn ?_
  refine .go fds 3 ?_
  refine .dr [3,4] [an l.lb (l.cells db) 57,an b3 (b.cells a c) 41] ?_
  refine .aq fds [0] ?_
  refine .aq fds [1] ?_
  refine .aq fds [2] ?_
  refine .re 3 rfl (.ld aN rfl .p0 rfl) (.cons .p7 (.cons .p2 .nil)) ?_
  refine .re 4 rfl (.j4 bi aO rfl .p1 rfl) (.cons .p7 (.cons .p2 .nil)) ?_
  refine .eg 5 rfl (.fn rfl rfl (.cons .p0 (.cons .p0 (.cons .p1 (.cons .p1 (.cons .p1 .nil))))) ((af.pick .p4 (k.mono fun _ h=>h.2))) (tL db mb d l.ai b a c hd iG hb oA yX (by rw[IL];exact jM hl.pre (by have:=iG.ed;have:=iG.bC;omega)) QI M6 fu)) ?_
  rintro v _ ⟨G1,hq,rfl⟩
  obtain⟨rfl,tm,ta,tc,ua,uc,Pn,KB,rfl⟩:=hq
  simp only[ag,ae]
  refine ay ?_
  refine .aq fds [6] ?_
  refine .dn ?_
  refine .pack (L:=[an (Sx.mk l.ai.b l.ai.nm l.ai.base (l.ai.bs++[b]) tm ta tc ua uc).b ((Sx.mk l.ai.b l.ai.nm l.ai.base (l.ai.bs++[b]) tm ta tc ua uc).cells db) 110,arr 112 4 ta tc (Sx.mk l.ai.b l.ai.nm l.ai.base (l.ai.bs++[b]) tm ta tc ua uc).rows,arr 3 1 ua uc (tm.flatMap fI)]) (.cons .p2 (.cons .p2 (.cons .p2 .nil))) ?_
  refine .close (X:=cD (SG db) (l.grow b tm ta tc ua uc).ar) .Lt (fun h H=>iF (bX:=l.bX) (s:=(l.grow b tm ta tc ua uc).ai) H) ?_
  refine .perm .iC ?_
  refine .ca (arr 54 1 l.la l.lc ((l.grow b tm ta tc ua uc).ar.flatMap sp)) (by rw[Ib]) ?_
  refine .perm .iC ?_
  refine .ca (an l.lb ((l.grow b tm ta tc ua uc).cells db) 57) (rfl) ?_
  refine .pack (L:=[an l.lb ((l.grow b tm ta tc ua uc).cells db) 57,arr 54 1 l.la l.lc ((l.grow b tm ta tc ua uc).ar.flatMap sp),cD (SG db) (l.grow b tm ta tc ua uc).ar]) .ez ?_
  refine .aG Tryz.func80 (.t1 rfl) .oP ?_
  exact⟨[_,_,_],⟨rfl,.inl ⟨rA,tm,ta,tc,ua,uc,Pn,KB,rfl⟩⟩,rfl⟩
def KK(db mb:Nat)(d:Dk)(l:Lx)(b:aQ)(G:List aj):Prop:=(¬l.most≤((d.file l.ai.nm).b.length:Int)∧∃sm aa ac ia ic,Ix sm (l.ai.bs.length+1)∧l.ai.bs.length+1≤ac∧G=[LG db (l.grow b sm aa ac ia ic),an db ((d.put l.ai.nm ⟨(d.file l.ai.nm).b++enc b,(d.file l.ai.nm).safe⟩).cells mb) 74,mp aW Fl.val mb (d.put l.ai.nm ⟨(d.file l.ai.nm).b++enc b,(d.file l.ai.nm).safe⟩).fs])∨(l.most≤((d.file l.ai.nm).b.length:Int)∧∃sb sm aa ac ia ic qa qc,Ix sm 1∧1≤ac∧G=[LG db (l.roll sb b sm aa ac ia ic qa qc),an db ((((d.put l.ai.nm ⟨(d.file l.ai.nm).b,(d.file l.ai.nm).b.length⟩).put (nameOf l.pre l.next.toNat) ⟨flat [],(flat []).length⟩).put (nameOf l.pre l.next.toNat) ⟨(((d.put l.ai.nm ⟨(d.file l.ai.nm).b,(d.file l.ai.nm).b.length⟩).put (nameOf l.pre l.next.toNat) ⟨flat [],(flat []).length⟩).file (nameOf l.pre l.next.toNat)).b++enc b,(((d.put l.ai.nm ⟨(d.file l.ai.nm).b,(d.file l.ai.nm).b.length⟩).put (nameOf l.pre l.next.toNat) ⟨flat [],(flat []).length⟩).file (nameOf l.pre l.next.toNat)).safe⟩).cells mb) 74,mp aW Fl.val mb (((d.put l.ai.nm ⟨(d.file l.ai.nm).b,(d.file l.ai.nm).b.length⟩).put (nameOf l.pre l.next.toNat) ⟨flat [],(flat []).length⟩).put (nameOf l.pre l.next.toNat) ⟨(((d.put l.ai.nm ⟨(d.file l.ai.nm).b,(d.file l.ai.nm).b.length⟩).put (nameOf l.pre l.next.toNat) ⟨flat [],(flat []).length⟩).file (nameOf l.pre l.next.toNat)).b++enc b,(((d.put l.ai.nm ⟨(d.file l.ai.nm).b,(d.file l.ai.nm).b.length⟩).put (nameOf l.pre l.next.toNat) ⟨flat [],(flat []).length⟩).file (nameOf l.pre l.next.toNat)).safe⟩).fs])
def sb(n:Nat)(u:Int):aQ:={KH n with base:=u}
theorem k9(n:Nat)(u:Int):(sb n u).aS.length=n:=List.length_replicate ..
theorem M7(n:Nat)(u:Int):(sb n u).en=u+n:=by unfold aQ.en;rw[k9];rfl
theorem oE{n:Nat}{u:Int}{r:Rec}(h:r∈(sb n u).aS):r=nE:=List.eq_of_mem_replicate h
theorem Bc{n:Nat}{u:Int}(hn:n≤64)(h0:0≤u)(h1:u≤1000000000):(sb n u).fits:=by
 refine⟨⟨by show _≤u;omega,by show u≤_;omega⟩,⟨by show _≤(1:Int);decide,by show(1:Int)≤_;decide⟩,⟨by show _≤(0:Int);decide,by show(0:Int)≤_;decide⟩,⟨by show _≤(0:Int);decide,by show(0:Int)≤_;decide⟩,⟨by show _≤(0:Int);decide,by show(0:Int)≤_;decide⟩,fun r hr=>?_,fun r hr=>?_,fun r hr=>?_,by rw[k9];omega⟩
 ·
  rw[oE hr];exact⟨by decide,by decide⟩
 ·
  rw[oE hr];decide
 ·
  rw[oE hr];decide
theorem Jq:(bW nE).length=8:=by
 unfold bW nE aF
 rw[show AB 0=0 from rfl,show AB ((([]:List UInt8).length:Nat):Int)=0 from rfl,show AB ((([118,97,108,117,101]:List UInt8).length:Nat):Int)=10 from rfl,fY (by decide),fY (by decide)]
 rfl
theorem Bd{n:Nat}{u:Int}(hn:n≤64)(h0:0≤u)(h1:u≤1000000000):(body (sb n u)).length≤60+n*8:=by
 have h2:=pG (Bc hn h0 h1) 6
 rw[show(j5 (sb n u)).take 6=j5 (sb n u)from rfl]at h2
 have h3:=eW (f:=bW) (k:=8) (sb n u).aS fun r hr=>by rw[oE hr,Jq];exact Nat.le_refl _
 rw[k9]at h3
 rw[qI,List.length_append];omega
theorem Fo{n:Nat}{u:Int}(N2:1≤n)(hn:n≤64)(h0:0≤u)(h1:u≤100000000):right (sb n u)=0:=by
 have hb:=Bd hn h0 (show u≤1000000000 by omega)
 rw[kx (b:=sb n u) _ (fun r hr=>by rw[oE hr];exact⟨by decide,by decide⟩),if_neg (by rw[k9];omega),if_neg,if_neg,if_neg (by omega)]
 ·
  rw[k9];show¬(_<u∨_<(0:Int));omega
 ·
  intro h
  obtain⟨r,hr,h2⟩:=List.any_eq_true.1 h
  rw[oE hr]at h2;exact absurd h2 (by decide)
 ·
  unfold aQ.off
  rw[k9]
  show¬(u<0∨¬((0:Int)≤1∧(1:Int)≤1000000000)∨¬((0:Int)≤0∧(0:Int)≤1000000000)∨¬((0:Int)≤0∧(0:Int)≤1000000000)∨¬((0:Int)≤0∧(0:Int)≤1000000000)∨((0:Int)=0∧((0:Int)≠0∨(0:Int)≠0))∨n=0)
  omega
theorem IM{n:Nat}{u:Int}(N2:1≤n)(hn:n≤64)(h0:0≤u)(h1:u≤100000000):(sb n u).aT:=⟨Fo N2 hn h0 h1,Bc hn h0 (by omega),by rw[M7];omega⟩
theorem Po{n:Nat}{u:Int}(N2:1≤n)(hn:n≤64)(h0:0≤u)(h1:u≤100000000):(enc (sb n u)).length≤68+n*8:=by
 rw[(IM N2 hn h0 h1).pJ];have:=Bd hn h0 (show u≤1000000000 by omega);omega
structure jX(l:Lx)(d:Dk)(b:aQ)(l':Lx)(d':Dk):Prop where
 ok:l'.ok d'
 cS:d'.ok
 lb:l'.lb=l.lb
 pre:l'.pre=l.pre
 most:l'.most=l.most
 start:l'.start=l.start
 aJ:l'.aJ=l.aJ
 all:l'.all=l.all++[b]
 base:a8 l'=a8 l
 next:l'.next=b.en
 size:d'.size=d.size
 used:d'.used=d.used+(enc b).length
 len:d'.fs.length≤d.fs.length+1
 own:mv l' d'
 full:Full l d→Full l' d'
 eF:∀n,(∀u,u≤1000000000→n≠nameOf l.pre u)→d'.file n=d.file n∧d'.get n=d.get n
 QJ:(¬l.most≤((d.file l.ai.nm).b.length:Int)∧l'.bX=l.bX∧l'.ai.bs=l.ai.bs++[b]∧l'.ai.base=l.ai.base∧l'.ai.nm=l.ai.nm∧(d'.file l'.ai.nm).safe=(d.file l.ai.nm).safe)∨(l.most≤((d.file l.ai.nm).b.length:Int)∧l'.bX=l.ar∧l'.ai.bs=[b]∧l'.ai.base=l.next∧(d'.file l'.ai.nm).safe=0)
theorem Cu{l:Lx}{d:Dk}(h:l.ok d):(l.ai.bs.length:Int)≤l.next-l.ai.base:=by
 have key:∀(bs:List aQ) (n:Int),bS n bs→(∀b∈bs,b.aT)→(bs.length:Int)≤aC n bs-n:=by
  intro bs
  induction bs with
  |nil=>intro n _ _;show(0:Int)≤n-n;omega
  |cons b bs ih=>
   intro n hc hg
   have h1:=ih b.en hc.2 fun x hx=>hg x (.tail _ hx)
   have h2:=(hg b (.head _)).lt
   have h3:b.base=n:=hc.1
   rw[List.length_cons]
   show((bs.length+1:Nat):Int)≤aC b.en bs-n
   omega
 exact key _ _ h.ai.1.chain h.ai.1.aT
theorem xC{l:Lx}{d:Dk}(hl:l.ok d)(ho:mv l d)(f:Fl)(hf:f.b=(d.file l.ai.nm).b):((d.put l.ai.nm f).file (nameOf l.pre l.next.toNat)).b=[]:=by
 obtain⟨h1,h2,h3,h4⟩:=hl.ai
 have mi:=h1.bC
 have yg:=h1.kY
 have hle:=h1.eC
 have Gj:l.next=l.ai.next:=rfl
 have tM:∀s∈l.ar,s.base.toNat=l.next.toNat→l.ai.bs=[]:=fun s hs e=>by
  rcases List.mem_append.1 hs with hs|hs
  ·
   have:=hl.lt.2 s hs;have:=(hl.bX s hs).1.bC;omega
  ·
   rw[List.mem_singleton.1 hs]at e
   by_cases dx:l.ai.bs=[]
   ·
    exact dx
   ·
    have:=gY h1 dx;omega
 by_cases hn:nameOf l.pre l.next.toNat=l.ai.nm
 ·
  rw[hn,Dk.aV,hf,h4]
  rw[h2]at hn
  rw[tM l.ai l.cJ (ci hn).symm];rfl
 ·
  rw[(Dk.aK _ _ hn).1]
  cases hg:(d.get (nameOf l.pre l.next.toNat)).isSome with
  |false=>rw[Dk.dJ hg];rfl
  |true=>
   obtain⟨s,hs,e⟩:=ho _ (by omega) hg
   rw[←e,←(hl.gN s hs).2.1,(hl.gN s hs).2.2.2]
   have hc:=tM s hs e
   rcases List.mem_append.1 hs with hi|hi
   ·
    have:=hl.lt.2 s hi;have:=(hl.bX s hi).1.bC;omega
   ·
    rw[List.mem_singleton.1 hi,hc];rfl
theorem jX.of{db mb:Nat}{d:Dk}{l:Lx}{b:aQ}{G:List aj}(hd:d.ok)(hl:l.ok d)(ho:mv l d)(hb:b.aT)(hn:b.base=l.next)(yX:l.ai.bs.length<4096)(hlen:l.ar.length<100000)(fu:d.used+(enc b).length≤d.size)(h:KK db mb d l b G):∃l' d',jX l d b l' d'∧G=[LG db l',an db (d'.cells mb) 74,mp aW Fl.val mb d'.fs]:=by
 obtain⟨c1,c2,c3,c4⟩:=hl.ai
 have Lz:=Dk.nW hd l.ai.nm
 have hle:=c1.eC
 have yg:=c1.kY
 have mi:=c1.bC
 have Gj:l.next=l.ai.next:=rfl
 rcases h with⟨hm,sm,aa,ac,ia,ic,iJ,qT,rfl⟩|⟨hm,sb,sm,aa,ac,ia,ic,qa,qc,iJ,qT,rfl⟩
 ·
  refine⟨l.grow b sm aa ac ia ic,d.put l.ai.nm ⟨(d.file l.ai.nm).b++enc b,(d.file l.ai.nm).safe⟩,?_,rfl⟩
  have hu:=Dk.cf hd l.ai.nm ⟨(d.file l.ai.nm).b++enc b,(d.file l.ai.nm).safe⟩
  dsimp only at hu
  rw[List.length_append]at hu
  refine⟨Ic hl hb hn yX iJ qT,Dk.dN hd (by dsimp only;rw[List.length_append];omega) (by dsimp only;rw[List.length_append];omega),rfl,rfl,rfl,rfl,rfl,EH ..,ol ..,oh ..,rfl,by omega,gC _ _ _,fun u hu hg=>?_,fun hf s hs=>?_,fun n hn=>Dk.aK _ _ fun e=>hn l.ai.base.toNat (by omega) (e.trans c2),.inl ⟨hm,rfl,rfl,rfl,rfl,by show((d.put l.ai.nm _).file l.ai.nm).safe=_;rw[Dk.aV]⟩⟩
  ·
   have Cs:(d.get (nameOf l.pre u)).isSome=true:=by
    by_cases hx:nameOf l.pre u=l.ai.nm
    ·
     rw[hx];exact c3
    ·
     rw[←(Dk.aK d _ hx).2];exact hg
   obtain⟨s,hs,e⟩:=ho u hu Cs
   rcases List.mem_append.1 hs with hs|hs
   ·
    exact⟨s,List.mem_append_left _ hs,e⟩
   ·
    rw[List.mem_singleton.1 hs]at e
    exact⟨_,List.mem_append_right _ (.head _),e⟩
  ·
   rw[(Dk.aK d _ (hl.kG hs)).1];exact hf s hs
 ·
  generalize Lr:(⟨(d.file l.ai.nm).b,(d.file l.ai.nm).b.length⟩:Fl)=f1
  have AF:(d.put l.ai.nm f1).ok:=by rw[←Lr];exact Dk.dN hd (by dsimp only;have:=hd.used;omega) (Nat.le_refl _)
  have gE:f1.b=(d.file l.ai.nm).b:=by rw[←Lr]
  have N3:=Dk.cf hd l.ai.nm f1
  rw[gE]at N3
  have qq:=xC hl ho f1 gE
  have Gl:=Dk.cf AF (nameOf l.pre l.next.toNat) ⟨flat [],(flat []).length⟩
  rw[qq,List.length_nil]at Gl
  have DQ:((d.put l.ai.nm f1).put (nameOf l.pre l.next.toNat) ⟨flat [],(flat []).length⟩).ok:=Dk.dN AF (by have:=AF.used;show _+0≤_;omega) (Nat.le_refl _)
  generalize LB:(d.put l.ai.nm f1).put (nameOf l.pre l.next.toNat) ⟨flat [],(flat []).length⟩=d2 at*
  have Ji:d2.file (nameOf l.pre l.next.toNat)=⟨flat [],(flat []).length⟩:=by rw[←LB,Dk.aV]
  have Mo:d2.size=d.size:=by rw[←LB];rfl
  rw[Ji]
  have Pp:=Dk.cf DQ (nameOf l.pre l.next.toNat) ⟨flat []++enc b,(flat []).length⟩
  rw[Ji]at Pp
  have hz:(flat []).length=0:=rfl
  dsimp only at Pp Gl
  rw[List.length_append]at Pp
  have KJ:∀s∈l.ar,s.nm≠nameOf l.pre l.next.toNat:=fun s hs e=>by
   have dx:l.ai.bs≠[]:=fun e=>by rw[c4,e]at hm;have:=hl.most;omega
   have MV:=gY c1 dx
   obtain⟨k1,k2,_,_⟩:=hl.gN s hs
   rw[k2]at e
   have:=ci e
   have:=k1.bC
   rcases List.mem_append.1 hs with hs|hs
   ·
    have:=hl.lt.2 s hs;omega
   ·
    have MW:=List.mem_singleton.1 hs;subst MW;omega
  have eF:∀n,n≠nameOf l.pre l.next.toNat→(d2.put (nameOf l.pre l.next.toNat) ⟨flat []++enc b,(flat []).length⟩).file n=(d.put l.ai.nm f1).file n∧(d2.put (nameOf l.pre l.next.toNat) ⟨flat []++enc b,(flat []).length⟩).get n=(d.put l.ai.nm f1).get n:=fun n dx=>by
   obtain⟨a1,a2⟩:=Dk.aK d2 ⟨flat []++enc b,(flat []).length⟩ dx
   obtain⟨b1,b2⟩:=Dk.aK (d.put l.ai.nm f1) ⟨flat [],(flat []).length⟩ dx
   rw[LB]at b1 b2
   exact⟨a1.trans b1,a2.trans b2⟩
  refine⟨l.roll sb b sm aa ac ia ic qa qc,d2.put (nameOf l.pre l.next.toNat) ⟨flat []++enc b,(flat []).length⟩,?_,rfl⟩
  refine⟨Ie hl hb hn hm hlen iJ qT rfl LB.symm rfl gE rfl,Dk.dN DQ (by dsimp only;rw[List.length_append,Mo];omega) (Nat.zero_le _),rfl,rfl,rfl,rfl,rfl,EI ..,oq ..,om ..,Mo,by omega,?_,fun u hu hg=>?_,fun hf s hs=>?_,fun n hn=>?_,.inr ⟨hm,rfl,rfl,by show((l.next.toNat:Nat):Int)=l.next;omega,by show((d2.put _ _).file (nameOf l.pre l.next.toNat)).safe=0;rw[Dk.aV];rfl⟩⟩
  ·
   have e1:(d2.put (nameOf l.pre l.next.toNat) ⟨flat []++enc b,(flat []).length⟩).fs.length=d2.fs.length:=gD (by rw[←LB];exact Dk.cB _ _ _)
   have e2:(d.put l.ai.nm f1).fs.length=d.fs.length:=gD c3
   have e3:d2.fs.length≤(d.put l.ai.nm f1).fs.length+1:=by rw[←LB];exact gC _ _ _
   omega
  ·
   by_cases hx:nameOf l.pre u=nameOf l.pre l.next.toNat
   ·
    refine⟨(l.roll sb b sm aa ac ia ic qa qc).ai,(l.roll sb b sm aa ac ia ic qa qc).cJ,?_⟩
    show((l.next.toNat:Nat):Int).toNat=u
    rw[Int.toNat_natCast];exact(ci hx).symm
   ·
    have Sh:((d.put l.ai.nm f1).get (nameOf l.pre u)).isSome=true:=by rw[←(eF _ hx).2];exact hg
    have Cs:(d.get (nameOf l.pre u)).isSome=true:=by
     by_cases hy:nameOf l.pre u=l.ai.nm
     ·
      rw[hy];exact c3
     ·
      rw[←(Dk.aK d f1 hy).2];exact Sh
    obtain⟨s,hs,e⟩:=ho u hu Cs
    exact⟨s,List.mem_append_left _ hs,e⟩
  ·
   rw[(eF s.nm (KJ s hs)).1]
   rcases List.mem_append.1 hs with hi|hi
   ·
    rw[(Dk.aK d f1 (hl.kG hi)).1];exact hf s hi
   ·
    rw[List.mem_singleton.1 hi,Dk.aV,←Lr]
  ·
   obtain⟨a1,a2⟩:=eF n (hn _ (by omega))
   obtain⟨b1,b2⟩:=Dk.aK d f1 (show n≠l.ai.nm from fun e=>hn l.ai.base.toNat (by omega) (e.trans c2))
   exact⟨a1.trans b1,a2.trans b2⟩
theorem Fp(db mb:Nat)(d:Dk)(l:Lx)(b:aQ)(a:Option Addr)(c:Nat)(hd:d.ok)(hl:l.ok d)(ho:mv l d)(hb:b.aT)(oA:b.base=l.next)(hn:l.next<4096)(fu:d.used+(enc b).length≤d.size)(KI:d.fs.length<255)(hlen:l.ar.length<100000):Cn Tryz.prog 80 [.pointer (some ⟨l.lb,0,none⟩),.agg (b.cells a c).toArray] (fun w=>LV w∧aD a (b.aS.flatMap Rec.cells) w) [LG db l,an db (d.cells mb) 74,mp aW Fl.val mb d.fs] fun v G=>∃l' d',v=.int .i64 0∧jX l d b l' d'∧G=[LG db l',an db (d'.cells mb) 74,mp aW Fl.val mb d'.fs]:=by
 have Da:=Cu hl
 have mi:=hl.ai.1.bC
 refine(IK db mb d l b a c hd hl hb oA (by omega) (by omega) fu KI (xC hl ho _ rfl) ?_).mono fun v G h=>?_
 ·
  have:(d.put l.ai.nm ⟨(d.file l.ai.nm).b,(d.file l.ai.nm).b.length⟩).fs.length=d.fs.length:=gD hl.ai.2.2.1
  omega
 ·
  obtain⟨hv,h⟩:=h
  obtain⟨l',d',h1,h2⟩:=jX.of hd hl ho hb oA (by omega) hlen fu h
  exact⟨l',d',hv,h1,h2⟩
def pR(s:Sx)(off:Int)(i:Nat):Bool:=decide (off<((s.bs[s.sm.getD i 0]?).map (·.base)).getD 0)
theorem xD{s:Sx}{off:Int}{i j:Nat}{b:aQ}(hj:s.sm[i]?=some j)(hb:s.bs[j]?=some b):pR s off i=decide (off<b.base):=by
 unfold pR;rw[List.getD_eq_getElem?_getD,hj];show decide (off<((s.bs[j]?).map (·.base)).getD 0)=_;rw[hb];rfl
theorem Sx.IN{s:Sx}(h:s.ok){i:Nat}(hi:i<s.sm.length):∃j b,s.sm[i]?=some j∧s.bs[j]?=some b:=by
 have hl:=h.ix.lt s.sm[i] (List.getElem_mem hi)
 exact⟨_,_,List.getElem?_eq_getElem hi,List.getElem?_eq_getElem hl⟩
theorem IP{s:Sx}(h:s.ok){off:Int}(a b:Nat)(DY:a≤b)(hb:b<s.sm.length)(hp:pR s off a=true):pR s off b=true:=by
 obtain⟨j,x,h1,h2⟩:=Sx.IN h (i:=a) (by omega)
 obtain⟨j',y,h3,h4⟩:=Sx.IN h hb
 rw[xD h1 h2]at hp;rw[xD h3 h4]
 have hj:j≤j':=by
  rcases Nat.lt_or_eq_of_le DY with cO|rfl
  ·
   have:=List.pairwise_iff_getElem.1 h.ix.up a b (by omega) hb cO
   rw[List.getElem?_eq_getElem (by omega)]at h1 h3
   cases h1;cases h3;omega
  ·
   rw[h1]at h3;cases h3;exact Nat.le_refl _
 have:=Sx.BW h h2 h4 hj
 exact decide_eq_true (by have:=of_decide_eq_true hp;omega)
theorem M8{db bx tF:Nat}{s:Sx}{z:Int}(h:s.ok)(i:Nat)(hi:i<s.sm.length):Cn Tryz.prog 84 [.int .i64 (i:Nat),.pointer (some ⟨bx,0,none⟩),.pointer (some ⟨tF,0,none⟩)] (fun w=>aL bx 0 [.pointer (some ⟨s.b,0,none⟩)] w∧aL tF 0 [.int .i64 z] w∧iS db s w) [] fun v G=>v=.bool (pR s z i)∧G=[]:=by
 obtain⟨j,b,h1,h2⟩:=Sx.IN h hi
 rw[xD h1 h2]
 exact ES db bx tF i j s z b h (by have:=Sx.AJ h;have:=h.len;omega) h1 h2
theorem Cv{s:Sx}(h:s.ok){off most:Int}(h0:s.base≤off)(hp:∀q,0≤q→q<s.sm.length→pR s off q=true):aH off most 0 [] s.bs=[]:=by
 by_cases hn:0<s.bs.length
 ·
  have h1:=h.ix.zero hn
  have h2:=List.getElem?_eq_some_iff.1 h1
  have h3:=hp 0 (Nat.le_refl _) h2.1
  obtain⟨b,hb⟩:∃b,s.bs[0]?=some b:=⟨_,List.getElem?_eq_getElem hn⟩
  rw[xD h1 hb]at h3
  have h4:=Sx.uL h hb
  have h5:aC s.base (s.bs.take 0)=s.base:=rfl
  have:=of_decide_eq_true h3;omega
 ·
  have:s.bs=[]:=List.eq_nil_of_length_eq_zero (by omega)
  rw[this];rfl
theorem tN{b:aQ}(hb:b.aT)(a:Option Addr)(c:Nat):Value.tuple #[.agg ((aX (enc b)).1.cells a c).toArray,.int .i64 (aX (enc b)).2.1,.int .i64 (aX (enc b)).2.2]=.tuple #[.agg (b.cells a c).toArray,.int .i64 ((enc b).length:Int),.int .i64 0]:=by
 have:=lS hb.fits hb.right []
 rw[List.append_nil]at this
 unfold enc;rw[this]
theorem tO{b:aQ}(hb:b.aT):(aX (enc b)).1.aS=b.aS:=by
 have:=lS hb.fits hb.right []
 rw[List.append_nil]at this
 unfold enc;rw[this]
theorem rL(db mb:Nat)(d:Dk)(s:Sx)(off most:Int)(hs:s.ok)(hx:(d.get s.nm).isSome=true)(hf:(d.file s.nm).b=flat s.bs)(ho:i64 off):Cn Tryz.prog 47 [.pointer (some ⟨s.b,0,none⟩),.int .i64 off,.int .i64 most] (iS db s) [an db (d.cells mb) 74,mp aW Fl.val mb d.fs] fun v G=>∃(bl:List lp) (ra:Option Addr) (rc:Nat),bl.map (·.1)=gU s off most∧v=.slice ra bl.length rc∧G=[an db (d.cells mb) 74,mp aW Fl.val mb d.fs,arr 41 6 ra rc (bl.flatMap mZ),bF (qS bl)]:=by
 refine .en Tryz.func47 fun R k=>?_
 have hl:=hs.len
 have oS:=Sx.AJ hs
 have iA:=hs.cap
 have ym:=hs.kC
 have mi:=hs.bC
 obtain⟨Pq,CR⟩:=ho
 refine .ax fds 2 ?_
 refine .ef (.box (l:=[.pointer (some ⟨s.b,0,none⟩)]) rfl rfl (aB.of rfl)) ?_
 rintro _ _ ⟨b3,rfl,rfl⟩
 refine .ef (.box (l:=[.int .i64 off]) rfl rfl (aB.of rfl)) ?_
 rintro _ _ ⟨b4,rfl,rfl⟩
 refine .aH fds 4 ?_
 refine .dr [0,1,4] [an b3 [.pointer (some ⟨s.b,0,none⟩)] 54,an b4 [.int .i64 off] 3,R] ?_
 refine .re 0 rfl (.ld ak rfl .p1 rfl) (.cons .p1 (.cons .p0 (.cons .p2 .nil))) ?_
 refine .re 1 rfl (.ld aN rfl .p0 rfl) (.cons .p1 (.cons .p0 (.cons .p2 .nil))) ?_
 refine .aq fds [2] ?_
 refine .aq fds [3] ?_
 refine .re 4 rfl (.load ak rfl (af.one (i:=2) (af.pick .p2 (k.mono fun _ h=>h.1)) rfl)) (.cons .p1 (.cons .p0 (.cons .p2 .nil))) ?_
 refine .aq fds [5] ?_
 refine .dn ?_
 refine .aM rfl (fun c1=>?_) (fun c1=>?_)
 ·
  refine .go fds 4 ?_
  refine .cq 41 6 none ?_
  refine .lB (qS []) (qS.nil) ?_
  refine .aG Tryz.func47 (.t1 rfl) (.cons .p4 (.cons .p4 (.cons .p1 (.cons .p0 (.cons .p2 .nil))))) ?_
  exact⟨[_,_,_,_],⟨[],none,0,(if_pos c1).symm,rfl,rfl⟩,rfl⟩
 ·
  refine .go fds 2 ?_
  refine .dr [0,3,4,7] [an b3 [.pointer (some ⟨s.b,0,none⟩)] 54,R] ?_
  refine .re 0 rfl (.ld aN rfl .p0 rfl) .Ms ?_
  refine .aq fds [1] ?_
  refine .aq fds [2] ?_
  refine .re 3 rfl (.load dh rfl (af.one (i:=0) (af.pick .p1 (k.mono fun _ h=>h.1)) rfl)) .Ms ?_
  refine .re 4 rfl (.ld aN rfl .p0 rfl) .Ms ?_
  refine .aq fds [5] ?_
  refine .aq fds [6] ?_
  refine .re 7 rfl (.load aR rfl (af.one (i:=1) (af.pick .p1 (k.mono fun _ h=>h.1)) rfl)) .Ms ?_
  refine .eg 8 rfl (.fn rfl rfl .Jj ah (jN db mb d s.nm)) ?_
  rintro v _ ⟨G1,hq,rfl⟩
  obtain⟨rfl,rfl⟩:=hq
  simp only[ag,ae]
  refine ay ?_
  refine .al 32 (.tuple #[.string (str (flat s.bs)),.int .i64 0]) rfl (by rw[hf,if_pos hx]) ?_
  refine .aq fds [9] ?_
  refine .aq fds [10] ?_
  refine .aq fds [11] ?_
  refine .aq fds [12] ?_
  refine .aq fds [13] ?_
  refine .dn ?_
  refine .ax fds 2 ?_
  refine .rd (.ld aN rfl .p3 rfl) ?_
  refine .go fds 2 ?_
  refine .rd (.load iQ rfl (af.one (i:=4) (af.pick .p4 (k.mono fun _ h=>h.1)) rfl)) ?_
  refine .rd (.bP rfl rfl Tryz.underlying31 rfl) ?_
  refine .rd (.makeFunc (cs:=[.pointer (some ⟨b3,0,none⟩),.pointer (some ⟨b4,0,none⟩)]) rfl rfl) ?_
  refine .fn rfl rfl .nil ((af.an .p3).and ((af.an .p2).and (af.pick .p4 k))) (oz s.sm.length (by omega) (pR s off) (IP hs) (fun w=>aL b3 0 [.pointer (some ⟨s.b,0,none⟩)] w∧aL b4 0 [.int .i64 off] w∧iS db s w) 84 #[.pointer (some ⟨b3,0,none⟩),.pointer (some ⟨b4,0,none⟩)] (M8 hs)) (fun v G1 hq=>?_)
  obtain⟨z,hz,D9,AO,rfl,rfl⟩:=hq
  simp only[ae]
  refine .rd (.sub rfl rfl (by omega) (by omega)) ?_
  refine .aH fds 8 ?_
  refine .aM rfl (fun c5=>?_) (fun c5=>?_)
  ·
   refine .go fds 4 ?_
   refine .cq 41 6 none ?_
   refine .lB (qS []) (qS.nil) ?_
   refine .aG Tryz.func47 (.t1 rfl) (.cons .p2 (.cons .p2 (.cons .p1 (.cons .p0 (.cons .p2 .nil))))) ?_
   exact⟨[_,_,_,_],⟨[],none,0,((if_neg c1).trans (Cv hs (by omega) fun q _ hq=>AO q (by omega) hq)).symm,rfl,rfl⟩,rfl⟩
  ·
   refine .go fds 2 ?_
   have Pr:0<z:=by omega
   obtain⟨j,y,hj,hy⟩:=Sx.IN hs (i:=z-1) (by omega)
   have Si:y.base≤off:=by have:=D9 (z-1) (by omega);rw[xD hj hy]at this;have:=of_decide_eq_false this;omega
   have BF:=(List.getElem?_eq_some_iff.1 hy).1
   have M9:=Sx.skip hs hy Si most
   refine .tell (φ:=∃b o,s.aa=some ⟨b,o,none⟩) (af.pick .p4 (k.mono fun _ h=>aD.addr h.2.1 (by rw[Sx.eP];omega))) (fun hh=>?_)
   obtain⟨b9,o9,h9⟩:=hh
   refine .tell (φ:=∃b o,s.ia=some ⟨b,o,none⟩) (af.pick .p4 (k.mono fun _ h=>aD.addr h.2.2 (by rw[Sx.pL];omega))) (fun hh=>?_)
   obtain⟨b8,o8,h8⟩:=hh
   refine .go fds 9 ?_
   refine .dr [0,3,4,7,10] [an b3 [.pointer (some ⟨s.b,0,none⟩)] 54,R] ?_
   refine .re 0 rfl (.ld aN rfl .p0 rfl) .vI ?_
   refine .aq fds [1] ?_
   refine .aq fds [2] ?_
   refine .re 3 rfl (.load dz rfl (af.one (i:=3) (af.pick .p1 (k.mono fun _ h=>h.1)) rfl)) .vI ?_
   refine .re 4 rfl (.ld aN rfl .p0 rfl) .vI ?_
   refine .aq fds [5] ?_
   refine .aq fds [6] ?_
   refine .re 7 rfl (.load iQ rfl (af.one (i:=4) (af.pick .p1 (k.mono fun _ h=>h.1)) rfl)) .vI ?_
   refine .aq fds [8] ?_
   refine .al 53 (.int .i64 ((z-1:Nat))) rfl (congrArg (Value.int .i64) (by omega)) ?_
   refine .rq 9 rfl (.indexAddr (b:=b8) (o:=o8) Tryz.underlying31 cc (by show some (Value.slice (s.ia) _ _)=_;rw[h8]) rfl (by omega) (by omega)) ?_
   refine .re 10 rfl (.load ak rfl (af.one (i:=0) (af.elem (f:=fI) dR (by decide) (af.pick .p1 (k.mono fun _ h=>h8▸h.2.2)) (hj)) rfl)) .vI ?_
   refine .rq 11 rfl (.slice (l:=j) (h:=s.bs.length) (m:=s.ac) Tryz.underlying108 eU rfl rfl ⟨rfl,rfl⟩ ⟨_,rfl⟩ (by omega) (by omega) (by omega)) ?_
   refine .al 56 (.slice (some ⟨b9,o9+j*4,none⟩) (s.bs.length-j) (s.ac-j)) rfl (by rw[if_neg (by omega),h9];simp[cA]) ?_
   refine .rq 12 rfl (.bP rfl rfl Tryz.underlying108 rfl) ?_
   refine .aq fds [13] ?_
   refine .dn ?_
   refine .cq 41 6 none ?_
   refine .lB (qS []) (qS.nil) ?_
   refine .block ?_
   refine .loop (σ:=Nat×Int×List lp×Option Addr×Nat) (fun⟨i,sum,bl,ra,rc⟩=>j+i≤s.bs.length∧aH off most sum (bl.map (·.1)) (s.bs.drop (j+i))=aH off most 0 [] s.bs∧bl.length≤i∧0≤sum∧sum≤((flat (s.bs.take (j+i))).length:Int)) (fun⟨i,sum,bl,ra,rc⟩=>s.bs.length-i) (fun⟨i,sum,bl,ra,rc⟩=>[(2,.int .i64 most),(4,.pointer (some ⟨b4,0,none⟩)),(7,.string (str (flat s.bs))),(56,.slice (some ⟨b9,o9+j*4,none⟩) (s.bs.length-j) (s.ac-j)),(57,.int .i64 ((s.bs.length-j:Nat):Int)),(10,.slice ra bl.length rc),(11,.int .i64 sum),(58,.int .i64 (i:Nat))]) (fun⟨i,sum,bl,ra,rc⟩=>[an b4 [.int .i64 off] 3,arr 41 6 ra rc (bl.flatMap mZ),bF (qS bl),an db (d.cells mb) 74,mp aW Fl.val mb d.fs,R]) (0,0,[],none,0) ⟨by omega,M9,Nat.le_refl _,Int.le_refl _,by omega⟩ .r8 (.cons .p4 (.cons .p1 (.cons .p0 (.cons .p0 (.cons .p0 (.cons .p1 .nil)))))) (fun s' hI ih=>?_)
   obtain⟨i,sum,bl,ra,rc⟩:=s'
   dsimp only at hI ih⊢
   obtain⟨fU,hg,Na,z7,Df⟩:=hI
   refine .go fds 5 ?_
   refine .aM rfl (fun Nb=>?_) (fun Nb=>?_)
   ·
    refine .go fds 4 ?_
    obtain⟨b,hb⟩:∃b,s.bs[j+i]?=some b:=⟨_,List.getElem?_eq_getElem (by omega)⟩
    have vF:s.bs.drop (j+i)=b::s.bs.drop (j+(i+1)):=by obtain⟨h1,h2⟩:=List.getElem?_eq_some_iff.1 hb;rw[←h2];exact List.drop_eq_getElem_cons h1
    have yo:=hs.aT b (List.mem_of_getElem? hb)
    have Sf:=wF hb
    have wN:=yo.uJ
    have C2:(flat (s.bs.take (j+(i+1)))).length=(flat (s.bs.take (j+i))).length+(enc b).length:=BX hb
    refine .region ?_
    refine .rd (.indexAddr (b:=b9) (o:=o9+j*4) Tryz.underlying108 eU rfl rfl (by omega) (by omega)) ?_
    refine .al 60 (.pointer (some ⟨b9,o9+(j+i)*4,none⟩)) rfl (congrArg (fun n=>Value.pointer (some ⟨b9,n,none⟩)) (by rw[Int.toNat_natCast];omega)) ?_
    refine .rd (.fT uA eU rfl rfl (af.elem (f:=One.cells) One.bU (by decide) (af.pick .p5 (k.mono fun _ h=>h9▸h.2.1)) (nU hb))) ?_
    refine .ef (.alloc mQ rfl (aB.of rfl)) ?_
    rintro _ _ ⟨Sj,rfl,rfl⟩
    refine .dc (.storeAll eU rfl rfl (by rfl) .p0 rfl (aB.of rfl)) ?_
    rintro _ _ rfl
    refine .nil ?_
    refine .ca (an Sj (One.mk b.base b.en (flat (s.bs.take (j+i))).length ((flat (s.bs.take (j+i))).length+(enc b).length)).cells 112) (rfl) ?_
    refine .ax fds 4 ?_
    refine .rd (.ld ak rfl .p0 rfl) ?_
    refine .rd (.ld ak rfl .p1 rfl) ?_
    refine .aH fds 2 ?_
    refine .aM rfl (fun c12=>?_) (fun c12=>?_)
    ·
     refine .ax fds 2 ?_
     refine .rd (.add rfl rfl (by omega) (by omega)) ?_
     refine .aH fds 2 ?_
     have Gr:j+(i+1)≤s.bs.length∧aH off most (sum) ((bl).map (·.1)) (s.bs.drop (j+(i+1)))=aH off most 0 [] s.bs∧(bl).length≤i+1∧0≤sum∧sum≤((flat (s.bs.take (j+(i+1)))).length:Int):=⟨by omega,by rw[←hg,vF,iD,if_pos (show b.en≤off from c12)],by omega,z7,by omega⟩
     exact(ih (i+1,sum,bl,ra,rc) Gr (by show s.bs.length-(i+1)<s.bs.length-i;omega)).to (.cons rfl (.cons rfl (.cons rfl (.cons rfl (.cons rfl (.cons (by first|rfl|(show _=some (Value.slice _ (List.length _) _);rw[List.length_append];rfl)) .r2)))))) (.cons .p1 (.cons .p1 (.cons .p1 (.cons .p1 (.cons .p1 (.cons .p1 .nil))))))
    ·
     have Dz:¬b.en≤off:=c12
     refine .ax fds 5 ?_
     refine .rd (.ld ak rfl .p0 rfl) ?_
     refine .al 68 (.int .i64 (((flat (s.bs.take (j+i))).length+(enc b).length:Nat):Int)) rfl (rfl) ?_
     refine .rd (.fieldAddr G9 rfl) ?_
     refine .rd (.ld ak rfl .p0 rfl) ?_
     refine .al 70 (.int .i64 ((flat (s.bs.take (j+i))).length:Int)) rfl (rfl) ?_
     refine .rd (.sub rfl rfl (by omega) (by omega)) ?_
     refine .rd (.add rfl rfl (by omega) (by omega)) ?_
     refine .al 72 (.int .i64 (sum+(enc b).length)) rfl (congrArg (Value.int .i64) (by omega)) ?_
     refine .ax fds 6 ?_
     refine .rd (.bP rfl rfl Tryz.underlying47 rfl) ?_
     refine .go fds 2 ?_
     refine .split (t:=76) rfl (fun g14=>?_) (fun g14=>?_)
     ·
      replace g14:=of_decide_eq_true g14
      refine .aH fds 5 ?_
      refine .aM rfl (fun Sk=>?_) (fun Sk=>?_)
      ·
       have Nc:0<(bl.map (·.1)).length∧most<sum+((enc b).length:Int):=by rw[List.length_map];omega
       refine .go fds 6 ?_
       refine .aG Tryz.func47 (.t1 rfl) (.cons .p4 (.cons .p4 (.cons .p2 (.cons .p2 (.cons .p2 .nil))))) ?_
       exact⟨[_,_,_,_],⟨bl,ra,rc,((by rw[←hg,vF,iD,if_neg Dz,if_pos Nc]:aH off most 0 [] s.bs=bl.map (·.1)).symm.trans (if_neg c1).symm),rfl,rfl⟩,rfl⟩
      ·
       refine .go fds 2 ?_
       have Nc:¬(0<(bl.map (·.1)).length∧most<sum+((enc b).length:Int)):=by rw[List.length_map];omega
       refine .ax fds 3 ?_
       refine .rd (.ld ak rfl .p0 rfl) ?_
       refine .rd (.fieldAddr Ay rfl) ?_
       refine .rd (.ld ak rfl .p0 rfl) ?_
       refine .rd (.cH (l:=flat s.bs) (a:=(flat (s.bs.take (j+i))).length) (h:=(flat (s.bs.take (j+i))).length+(enc b).length) Tryz.underlying9 rfl ⟨_,rfl⟩ ⟨_,rfl⟩ (by omega) (by omega)) ?_
       refine .al 87 (.string (str (enc b))) rfl (by rw[Nat.add_sub_cancel_left,wB hb]) ?_
       refine .fn rfl rfl .nil ah (gZ (enc b) (by omega)) (fun v G1 hq=>?_)
       obtain⟨ba,bc,rfl,rfl⟩:=hq
       simp only[ag,ae]
       refine .al 88 (.tuple #[.agg (b.cells ba bc).toArray,.int .i64 ((enc b).length:Int),.int .i64 0]) rfl (tN yo ba bc) ?_
       refine .ca (arr 99 3 ba bc (b.aS.flatMap Rec.cells)) (by rw[tO yo]) ?_
       refine .settle .p0 (gm.arr) ?_
       refine .go fds 4 ?_
       refine .ef (.alloc di rfl (aB.of rfl)) ?_
       rintro _ _ ⟨J9,rfl,rfl⟩
       refine .dc (.storeAll aO rfl rfl (by rfl) .p0 rfl (aB.of rfl)) ?_
       rintro _ _ rfl
       refine .ax fds 5 ?_
       refine .rd (.j4 bi aO rfl .p0 rfl) ?_
       refine .ef (.cr (cs:=b.cells ba bc) Tryz.underlying47 di (by decide) rfl rfl rfl (aB.of rfl)) ?_
       rintro _ _ ⟨bo,rfl,rfl⟩
       refine .ef (.append rfl rfl Tryz.underlying47 di rfl (aB.of rfl) (by decide) (by decide) rfl rfl .p5 (n:=bl.length) (m:=1) (au cW _) (.dM .p0 Tryz.underlying47 rfl (by decide)) (by omega)) ?_
       rintro _ _ ⟨qa,qc,rfl,qn,rfl⟩
       refine .aH fds 2 ?_
       refine .ca (arr 41 6 qa qc ((bl++[(b,ba,bc)]).flatMap mZ)) (by rw[List.flatMap_append];simp[mZ]) ?_
       refine .ur (qS (bl++[(b,ba,bc)])) (.cons .p6 (.cons .p3 .nil)) (fun w h1 h2=>h1.snoc h2) ?_
       refine .ax fds 2 ?_
       refine .rd (.add rfl rfl (by omega) (by omega)) ?_
       refine .aH fds 2 ?_
       have Gr:j+(i+1)≤s.bs.length∧aH off most (sum+((enc b).length:Int)) ((bl++[(b,ba,bc)]).map (·.1)) (s.bs.drop (j+(i+1)))=aH off most 0 [] s.bs∧(bl++[(b,ba,bc)]).length≤i+1∧0≤sum+((enc b).length:Int)∧sum+((enc b).length:Int)≤((flat (s.bs.take (j+(i+1)))).length:Int):=⟨by omega,by rw[←hg,vF,iD,if_neg Dz,if_neg Nc,List.map_append];rfl,by rw[List.length_append];exact Nat.succ_le_succ Na,by omega,by omega⟩
       exact(ih (i+1,sum+((enc b).length:Int),bl++[(b,ba,bc)],qa,qc) Gr (by show s.bs.length-(i+1)<s.bs.length-i;omega)).to (.cons rfl (.cons rfl (.cons rfl (.cons rfl (.cons rfl (.cons (by first|rfl|(show _=some (Value.slice _ (List.length _) _);rw[List.length_append];rfl)) .r2)))))) (.cons .p5 (.cons .p1 (.cons .p0 (.cons .p3 (.cons .p3 (.cons .p3 .nil))))))
     ·
      replace g14:=of_decide_eq_false g14
      refine .aH fds 8 ?_
      have Nc:¬(0<(bl.map (·.1)).length∧most<sum+((enc b).length:Int)):=by rw[List.length_map];omega
      refine .ax fds 3 ?_
      refine .rd (.ld ak rfl .p0 rfl) ?_
      refine .rd (.fieldAddr Ay rfl) ?_
      refine .rd (.ld ak rfl .p0 rfl) ?_
      refine .rd (.cH (l:=flat s.bs) (a:=(flat (s.bs.take (j+i))).length) (h:=(flat (s.bs.take (j+i))).length+(enc b).length) Tryz.underlying9 rfl ⟨_,rfl⟩ ⟨_,rfl⟩ (by omega) (by omega)) ?_
      refine .al 87 (.string (str (enc b))) rfl (by rw[Nat.add_sub_cancel_left,wB hb]) ?_
      refine .fn rfl rfl .nil ah (gZ (enc b) (by omega)) (fun v G1 hq=>?_)
      obtain⟨ba,bc,rfl,rfl⟩:=hq
      simp only[ag,ae]
      refine .al 88 (.tuple #[.agg (b.cells ba bc).toArray,.int .i64 ((enc b).length:Int),.int .i64 0]) rfl (tN yo ba bc) ?_
      refine .ca (arr 99 3 ba bc (b.aS.flatMap Rec.cells)) (by rw[tO yo]) ?_
      refine .settle .p0 (gm.arr) ?_
      refine .go fds 4 ?_
      refine .ef (.alloc di rfl (aB.of rfl)) ?_
      rintro _ _ ⟨J9,rfl,rfl⟩
      refine .dc (.storeAll aO rfl rfl (by rfl) .p0 rfl (aB.of rfl)) ?_
      rintro _ _ rfl
      refine .ax fds 5 ?_
      refine .rd (.j4 bi aO rfl .p0 rfl) ?_
      refine .ef (.cr (cs:=b.cells ba bc) Tryz.underlying47 di (by decide) rfl rfl rfl (aB.of rfl)) ?_
      rintro _ _ ⟨bo,rfl,rfl⟩
      refine .ef (.append rfl rfl Tryz.underlying47 di rfl (aB.of rfl) (by decide) (by decide) rfl rfl .p5 (n:=bl.length) (m:=1) (au cW _) (.dM .p0 Tryz.underlying47 rfl (by decide)) (by omega)) ?_
      rintro _ _ ⟨qa,qc,rfl,qn,rfl⟩
      refine .aH fds 2 ?_
      refine .ca (arr 41 6 qa qc ((bl++[(b,ba,bc)]).flatMap mZ)) (by rw[List.flatMap_append];simp[mZ]) ?_
      refine .ur (qS (bl++[(b,ba,bc)])) (.cons .p6 (.cons .p3 .nil)) (fun w h1 h2=>h1.snoc h2) ?_
      refine .ax fds 2 ?_
      refine .rd (.add rfl rfl (by omega) (by omega)) ?_
      refine .aH fds 2 ?_
      have Gr:j+(i+1)≤s.bs.length∧aH off most (sum+((enc b).length:Int)) ((bl++[(b,ba,bc)]).map (·.1)) (s.bs.drop (j+(i+1)))=aH off most 0 [] s.bs∧(bl++[(b,ba,bc)]).length≤i+1∧0≤sum+((enc b).length:Int)∧sum+((enc b).length:Int)≤((flat (s.bs.take (j+(i+1)))).length:Int):=⟨by omega,by rw[←hg,vF,iD,if_neg Dz,if_neg Nc,List.map_append];rfl,by rw[List.length_append];exact Nat.succ_le_succ Na,by omega,by omega⟩
      exact(ih (i+1,sum+((enc b).length:Int),bl++[(b,ba,bc)],qa,qc) Gr (by show s.bs.length-(i+1)<s.bs.length-i;omega)).to (.cons rfl (.cons rfl (.cons rfl (.cons rfl (.cons rfl (.cons (by first|rfl|(show _=some (Value.slice _ (List.length _) _);rw[List.length_append];rfl)) .r2)))))) (.cons .p5 (.cons .p1 (.cons .p0 (.cons .p3 (.cons .p3 (.cons .p3 .nil))))))
   ·
    refine .go fds 6 ?_
    refine .aG Tryz.func47 (.t1 rfl) (.cons .p3 (.cons .p3 (.cons .p1 (.cons .p1 (.cons .p1 .nil))))) ?_
    exact⟨[_,_,_,_],⟨bl,ra,rc,((by rw[←hg,List.drop_eq_nil_of_le (by omega)];rfl:aH off most 0 [] s.bs=bl.map (·.1)).symm.trans (if_neg c1).symm),rfl,rfl⟩,rfl⟩
theorem zy{s:Sx}(hs:s.ok){b:aQ}{C:List aQ}(h:b∈s.bs∨(b∈C∧∀x∈s.bs,x.en≤b.base))(hb:s.base≤b.base){xl:List lp}(hx:xl.map (·.1)=gU s b.base 0)(h0:xl.length=0):b∈C:=by
 rcases h with hc|⟨hc,_⟩
 ·
  have h1:=congrArg List.length hx
  rw[List.length_map,ov hs hc hb]at h1
  simp at h1;omega
 ·
  exact hc
theorem Fq(db mb:Nat)(d:Dk)(l:Lx)(b:aQ)(hl:l.ok d)(hb:b∈l.all):Cn Tryz.prog 89 [.pointer (some ⟨l.lb,0,none⟩),.int .i64 b.base] (tw db l) [an db (d.cells mb) 74,mp aW Fl.val mb d.fs] fun v G=>v=.bool true∧G=[an db (d.cells mb) 74,mp aW Fl.val mb d.fs]:=by
 refine .en Tryz.func89 fun R k=>?_
 have Ai:=hl.len
 have Ps:=hl.aT b hb
 have mi:=Ps.base
 have gE:=Ps.en
 have kO:=Ps.lt
 refine .ax fds 11 ?_
 refine .rd (.load aN rfl (af.one (i:=0) (af.pick .p2 (k.mono fun _ h=>h.1)) rfl)) ?_
 refine .fn rfl rfl .nil (af.pick .p2 (k.mono fun _ h=>h.2.2 _ l.cJ)) (bZ db l.ai hl.ai.1) (fun v G1 hq=>?_)
 obtain⟨rfl,rfl⟩:=hq
 simp only[ae]
 refine .aH fds 2 ?_
 refine .aM rfl (fun c1=>?_) (fun c1=>?_)
 ·
  refine .go fds 4 ?_
  refine .aG Tryz.func89 (.t1 rfl) .ez ?_
  exact⟨[_,_],⟨rfl,rfl⟩,rfl⟩
 ·
  refine .ax fds 7 ?_
  refine .rd (.load cV rfl (af.one (i:=6) (af.pick .p2 (k.mono fun _ h=>h.1)) rfl)) ?_
  refine .rd (.bP rfl rfl Tryz.underlying55 rfl) ?_
  refine .aH fds 2 ?_
  have oS:l.ar.length=l.bX.length+1:=by unfold Lx.ar;simp
  refine .al 19 (.int .i64 (l.ar.length:Nat)) rfl (by rw[oS]) ?_
  refine .block ?_
  refine .loop (σ:=Nat) (fun i=>i≤l.ar.length∧b∈(l.ar.drop i).flatMap (fun s:Sx=>s.bs)) (fun i=>l.ar.length-i) (fun i=>[(0,.pointer (some ⟨l.lb,0,none⟩)),(1,.int .i64 b.base),(18,.slice l.la (l.bX.length+1) l.lc),(19,.int .i64 (l.ar.length:Nat)),(20,.int .i64 (i:Nat))]) (fun i=>[an db (d.cells mb) 74,mp aW Fl.val mb d.fs,R]) 0 ⟨Nat.zero_le _,hb⟩ .r5 .ez (fun i hI ih=>?_)
  obtain⟨jB,Na⟩:=hI
  refine .go fds 5 ?_
  refine .aM rfl (fun c4=>?_) (fun c4=>?_)
  ·
   refine .go fds 4 ?_
   obtain⟨s,hs⟩:∃s,l.ar[i]?=some s:=⟨_,List.getElem?_eq_getElem (by omega)⟩
   have CS:=List.mem_of_getElem? hs
   obtain⟨oF,Lu,Pt,Lz⟩:=hl.gN s CS
   obtain⟨Pu,tM⟩:=xd hl hs Na
   refine .tell (φ:=∃b o,l.la=some ⟨b,o,none⟩) (af.pick .p2 (k.mono fun _ h=>aD.addr h.2.1 (by rw[au dO];omega))) (fun hh=>?_)
   obtain⟨b9,o9,h9⟩:=hh
   refine .region ?_
   refine .rd (.indexAddr (b:=b9) (o:=o9) Tryz.underlying55 dQ (by show some (Value.slice (l.la) _ _)=_;rw[h9]) rfl (by omega) (by omega)) ?_
   refine .rd (.load aN rfl (af.one (i:=0) (af.elem (f:=sp) dO (by decide) (af.pick .p2 (k.mono fun _ h=>h9▸h.2.1)) hs) rfl)) ?_
   refine .ax fds 6 ?_
   refine .fn rfl rfl .cU (af.pick .p0 (k.mono fun _ h=>h.2.2 s CS)) (rL db mb d s b.base 0 oF Pt Lz ⟨by omega,by omega⟩) (fun v G1 hq=>?_)
   obtain⟨xl,xa,xc,A8,rfl,rfl⟩:=hq
   simp only[ag,ae]
   refine .aH fds 2 ?_
   have LC:xl.length≤1:=by
    have h1:=congrArg List.length A8
    rw[List.length_map]at h1
    rcases tM with hc|⟨_,hc⟩
    ·
     rw[ov oF hc Pu]at h1;exact Nat.le_of_eq h1
    ·
     rw[xe oF hc]at h1;exact Nat.le_trans (Nat.le_of_eq h1) (Nat.zero_le 1)
   refine .ax fds 3 ?_
   refine .rd (.bP rfl rfl Tryz.underlying47 rfl) ?_
   refine .aH fds 2 ?_
   refine .aM rfl (fun c7=>?_) (fun c7=>?_)
   ·
    refine .seq ?_
    obtain⟨y,hy⟩:∃y,xl[0]?=some y:=⟨_,List.getElem?_eq_getElem (by omega)⟩
    have Pv:y.1=b:=by
     have h1:=congrArg (fun l=>l[0]?) A8
     simp only[List.getElem?_map,hy,Option.map_some]at h1
     rcases tM with hc|⟨_,hc⟩
     ·
      rw[ov oF hc Pu]at h1;exact Option.some.inj h1
     ·
      rw[xe oF hc]at h1;cases h1
    refine .tell (φ:=∃b o,xa=some ⟨b,o,none⟩) ((af.arr .p2).mono fun _ h=>aD.addr h (by rw[au cW];omega)) (fun hh=>?_)
    obtain⟨b8,o8,h8⟩:=hh
    refine .ax fds 2 ?_
    refine .rd (.indexAddr (b:=b8) (o:=o8) Tryz.underlying47 aO (by show some (Value.slice (xa) _ _)=_;rw[h8]) rfl (by omega) (by omega)) ?_
    refine .rd (.fieldAddr pz rfl) ?_
    refine .rd (.load ak rfl (af.one (i:=0) (af.elem (f:=mZ) cW (by decide) ((af.arr .p2).mono fun _ h=>h8▸h) hy) rfl)) ?_
    refine .aH fds 4 ?_
    refine .aG Tryz.func89 (.t1 rfl) .BO ?_
    exact⟨[_,_],⟨congrArg Value.bool (decide_eq_true (by show y.1.base=b.base;rw[Pv])),rfl⟩,rfl⟩
   ·
    refine .ax fds 3 ?_
    refine .rd (.add rfl rfl (by omega) (by omega)) ?_
    refine .aH fds 2 ?_
    have vF:b∈(l.ar.drop (i+1)).flatMap (fun s:Sx=>s.bs):=zy oF tM Pu A8 (by omega)
    exact(ih (i+1) ⟨by omega,vF⟩ (by show l.ar.length-(i+1)<l.ar.length-i;omega)).to .r5 .BO
  ·
   refine .go fds 5 ?_
   exact absurd Na (by rw[List.drop_eq_nil_of_le (by omega)];intro h;cases h)
theorem xE(db mb:Nat)(d:Dk)(l:Lx)(hl:l.ok d):Cn Tryz.prog 89 [.pointer (some ⟨l.lb,0,none⟩),.int .i64 l.next] (tw db l) [an db (d.cells mb) 74,mp aW Fl.val mb d.fs] fun v G=>v=.bool true∧G=[an db (d.cells mb) 74,mp aW Fl.val mb d.fs]:=by
 refine .en Tryz.func89 fun R k=>?_
 refine .ax fds 11 ?_
 refine .rd (.load aN rfl (af.one (i:=0) (af.pick .p2 (k.mono fun _ h=>h.1)) rfl)) ?_
 refine .fn rfl rfl .nil (af.pick .p2 (k.mono fun _ h=>h.2.2 _ l.cJ)) (bZ db l.ai hl.ai.1) (fun v G1 hq=>?_)
 obtain⟨rfl,rfl⟩:=hq
 simp only[ae]
 refine .rd (.NJ rfl rfl) ?_
 refine .al 14 (.bool true) rfl (bR rfl) ?_
 refine .aH fds 6 ?_
 refine .aG Tryz.func89 (.t1 rfl) .ez ?_
 exact⟨[_,_],⟨rfl,rfl⟩,rfl⟩
theorem KM(db mb:Nat)(d:Dk)(l:Lx)(off:Int)(hl:l.ok d)(h:off=l.next∨∃b∈l.all,b.base=off):Cn Tryz.prog 89 [.pointer (some ⟨l.lb,0,none⟩),.int .i64 off] (tw db l) [an db (d.cells mb) 74,mp aW Fl.val mb d.fs] fun v G=>v=.bool true∧G=[an db (d.cells mb) 74,mp aW Fl.val mb d.fs]:=by
 rcases h with rfl|⟨b,hb,rfl⟩
 ·
  exact xE db mb d l hl
 ·
  exact Fq db mb d l b hl hb
theorem af.zz{Γ aI:List aj}{e s:Nat}{a:Option Addr}{c:Nat}{cs:List Value}(p:bD (arr e s a c cs) Γ aI):af Γ fun _=>cs.length≤c*s:=fun _ _ h=>(h.map fun _=>p.bh).jz.1
theorem IQ{e s:Nat}{a:Option Addr}{c:Nat}{cs:List Value}{h:Hp}(H:arr e s a c cs h):cs.length≤c*s:=by
 rcases H with⟨_,h3⟩|⟨b,pre,post,e1,e2,e3⟩
 ·
  subst h3;exact Nat.zero_le _
 ·
  omega
theorem Ft{e s:Nat}{a:Option Addr}{c:Nat}{cs:List Value}{h k:Hp}(hl:Hp.le h k)(H:arr e s a c cs h):arr e s a c cs k:=by
 rcases H with h1|⟨b,pre,post,e1,e2,e3⟩
 ·
  exact .inl h1
 ·
  exact .inr ⟨b,pre,post,e1,e2,kg hl e3⟩
theorem zA{q:Lx}{x:Sx}{r:List Sx}{db:Nat}{la:Option Addr}(hx:q.bX=x::r):a6 (some ⟨q.ai.b,0,none⟩) db q.pre q.most q.start q.aJ la q.bX.length (q.lc-1)=(q.less la).cells db:=by
 unfold Lx.cells Lx.less;rw[hx];rfl
theorem Fu{q:Lx}{x:Sx}{r:List Sx}{b o:Nat}(hx:q.bX=x::r)(h9:q.la=some ⟨b,o,none⟩){h:Hp}(H:bh [arr 54 1 q.la q.lc (q.ar.flatMap sp)] h):arr 54 1 (q.less (some ⟨b,o+1,none⟩)).la (q.less (some ⟨b,o+1,none⟩)).lc ((q.less (some ⟨b,o+1,none⟩)).ar.flatMap sp) h:=by
 obtain⟨h1,_,_,hle,_,H1,_⟩:=H
 rw[h9,dL hx (some ⟨b,o+1,none⟩),List.flatMap_cons]at H1
 have hc:q.lc=(q.lc-1)+1:=by
  have:=IQ H1
  rw[List.length_append,dO]at this;omega
 rw[hc]at H1
 exact Ft hle (EK H1)
theorem Cw(db mb:Nat)(d:Dk)(l:Lx)(off:Nat)(hd:d.ok)(hl:l.ok d)(h1:l.start≤(off:Int))(hp:(off:Int)=l.next∨∃b∈l.all,b.base=(off:Int))(h2:(off:Int)≤l.next)(hr:(d.get (aP l.pre)).isSome=true∨d.fs.length<256)(hs:d.used+22≤d.size):Cn Tryz.prog 53 [.pointer (some ⟨l.lb,0,none⟩),.int .i64 (off:Int)] LV [LG db l,an db (d.cells mb) 74,mp aW Fl.val mb d.fs] fun v G=>∃q e,v=.int .i64 0∧jq l d off (max l.aJ off).toNat q e∧G=[LG db q,an db (e.cells mb) 74,mp aW Fl.val mb e.fs]:=by
 refine .en Tryz.func53 fun R k=>?_
 have nK:=hl.start
 have vG:=hl.aJ
 have IL:=hl.ai.1.eC
 have Gj:l.next=l.ai.next:=rfl
 refine .unpack (L:=[an l.lb (l.cells db) 57,arr 54 1 l.la l.lc (l.ar.flatMap sp),cD (SG db) l.ar]) .p0 ?_
 simp only[ag,ae]
 refine .ax fds 11 ?_
 refine .rd (.ld ak rfl .p0 rfl) ?_
 refine .rd (.lt rfl rfl) ?_
 refine .al 11 (.bool false) rfl (aE (by omega)) ?_
 refine .go fds 3 ?_
 refine .on (t:=12) rfl rfl ?_
 refine .fn rfl rfl .vI ((af.an .p0).and ((af.arr .p1).and (af.lH .p2))) (KM db mb d l (off:Int) hl hp) (fun v G1 hq=>?_)
 obtain⟨rfl,rfl⟩:=hq
 simp only[ag,ae]
 refine .ax fds 13 ?_
 refine .rd (.ld ak rfl .p2 rfl) ?_
 refine .rd (.move rfl) ?_
 refine .rd (.max2 rfl rfl rfl) ?_
 refine .al 25 (.int .i64 ((max l.aJ off).toNat:Nat)) rfl (congrArg (Value.int .i64) (by omega)) ?_
 refine .fn rfl rfl .DA (af.pick .p2 k) (IC l.lb db mb d (some ⟨l.ai.b,0,none⟩) l.pre l.most l.start l.aJ l.la (l.bX.length+1) l.lc off (max l.aJ off).toNat (by omega) (by omega) hd hl.pre hr hs) (fun v G1 hq=>?_)
 obtain⟨rfl,rfl⟩:=hq
 simp only[ag,ae]
 refine .aH fds 7 ?_
 have hD:jq l d off (max l.aJ off).toNat ({l with start:=(off:Int),aJ:=(((max l.aJ off).toNat:Nat):Int)}:Lx) (d.put (aP l.pre) ⟨mt off (max l.aJ off).toNat,(mt off (max l.aJ off).toNat).length⟩):=.begin hl hd h1 (by omega) (by omega) (by omega) (by omega) hs
 refine .ca (an ({l with start:=(off:Int),aJ:=(((max l.aJ off).toNat:Nat):Int)}:Lx).lb (({l with start:=(off:Int),aJ:=(((max l.aJ off).toNat:Nat):Int)}:Lx).cells db) 57) (rfl) ?_
 refine .perm .uy ?_
 refine .ca (arr 54 1 ({l with start:=(off:Int),aJ:=(((max l.aJ off).toNat:Nat):Int)}:Lx).la ({l with start:=(off:Int),aJ:=(((max l.aJ off).toNat:Nat):Int)}:Lx).lc (({l with start:=(off:Int),aJ:=(((max l.aJ off).toNat:Nat):Int)}:Lx).ar.flatMap sp)) (rfl) ?_
 refine .perm .mJ ?_
 refine .ca (cD (SG db) ({l with start:=(off:Int),aJ:=(((max l.aJ off).toNat:Nat):Int)}:Lx).ar) (rfl) ?_
 refine .go fds 4 ?_
 refine .loop (σ:=Lx×Dk) (fun⟨q,e⟩=>jq l d off (max l.aJ off).toNat q e) (fun⟨q,e⟩=>q.bX.length) (fun⟨q,e⟩=>[(0,.pointer (some ⟨q.lb,0,none⟩)),(1,.int .i64 (off:Nat))]) (fun⟨q,e⟩=>[an q.lb (q.cells db) 57,arr 54 1 q.la q.lc (q.ar.flatMap sp),cD (SG db) q.ar,an db (e.cells mb) 74,mp aW Fl.val mb e.fs,R]) (({l with start:=(off:Int),aJ:=(((max l.aJ off).toNat:Nat):Int)}:Lx),(d.put (aP l.pre) ⟨mt off (max l.aJ off).toNat,(mt off (max l.aJ off).toNat).length⟩)) hD .r2 (.cons .p2 (.cons .p1 (.cons .p0 (.cons .p0 (.cons .p0 (.cons .p0 .nil)))))) (fun s' hI ih=>?_)
 obtain⟨q,e⟩:=s'
 dsimp only at hI ih⊢
 have hD:=hI
 have Cr:=hD.ok.len
 have wU:q.ar.length=q.bX.length+1:=by unfold Lx.ar;simp
 refine .ax fds 6 ?_
 refine .rd (.ld cV rfl .p0 rfl) ?_
 refine .rd (.bP rfl rfl Tryz.underlying55 rfl) ?_
 refine .go fds 2 ?_
 refine .split (t:=36) rfl (fun zB=>?_) (fun zB=>?_)
 ·
  replace zB:=of_decide_eq_true zB
  obtain⟨x,r,hx⟩:∃x r,q.bX=x::r:=by
   cases h:q.bX with
   |nil=>rw[h]at zB;exact absurd zB (by decide)
   |cons x r=>exact⟨x,r,rfl⟩
  have Cp:(q.less none).bX=r:=by unfold Lx.less;rw[hx];rfl
  have Jn:q.ar=x::(r++[q.ai]):=by unfold Lx.ar;rw[hx];rfl
  have w9:x∈q.ar:=by rw[Jn];exact .head _
  obtain⟨KN,Pw,NX,UO⟩:=hD.ok.gN x w9
  have AN:q.ar[0]?=some x:=by rw[Jn];rfl
  have Sl:=KN.bC
  have Sm:=KN.ed
  refine .tell (φ:=∃b o,q.la=some ⟨b,o,none⟩) ((af.arr .p1).mono fun _ h=>aD.addr h (by rw[au dO];omega)) (fun hh=>?_)
  obtain⟨b9,o9,h9⟩:=hh
  refine .tell (af.zz .p1) (fun hh=>?_)
  have iA:q.bX.length+1≤q.lc:=by rw[au dO,wU]at hh;omega
  clear hh
  have QK:q.bX.length=r.length+1:=by rw[hx];rfl
  refine .go fds 3 ?_
  refine .on (t:=36) rfl rfl ?_
  refine .rd (.ld cV rfl .p0 rfl) ?_
  refine .on (t:=36) rfl rfl ?_
  refine .rd (.indexAddr (b:=b9) (o:=o9) Tryz.underlying55 dQ (by show some (Value.slice (q.la) _ _)=_;rw[h9]) rfl (by omega) (by omega)) ?_
  refine .on (t:=36) rfl rfl ?_
  refine .rd (.load aN rfl (af.one (i:=0) (af.elem (f:=sp) dO (by decide) ((af.arr .p1).mono fun _ h=>h9▸h) AN) rfl)) ?_
  refine .on (t:=36) rfl rfl ?_
  refine .fn rfl rfl .nil ((af.lH .p2).mono fun _ h=>h x w9) (bZ db x KN) (fun v G1 hq=>?_)
  obtain⟨rfl,rfl⟩:=hq
  simp only[ae]
  refine .aH fds 4 ?_
  refine .aM rfl (fun c6=>?_) (fun c6=>?_)
  ·
   have hle:x.next≤(off:Int):=c6
   refine .go fds 3 ?_
   refine .dr [3,8,10] [an q.lb (q.cells db) 57,arr 54 1 q.la q.lc (q.ar.flatMap sp)] ?_
   refine .aq fds [0] ?_
   refine .aq fds [1] ?_
   refine .aq fds [2] ?_
   refine .re 3 rfl (.ld dh rfl .p0 rfl) .cU ?_
   refine .aq fds [4] ?_
   refine .aq fds [5] ?_
   refine .aq fds [6] ?_
   refine .aq fds [7] ?_
   refine .re 8 rfl (.ld cV rfl .p0 rfl) .cU ?_
   refine .rq 9 rfl (.indexAddr (b:=b9) (o:=o9) Tryz.underlying55 dQ (by show some (Value.slice (q.la) _ _)=_;rw[h9]) rfl (by omega) (by omega)) ?_
   refine .re 10 rfl (.load aN rfl (af.one (i:=0) (af.elem (f:=sp) dO (by decide) ((af.arr .p1).mono fun _ h=>h9▸h) AN) rfl)) .cU ?_
   refine .eg 11 rfl (.fn rfl rfl .nil ((af.lH .p2).mono fun _ h=>h x w9) (k6 db x)) ?_
   rintro v _ ⟨G1,hq,rfl⟩
   obtain⟨rfl,rfl⟩:=hq
   simp only[ae]
   refine⟨.inr ⟨_,.cU⟩,?_⟩
   refine .al 58 (.int .i64 (x.base.toNat:Nat)) rfl (congrArg (Value.int .i64) (by omega)) ?_
   refine .eg 12 rfl (.fn rfl rfl .nil ((af.an .p0).and (af.pick .p5 k)) (pW q.lb db (some ⟨q.ai.b,0,none⟩) q.pre q.most q.start q.aJ q.la (q.bX.length+1) q.lc x.base.toNat (by omega) hD.ok.pre.len)) ?_
   rintro v _ ⟨G1,hq,rfl⟩
   obtain⟨rfl,rfl⟩:=hq
   simp only[ae]
   refine⟨.inr ⟨_,.cU⟩,?_⟩
   refine .al 59 (.string (str x.nm)) rfl (by rw[Pw];rfl) ?_
   refine .eg 13 rfl (.fn rfl rfl .vI ah (oy db mb e x.nm hD.cS NX)) ?_
   rintro v _ ⟨G1,hq,rfl⟩
   obtain⟨rfl,rfl⟩:=hq
   simp only[ag,ae]
   refine ay ?_
   refine .dn ?_
   refine .ax fds 5 ?_
   refine .rd (.ld cV rfl .p2 rfl) ?_
   refine .rd (.slice (l:=1) (h:=q.bX.length+1) (m:=q.lc) Tryz.underlying55 dQ rfl rfl ⟨rfl,rfl⟩ ⟨_,rfl⟩ (by omega) (by omega) (by omega)) ?_
   refine .al 66 (.slice (some ⟨b9,o9+1,none⟩) q.bX.length (q.lc-1)) rfl (by rw[if_neg (by omega),h9];rfl) ?_
   refine .go fds 2 ?_
   refine .dc (.store mS rfl rfl .p2 rfl aU) ?_
   rintro _ _ rfl
   refine .nil ?_
   refine .mI (f:=SG db) (x:=x) (m:=(q.less (some ⟨b9,o9+1,none⟩)).ar) .p4 (by rw[dL hx (some ⟨b9,o9+1,none⟩)]) ?_
   refine .perm .mM ?_
   refine .ca (an (q.less (some ⟨b9,o9+1,none⟩)).lb ((q.less (some ⟨b9,o9+1,none⟩)).cells db) 57) (congrArg (fun z=>an q.lb z 57) (zA (db:=db) (la:=some ⟨b9,o9+1,none⟩) hx)) ?_
   refine .close (X:=arr 54 1 (q.less (some ⟨b9,o9+1,none⟩)).la (q.less (some ⟨b9,o9+1,none⟩)).lc ((q.less (some ⟨b9,o9+1,none⟩)).ar.flatMap sp)) .q5 (fun h H=>Fu hx h9 H) ?_
   refine .inBlock ?_
   exact(ih (q.less (some ⟨b9,o9+1,none⟩),e.del x.nm) (hD.step hx hle _) (by show(q.bX.tail).length<q.bX.length;rw[hx];exact Nat.lt_succ_self _)).to .r2 (.cons .p1 (.cons .p0 (.cons .p1 (.cons .p1 (.cons .p1 (.cons .p1 .nil))))))
  ·
   refine .go fds 5 ?_
   refine .pack (L:=[an q.lb (q.cells db) 57,arr 54 1 q.la q.lc (q.ar.flatMap sp),cD (SG db) q.ar]) .ez ?_
   refine .aG Tryz.func53 (.t1 rfl) .fw ?_
   exact⟨[_,_,_],⟨q,e,rfl,hD,rfl⟩,rfl⟩
 ·
  replace zB:=of_decide_eq_false zB
  refine .aH fds 17 ?_
  refine .pack (L:=[an q.lb (q.cells db) 57,arr 54 1 q.la q.lc (q.ar.flatMap sp),cD (SG db) q.ar]) .ez ?_
  refine .aG Tryz.func53 (.t1 rfl) .fw ?_
  exact⟨[_,_,_],⟨q,e,rfl,hD,rfl⟩,rfl⟩
theorem pn.Be{l q:Lx}{d e:Dk}{off:Int}(h:pn l d off q e)(hc:q.bX=[]∨q.ai.base<off)(h1:l.start≤off)(h2:a8 l≤l.start):q.ai.base≤off:=by
 rcases hc with hc|hc
 ·
  have:a8 q=q.ai.base:=by unfold a8 Lx.ar;rw[hc];rfl
  have:=h.base
  omega
 ·
  omega
theorem rM{l q:Lx}{d e:Dk}{off:Int}(h:pn l d off q e)(wU:q.ar.length=q.bX.length+1){z db:Nat}{sm:List Nat}{n:Int}:an l.lb (a6 (some ⟨q.ai.b,0,none⟩) db l.pre l.most l.start n l.la q.ar.length l.lc) 57=an (l.dy q z sm n).lb ((l.dy q z sm n).cells db) 57:=by
 rw[wU,←h.lb,←h.pre,←h.most,←h.start];rfl
theorem xF{l q:Lx}{t:List Sx}(ht:l.ar=q.ar++t){z:Nat}{sm:List Nat}{n:Int}{h:Hp}(H:bh [arr 54 1 l.la l.lc (l.ar.flatMap sp)] h):arr 54 1 l.la l.lc ((l.dy q z sm n).ar.flatMap sp) h:=by
 obtain⟨h1,_,_,hle,_,H1,_⟩:=H
 have e:(l.dy q z sm n).ar.flatMap sp=q.ar.flatMap sp:=by
  unfold Lx.ar Lx.dy;rw[List.flatMap_append,List.flatMap_append];rfl
 rw[e]
 rw[ht,List.flatMap_append]at H1
 exact Ft hle (arr.shrink H1)
theorem IR(db mb:Nat)(d:Dk)(l:Lx)(off:Int)(hd:d.ok)(hl:l.ok d)(h1:l.start≤off)(h2:off≤l.next)(yg:l.start≤aC (a8 l) (ie off l.all)):Cn Tryz.prog 50 [.pointer (some ⟨l.lb,0,none⟩),.int .i64 off] LV [LG db l,an db (d.cells mb) 74,mp aW Fl.val mb d.fs] fun v G=>∃q e,v=.int .i64 0∧tJ l d off q e∧G=[LG db q,an db (e.cells mb) 74,mp aW Fl.val mb e.fs]:=by
 refine .en Tryz.func50 fun R k=>?_
 have nK:=hl.start
 have vG:=hl.aJ
 have IL:=hl.ai.1.eC
 have Gj:l.next=l.ai.next:=rfl
 have Ai:=hl.len
 have Sn:l.ar.length=l.bX.length+1:=by unfold Lx.ar;simp
 have Sq:pn l d off {l with aJ:=l.start} d:=.begin hl hd h2
 refine .unpack (L:=[an l.lb (l.cells db) 57,arr 54 1 l.la l.lc (l.ar.flatMap sp),cD (SG db) l.ar]) .p0 ?_
 simp only[ag,ae]
 refine .perm (.cons .p2 (.cons .p0 (.cons .p0 (.cons .p0 (.cons .p0 (.cons .p0 .nil)))))) ?_
 refine .ca (cD (SG db) ({l with aJ:=l.start}:Lx).ar) (rfl) ?_
 refine .ax fds 11 ?_
 refine .rd (.ld ak rfl .p1 rfl) ?_
 refine .rd (.lt rfl rfl) ?_
 refine .al 11 (.bool false) rfl (aE (by omega)) ?_
 refine .go fds 5 ?_
 refine .on (t:=12) rfl rfl ?_
 refine .rd (.ld aN rfl .p1 rfl) ?_
 refine .on (t:=12) rfl rfl ?_
 refine .fn rfl rfl .nil ((af.lH .p0).mono fun _ h=>h l.ai l.cJ) (bZ db l.ai hl.ai.1) (fun v G1 hq=>?_)
 obtain⟨rfl,rfl⟩:=hq
 simp only[ae]
 refine .go fds 1 ?_
 refine .al 19 (.bool false) rfl (aE (by omega)) ?_
 refine .ax fds 9 ?_
 refine .rd (.ld cV rfl .p1 rfl) ?_
 refine .rd (.bP rfl rfl Tryz.underlying55 rfl) ?_
 refine .aH fds 2 ?_
 refine .al 5 (.int .i64 (({l with aJ:=l.start}:Lx).ar.length:Nat)) rfl (by rw[←Sn];rfl) ?_
 refine .go fds 2 ?_
 refine .loop (σ:=Lx×Dk) (fun⟨q,e⟩=>pn l d off q e) (fun⟨q,e⟩=>q.bX.length) (fun⟨q,e⟩=>[(0,.pointer (some ⟨l.lb,0,none⟩)),(1,.int .i64 off),(5,.int .i64 (q.ar.length:Nat))]) (fun⟨q,e⟩=>[an l.lb (l.cells db) 57,arr 54 1 l.la l.lc (l.ar.flatMap sp),cD (SG db) q.ar,an db (e.cells mb) 74,mp aW Fl.val mb e.fs,R]) ({l with aJ:=l.start},d) Sq .r3 (.cons .p1 (.cons .p1 (.cons .p0 (.cons .p0 (.cons .p0 (.cons .p0 .nil)))))) (fun s' hI ih=>?_)
 obtain⟨q,e⟩:=s'
 dsimp only at hI ih⊢
 have hD:=hI
 obtain⟨t,ht⟩:=hD.gN
 have wU:q.ar.length=q.bX.length+1:=by unfold Lx.ar;simp
 have Cr:q.ar.length≤l.ar.length:=by rw[ht,List.length_append];omega
 have A6:l.ar[q.ar.length-1]?=some q.ai:=by
  rw[ht,List.getElem?_append_left (by omega)];unfold Lx.ar;simp
 obtain⟨iG,Px,Da,M6⟩:=hD.ok.ai
 have Sr:=iG.bC
 have Ss:=iG.ed
 refine .go fds 2 ?_
 refine .tell (φ:=∃b o,l.la=some ⟨b,o,none⟩) ((af.arr .p1).mono fun _ h=>aD.addr h (by rw[au dO];omega)) (fun hh=>?_)
 obtain⟨b9,o9,h9⟩:=hh
 refine .ax fds 4 ?_
 refine .split (t:=28) rfl (fun Fv=>?_) (fun Fv=>?_)
 ·
  replace Fv:=of_decide_eq_true Fv
  obtain⟨r,y,hi⟩:∃r y,q.bX=r++[y]:=⟨q.bX.dropLast,q.bX.getLast (fun h=>by rw[h]at wU;simp at wU;omega),(List.dropLast_concat_getLast _).symm⟩
  have Py:q.ar.length-1=(q.pop r y).ar.length:=by rw[jp hi,List.length_append];rfl
  refine .go fds 3 ?_
  refine .on (t:=28) rfl rfl ?_
  refine .rd (.ld cV rfl .p0 rfl) ?_
  refine .go fds 1 ?_
  refine .on (t:=28) rfl rfl ?_
  refine .rd (.sub rfl rfl (by omega) (by omega)) ?_
  refine .al 34 (.int .i64 ((q.ar.length-1:Nat):Int)) rfl (congrArg (Value.int .i64) (by omega)) ?_
  refine .on (t:=28) rfl rfl ?_
  refine .rd (.indexAddr (b:=b9) (o:=o9) (j:=((q.ar.length-1:Nat):Int)) Tryz.underlying55 dQ (by show some (Value.slice (l.la) _ _)=_;rw[h9]) rfl (by omega) (by omega)) ?_
  refine .on (t:=28) rfl rfl ?_
  refine .rd (.load aN rfl (af.one (i:=0) (af.elem (f:=sp) dO (by decide) ((af.arr .p1).mono fun _ h=>h9▸h) A6) rfl)) ?_
  refine .on (t:=28) rfl rfl ?_
  refine .fn rfl rfl .nil ((af.lH .p2).mono fun _ h=>h q.ai q.cJ) (k6 db q.ai) (fun v G1 hq=>?_)
  obtain⟨rfl,rfl⟩:=hq
  simp only[ae]
  refine .aH fds 4 ?_
  refine .aM rfl (fun c4=>?_) (fun c4=>?_)
  ·
   have Su:off≤q.ai.base:=c4
   refine .go fds 3 ?_
   refine .dr [3,8,12] [an l.lb (l.cells db) 57,arr 54 1 l.la l.lc (l.ar.flatMap sp)] ?_
   refine .aq fds [0] ?_
   refine .aq fds [1] ?_
   refine .aq fds [2] ?_
   refine .re 3 rfl (.ld dh rfl .p0 rfl) .cU ?_
   refine .aq fds [4] ?_
   refine .aq fds [5] ?_
   refine .aq fds [6] ?_
   refine .aq fds [7] ?_
   refine .re 8 rfl (.ld cV rfl .p0 rfl) .cU ?_
   refine .aq fds [9] ?_
   refine .rq 10 rfl (.sub rfl rfl (by omega) (by omega)) ?_
   refine .al 53 (.int .i64 ((q.ar.length-1:Nat):Int)) rfl (congrArg (Value.int .i64) (by omega)) ?_
   refine .rq 11 rfl (.indexAddr (b:=b9) (o:=o9) (j:=((q.ar.length-1:Nat):Int)) Tryz.underlying55 dQ (by show some (Value.slice (l.la) _ _)=_;rw[h9]) rfl (by omega) (by omega)) ?_
   refine .re 12 rfl (.load aN rfl (af.one (i:=0) (af.elem (f:=sp) dO (by decide) ((af.arr .p1).mono fun _ h=>h9▸h) A6) rfl)) .cU ?_
   refine .eg 13 rfl (.fn rfl rfl .nil ((af.lH .p2).mono fun _ h=>h q.ai q.cJ) (k6 db q.ai)) ?_
   rintro v _ ⟨G1,hq,rfl⟩
   obtain⟨rfl,rfl⟩:=hq
   simp only[ae]
   refine⟨.inr ⟨_,.cU⟩,?_⟩
   refine .al 56 (.int .i64 (q.ai.base.toNat:Nat)) rfl (congrArg (Value.int .i64) (by omega)) ?_
   refine .eg 14 rfl (.fn rfl rfl .nil ((af.an .p0).and (af.pick .p5 k)) (pW l.lb db (some ⟨l.ai.b,0,none⟩) l.pre l.most l.start l.aJ l.la (l.bX.length+1) l.lc q.ai.base.toNat (by omega) hl.pre.len)) ?_
   rintro v _ ⟨G1,hq,rfl⟩
   obtain⟨rfl,rfl⟩:=hq
   simp only[ae]
   refine⟨.inr ⟨_,.cU⟩,?_⟩
   refine .al 57 (.string (str q.ai.nm)) rfl (by rw[Px,hD.pre];rfl) ?_
   refine .eg 15 rfl (.fn rfl rfl .vI ah (oy db mb e q.ai.nm hD.cS Da)) ?_
   rintro v _ ⟨G1,hq,rfl⟩
   obtain⟨rfl,rfl⟩:=hq
   simp only[ag,ae]
   refine ay ?_
   refine .dn ?_
   refine .ax fds 3 ?_
   refine .rd (.sub rfl rfl (by omega) (by omega)) ?_
   refine .al 42 (.int .i64 ((q.ar.length-1:Nat):Int)) rfl (congrArg (Value.int .i64) (by omega)) ?_
   refine .aH fds 2 ?_
   refine .al 5 (.int .i64 ((q.pop r y).ar.length:Nat)) rfl (by rw[Py]) ?_
   refine .mI (f:=SG db) (x:=q.ai) (m:=(q.pop r y).ar) .p4 (by rw[jp hi];exact List.perm_append_comm) ?_
   exact(ih (q.pop r y,e.del q.ai.nm) (hD.step hi Su h1) (by show r.length<q.bX.length;rw[hi,List.length_append];exact Nat.lt_succ_self _)).to .r3 (.cons .p4 (.cons .p4 (.cons .p1 (.cons .p1 (.cons .p1 (.cons .p1 .nil))))))
  ·
   have hc:q.bX=[]∨q.ai.base<off:=.inr (by omega)
   refine .go fds 2 ?_
   refine .tell (φ:=∃b o,l.la=some ⟨b,o,none⟩) ((af.arr .p1).mono fun _ h=>aD.addr h (by rw[au dO];omega)) (fun hh=>?_)
   obtain⟨b9,o9,h9⟩:=hh
   refine .tell (af.zz .p1) (fun hh=>?_)
   have iA:l.ar.length≤l.lc:=by rw[au dO]at hh;omega
   clear hh
   refine .ax fds 5 ?_
   refine .rd (.ld cV rfl .p0 rfl) ?_
   refine .rd (.move rfl) ?_
   refine .rd (.slice (l:=0) (h:=q.ar.length) (m:=l.lc) Tryz.underlying55 dQ rfl rfl ⟨_,rfl⟩ rfl (by omega) (by omega) (by omega)) ?_
   refine .al 65 (.slice l.la q.ar.length l.lc) rfl (by rw[h9];simp[cA]) ?_
   refine .go fds 2 ?_
   refine .dc (.store mS rfl rfl .p0 rfl aU) ?_
   rintro _ _ rfl
   refine .nil ?_
   refine .ca (an l.lb (a6 (some ⟨l.ai.b,0,none⟩) db l.pre l.most l.start l.aJ l.la q.ar.length l.lc) 57) (rfl) ?_
   refine .ax fds 6 ?_
   refine .rd (.ld cV rfl .p0 rfl) ?_
   refine .rd (.move rfl) ?_
   refine .rd (.sub rfl rfl (by omega) (by omega)) ?_
   refine .al 74 (.int .i64 ((q.ar.length-1:Nat):Int)) rfl (congrArg (Value.int .i64) (by omega)) ?_
   refine .rd (.indexAddr (b:=b9) (o:=o9) (j:=((q.ar.length-1:Nat):Int)) Tryz.underlying55 dQ (by show some (Value.slice (l.la) _ _)=_;rw[h9]) rfl (by omega) (by omega)) ?_
   refine .rd (.load aN rfl (af.one (i:=0) (af.elem (f:=sp) dO (by decide) ((af.arr .p1).mono fun _ h=>h9▸h) A6) rfl)) ?_
   refine .go fds 2 ?_
   refine .dc (.store dQ rfl rfl .p0 rfl aU) ?_
   rintro _ _ rfl
   refine .nil ?_
   refine .ca (an l.lb (a6 (some ⟨q.ai.b,0,none⟩) db l.pre l.most l.start l.aJ l.la q.ar.length l.lc) 57) (rfl) ?_
   refine .mI (f:=SG db) (x:=q.ai) (m:=q.bX) .p2 (oD q) ?_
   refine .unpack (L:=[an q.ai.b (q.ai.cells db) 110,arr 112 4 q.ai.aa q.ai.ac q.ai.rows,arr 3 1 q.ai.ia q.ai.ic (q.ai.sm.flatMap fI)]) .p0 ?_
   simp only[ag,ae]
   refine .ax fds 5 ?_
   refine .rd (.ld aN rfl .p4 rfl) ?_
   refine .rd (.move rfl) ?_
   refine .fn rfl rfl (.cons .p6 (.cons .p6 (.cons .p0 (.cons .p0 (.cons .p0 .nil))))) ah (tH db mb e q.ai off hD.cS iG Da M6 (hD.Be hc h1 nK.2.1) (by omega)) (fun v G1 hq=>?_)
   obtain⟨rfl,z,d',sm,hz,D9,AO,iJ,CQ,rfl⟩:=hq
   simp only[ag,ae]
   refine .nil ?_
   have hT:tJ l d off (l.dy q z sm (min l.aJ (aC q.ai.base (q.ai.bs.take z)))) d':=hD.last hc hz D9 AO iJ CQ yg vG.1 _ rfl
   have xG:(Sx.mk q.ai.b q.ai.nm q.ai.base (q.ai.bs.take z) sm q.ai.aa q.ai.ac q.ai.ia q.ai.ic).ok:=(hT.ok.gN _ (Lx.cJ _)).1
   have Pz:(Sx.mk q.ai.b q.ai.nm q.ai.base (q.ai.bs.take z) sm q.ai.aa q.ai.ac q.ai.ia q.ai.ic).next=(aC q.ai.base (q.ai.bs.take z)):=rfl
   have PA:l.start≤(aC q.ai.base (q.ai.bs.take z)):=by have h5:=hT.ok.start.2.2;have h6:=hT.start;have h7:(l.dy q z sm (min l.aJ (aC q.ai.base (q.ai.bs.take z)))).next=(aC q.ai.base (q.ai.bs.take z)):=rfl;omega
   refine .go fds 2 ?_
   refine .dr [3,8] [an l.lb (a6 (some ⟨q.ai.b,0,none⟩) db l.pre l.most l.start l.aJ l.la q.ar.length l.lc) 57] ?_
   refine .aq fds [0] ?_
   refine .aq fds [1] ?_
   refine .aq fds [2] ?_
   refine .re 3 rfl (.ld aN rfl .p0 rfl) .q6 ?_
   refine .aq fds [5] ?_
   refine .aq fds [6] ?_
   refine .aq fds [7] ?_
   refine .re 8 rfl (.ld ak rfl .p0 rfl) .q6 ?_
   refine .eg 4 rfl (.fn rfl rfl .nil ((af.an .p2).and ((af.arr .p3).and (af.arr .p4))) (bZ db (Sx.mk q.ai.b q.ai.nm q.ai.base (q.ai.bs.take z) sm q.ai.aa q.ai.ac q.ai.ia q.ai.ic) xG)) ?_
   rintro v _ ⟨G1,hq,rfl⟩
   obtain⟨rfl,rfl⟩:=hq
   simp only[ae]
   refine⟨.inr ⟨_,.q6⟩,?_⟩
   refine .al 89 (.int .i64 (aC q.ai.base (q.ai.bs.take z))) rfl (rfl) ?_
   refine .aq fds [9] ?_
   refine .al 94 (.bool false) rfl (aE (by show¬(aC q.ai.base (q.ai.bs.take z))<l.start;omega)) ?_
   refine .dn ?_
   refine .go fds 3 ?_
   refine .dr [4,8] [an l.lb (a6 (some ⟨q.ai.b,0,none⟩) db l.pre l.most l.start l.aJ l.la q.ar.length l.lc) 57] ?_
   refine .aq fds [0] ?_
   refine .aq fds [1] ?_
   refine .aq fds [2] ?_
   refine .aq fds [3] ?_
   refine .re 4 rfl (.ld ak rfl .p0 rfl) .q6 ?_
   refine .aq fds [5] ?_
   refine .aq fds [6] ?_
   refine .aq fds [7] ?_
   refine .re 8 rfl (.ld aN rfl .p0 rfl) .q6 ?_
   refine .eg 9 rfl (.fn rfl rfl .nil ((af.an .p2).and ((af.arr .p3).and (af.arr .p4))) (bZ db (Sx.mk q.ai.b q.ai.nm q.ai.base (q.ai.bs.take z) sm q.ai.aa q.ai.ac q.ai.ia q.ai.ic) xG)) ?_
   rintro v _ ⟨G1,hq,rfl⟩
   obtain⟨rfl,rfl⟩:=hq
   simp only[ae]
   refine⟨.inr ⟨_,.q6⟩,?_⟩
   refine .al 110 (.int .i64 (aC q.ai.base (q.ai.bs.take z))) rfl (rfl) ?_
   refine .rq 10 rfl (.min2 rfl rfl rfl) ?_
   refine .al 111 (.int .i64 (min l.aJ (aC q.ai.base (q.ai.bs.take z)))) rfl (congrArg (Value.int .i64) (by omega)) ?_
   refine .aq fds [11] ?_
   refine .aq fds [12] ?_
   refine .eh 13 rfl (.store cc rfl rfl .p6 rfl aU) ?_
   rintro _ _ rfl
   refine ay ?_
   refine .dn ?_
   refine .go fds 4 ?_
   refine .ca (an (l.dy q z sm (min l.aJ (aC q.ai.base (q.ai.bs.take z)))).lb ((l.dy q z sm (min l.aJ (aC q.ai.base (q.ai.bs.take z)))).cells db) 57) ((rM hD wU)) ?_
   refine .pack (L:=[an q.ai.b ((Sx.mk q.ai.b q.ai.nm q.ai.base (q.ai.bs.take z) sm q.ai.aa q.ai.ac q.ai.ia q.ai.ic).cells db) 110,arr 112 4 q.ai.aa q.ai.ac (Sx.mk q.ai.b q.ai.nm q.ai.base (q.ai.bs.take z) sm q.ai.aa q.ai.ac q.ai.ia q.ai.ic).rows,arr 3 1 q.ai.ia q.ai.ic (sm.flatMap fI)]) .GO ?_
   refine .close (X:=cD (SG db) (l.dy q z sm (min l.aJ (aC q.ai.base (q.ai.bs.take z)))).ar) .Lt (fun h H=>iF (bX:=q.bX) (s:=(l.dy q z sm (min l.aJ (aC q.ai.base (q.ai.bs.take z)))).ai) H) ?_
   refine .close (X:=arr 54 1 l.la l.lc ((l.dy q z sm (min l.aJ (aC q.ai.base (q.ai.bs.take z)))).ar.flatMap sp)) .q4 (fun h H=>xF ht H) ?_
   refine .pack (L:=[an (l.dy q z sm (min l.aJ (aC q.ai.base (q.ai.bs.take z)))).lb ((l.dy q z sm (min l.aJ (aC q.ai.base (q.ai.bs.take z)))).cells db) 57,arr 54 1 l.la l.lc ((l.dy q z sm (min l.aJ (aC q.ai.base (q.ai.bs.take z)))).ar.flatMap sp),cD (SG db) (l.dy q z sm (min l.aJ (aC q.ai.base (q.ai.bs.take z)))).ar]) .DA ?_
   refine .aG Tryz.func50 (.t1 rfl) .fw ?_
   exact⟨[_,_,_],⟨_,_,rfl,hT,rfl⟩,rfl⟩
 ·
  replace Fv:=of_decide_eq_false Fv
  have hc:q.bX=[]∨q.ai.base<off:=.inl (List.eq_nil_of_length_eq_zero (by omega))
  refine .aH fds 16 ?_
  refine .tell (φ:=∃b o,l.la=some ⟨b,o,none⟩) ((af.arr .p1).mono fun _ h=>aD.addr h (by rw[au dO];omega)) (fun hh=>?_)
  obtain⟨b9,o9,h9⟩:=hh
  refine .tell (af.zz .p1) (fun hh=>?_)
  have iA:l.ar.length≤l.lc:=by rw[au dO]at hh;omega
  clear hh
  refine .ax fds 5 ?_
  refine .rd (.ld cV rfl .p0 rfl) ?_
  refine .rd (.move rfl) ?_
  refine .rd (.slice (l:=0) (h:=q.ar.length) (m:=l.lc) Tryz.underlying55 dQ rfl rfl ⟨_,rfl⟩ rfl (by omega) (by omega) (by omega)) ?_
  refine .al 65 (.slice l.la q.ar.length l.lc) rfl (by rw[h9];simp[cA]) ?_
  refine .go fds 2 ?_
  refine .dc (.store mS rfl rfl .p0 rfl aU) ?_
  rintro _ _ rfl
  refine .nil ?_
  refine .ca (an l.lb (a6 (some ⟨l.ai.b,0,none⟩) db l.pre l.most l.start l.aJ l.la q.ar.length l.lc) 57) (rfl) ?_
  refine .ax fds 6 ?_
  refine .rd (.ld cV rfl .p0 rfl) ?_
  refine .rd (.move rfl) ?_
  refine .rd (.sub rfl rfl (by omega) (by omega)) ?_
  refine .al 74 (.int .i64 ((q.ar.length-1:Nat):Int)) rfl (congrArg (Value.int .i64) (by omega)) ?_
  refine .rd (.indexAddr (b:=b9) (o:=o9) (j:=((q.ar.length-1:Nat):Int)) Tryz.underlying55 dQ (by show some (Value.slice (l.la) _ _)=_;rw[h9]) rfl (by omega) (by omega)) ?_
  refine .rd (.load aN rfl (af.one (i:=0) (af.elem (f:=sp) dO (by decide) ((af.arr .p1).mono fun _ h=>h9▸h) A6) rfl)) ?_
  refine .go fds 2 ?_
  refine .dc (.store dQ rfl rfl .p0 rfl aU) ?_
  rintro _ _ rfl
  refine .nil ?_
  refine .ca (an l.lb (a6 (some ⟨q.ai.b,0,none⟩) db l.pre l.most l.start l.aJ l.la q.ar.length l.lc) 57) (rfl) ?_
  refine .mI (f:=SG db) (x:=q.ai) (m:=q.bX) .p2 (oD q) ?_
  refine .unpack (L:=[an q.ai.b (q.ai.cells db) 110,arr 112 4 q.ai.aa q.ai.ac q.ai.rows,arr 3 1 q.ai.ia q.ai.ic (q.ai.sm.flatMap fI)]) .p0 ?_
  simp only[ag,ae]
  refine .ax fds 5 ?_
  refine .rd (.ld aN rfl .p4 rfl) ?_
  refine .rd (.move rfl) ?_
  refine .fn rfl rfl (.cons .p6 (.cons .p6 (.cons .p0 (.cons .p0 (.cons .p0 .nil))))) ah (tH db mb e q.ai off hD.cS iG Da M6 (hD.Be hc h1 nK.2.1) (by omega)) (fun v G1 hq=>?_)
  obtain⟨rfl,z,d',sm,hz,D9,AO,iJ,CQ,rfl⟩:=hq
  simp only[ag,ae]
  refine .nil ?_
  have hT:tJ l d off (l.dy q z sm (min l.aJ (aC q.ai.base (q.ai.bs.take z)))) d':=hD.last hc hz D9 AO iJ CQ yg vG.1 _ rfl
  have xG:(Sx.mk q.ai.b q.ai.nm q.ai.base (q.ai.bs.take z) sm q.ai.aa q.ai.ac q.ai.ia q.ai.ic).ok:=(hT.ok.gN _ (Lx.cJ _)).1
  have Pz:(Sx.mk q.ai.b q.ai.nm q.ai.base (q.ai.bs.take z) sm q.ai.aa q.ai.ac q.ai.ia q.ai.ic).next=(aC q.ai.base (q.ai.bs.take z)):=rfl
  have PA:l.start≤(aC q.ai.base (q.ai.bs.take z)):=by have h5:=hT.ok.start.2.2;have h6:=hT.start;have h7:(l.dy q z sm (min l.aJ (aC q.ai.base (q.ai.bs.take z)))).next=(aC q.ai.base (q.ai.bs.take z)):=rfl;omega
  refine .go fds 2 ?_
  refine .dr [3,8] [an l.lb (a6 (some ⟨q.ai.b,0,none⟩) db l.pre l.most l.start l.aJ l.la q.ar.length l.lc) 57] ?_
  refine .aq fds [0] ?_
  refine .aq fds [1] ?_
  refine .aq fds [2] ?_
  refine .re 3 rfl (.ld aN rfl .p0 rfl) .q6 ?_
  refine .aq fds [5] ?_
  refine .aq fds [6] ?_
  refine .aq fds [7] ?_
  refine .re 8 rfl (.ld ak rfl .p0 rfl) .q6 ?_
  refine .eg 4 rfl (.fn rfl rfl .nil ((af.an .p2).and ((af.arr .p3).and (af.arr .p4))) (bZ db (Sx.mk q.ai.b q.ai.nm q.ai.base (q.ai.bs.take z) sm q.ai.aa q.ai.ac q.ai.ia q.ai.ic) xG)) ?_
  rintro v _ ⟨G1,hq,rfl⟩
  obtain⟨rfl,rfl⟩:=hq
  simp only[ae]
  refine⟨.inr ⟨_,.q6⟩,?_⟩
  refine .al 89 (.int .i64 (aC q.ai.base (q.ai.bs.take z))) rfl (rfl) ?_
  refine .aq fds [9] ?_
  refine .al 94 (.bool false) rfl (aE (by show¬(aC q.ai.base (q.ai.bs.take z))<l.start;omega)) ?_
  refine .dn ?_
  refine .go fds 3 ?_
  refine .dr [4,8] [an l.lb (a6 (some ⟨q.ai.b,0,none⟩) db l.pre l.most l.start l.aJ l.la q.ar.length l.lc) 57] ?_
  refine .aq fds [0] ?_
  refine .aq fds [1] ?_
  refine .aq fds [2] ?_
  refine .aq fds [3] ?_
  refine .re 4 rfl (.ld ak rfl .p0 rfl) .q6 ?_
  refine .aq fds [5] ?_
  refine .aq fds [6] ?_
  refine .aq fds [7] ?_
  refine .re 8 rfl (.ld aN rfl .p0 rfl) .q6 ?_
  refine .eg 9 rfl (.fn rfl rfl .nil ((af.an .p2).and ((af.arr .p3).and (af.arr .p4))) (bZ db (Sx.mk q.ai.b q.ai.nm q.ai.base (q.ai.bs.take z) sm q.ai.aa q.ai.ac q.ai.ia q.ai.ic) xG)) ?_
  rintro v _ ⟨G1,hq,rfl⟩
  obtain⟨rfl,rfl⟩:=hq
  simp only[ae]
  refine⟨.inr ⟨_,.q6⟩,?_⟩
  refine .al 110 (.int .i64 (aC q.ai.base (q.ai.bs.take z))) rfl (rfl) ?_
  refine .rq 10 rfl (.min2 rfl rfl rfl) ?_
  refine .al 111 (.int .i64 (min l.aJ (aC q.ai.base (q.ai.bs.take z)))) rfl (congrArg (Value.int .i64) (by omega)) ?_
  refine .aq fds [11] ?_
  refine .aq fds [12] ?_
  refine .eh 13 rfl (.store cc rfl rfl .p6 rfl aU) ?_
  rintro _ _ rfl
  refine ay ?_
  refine .dn ?_
  refine .go fds 4 ?_
  refine .ca (an (l.dy q z sm (min l.aJ (aC q.ai.base (q.ai.bs.take z)))).lb ((l.dy q z sm (min l.aJ (aC q.ai.base (q.ai.bs.take z)))).cells db) 57) ((rM hD wU)) ?_
  refine .pack (L:=[an q.ai.b ((Sx.mk q.ai.b q.ai.nm q.ai.base (q.ai.bs.take z) sm q.ai.aa q.ai.ac q.ai.ia q.ai.ic).cells db) 110,arr 112 4 q.ai.aa q.ai.ac (Sx.mk q.ai.b q.ai.nm q.ai.base (q.ai.bs.take z) sm q.ai.aa q.ai.ac q.ai.ia q.ai.ic).rows,arr 3 1 q.ai.ia q.ai.ic (sm.flatMap fI)]) .GO ?_
  refine .close (X:=cD (SG db) (l.dy q z sm (min l.aJ (aC q.ai.base (q.ai.bs.take z)))).ar) .Lt (fun h H=>iF (bX:=q.bX) (s:=(l.dy q z sm (min l.aJ (aC q.ai.base (q.ai.bs.take z)))).ai) H) ?_
  refine .close (X:=arr 54 1 l.la l.lc ((l.dy q z sm (min l.aJ (aC q.ai.base (q.ai.bs.take z)))).ar.flatMap sp)) .q4 (fun h H=>xF ht H) ?_
  refine .pack (L:=[an (l.dy q z sm (min l.aJ (aC q.ai.base (q.ai.bs.take z)))).lb ((l.dy q z sm (min l.aJ (aC q.ai.base (q.ai.bs.take z)))).cells db) 57,arr 54 1 l.la l.lc ((l.dy q z sm (min l.aJ (aC q.ai.base (q.ai.bs.take z)))).ar.flatMap sp),cD (SG db) (l.dy q z sm (min l.aJ (aC q.ai.base (q.ai.bs.take z)))).ar]) .DA ?_
  refine .aG Tryz.func50 (.t1 rfl) .fw ?_
  exact⟨[_,_,_],⟨_,_,rfl,hT,rfl⟩,rfl⟩
def pS(s:Sx)(k:Int)(i:Nat):Bool:=decide (k<((s.bs[i]?).map fun b=>(((flat (s.bs.take i)).length+(enc b).length:Nat):Int)).getD 0)
def dI(d:Dk):Prop:=∀n,(d.get n).isSome=true→n.length≤64
theorem dI.all{d:Dk}(h:dI d):∀p∈d.fs,p.1.length≤64:=fun _ hp=>h _ (er.2 (List.mem_map_of_mem hp))
theorem dI.put{d:Dk}(h:dI d){n:Nm}{f:Fl}(hn:n.length≤64):dI (d.put n f):=fun m hm=>by
 rw[Dk.jF]at hm
 split at hm
 ·
  rename_i e;rw[e];exact hn
 ·
  exact h m hm
structure KO(pre:Nm)(d:Dk):Prop where
 wQ:(d.get (aP pre)).isSome=false
 ar:∀u,u≤1000000000→(d.get (nameOf pre u)).isSome=false
structure dG(Nd:Nm)(most:Int)(d:Dk)(l:Lx)(d':Dk):Prop where
 ok:l.ok d'
 cS:d'.ok
 pre:l.pre=Nd
 most:l.most=most
 start:l.start=0
 aJ:l.aJ=0
 bX:l.bX=[]
 bs:l.ai.bs=[]
 base:l.ai.base=0
 size:d'.size=d.size
 used:d'.used=d.used
 len:d'.fs.length≤d.fs.length+1
 own:mv l d'
 safe:(d'.file l.ai.nm).safe=0
 eF:∀n,(∀u,u≤1000000000→n≠nameOf Nd u)→d'.file n=d.file n∧d'.get n=d.get n
theorem dG.full{pre most d l d'}(h:dG pre most d l d'):Full l d':=fun s hs=>by rw[h.bX]at hs;cases hs
theorem dG.all{pre most d l d'}(h:dG pre most d l d'):l.all=[]:=by unfold Lx.all Lx.ar;rw[h.bX];simp[h.bs]
theorem dG.next{pre most d l d'}(h:dG pre most d l d'):l.next=0:=by show aC l.ai.base l.ai.bs=0;rw[h.bs,h.base];rfl
theorem dG.Nf{pre most d l d'}(h:dG pre most d l d'):a8 l=0:=by unfold a8 Lx.ar;rw[h.bX];exact h.base
theorem dG.ar{pre most d l d'}(h:dG pre most d l d'):l.ar.length=1:=by unfold Lx.ar;rw[h.bX];rfl
theorem zC{pre:Nm}{d:Dk}(h:KO pre d):bj pre (bk (d.fs.map (·.1)))=[]:=by
 refine List.eq_nil_iff_forall_not_mem.2 fun u hu=>?_
 rw[eo,dF,←er]at hu
 rw[h.ar u hu.1]at hu
 cases hu.2
theorem xH(db mb:Nat)(d:Dk)(pre:Nm)(most:Int)(hd:d.ok)(hp:oe pre)(hs:dI d)(hn:d.fs.length<256)(hf:KO pre d)(h1:256≤most)(h2:most≤1000000):Cn Tryz.prog 32 [.pointer (some ⟨db,0,none⟩),aW pre,.int .i64 most] LV [an db (d.cells mb) 74,mp aW Fl.val mb d.fs] fun v G=>∃l d',v=.tuple #[.pointer (some ⟨l.lb,0,none⟩),.int .i64 0]∧dG pre most d l d'∧G=[LG db l,an db (d'.cells mb) 74,mp aW Fl.val mb d'.fs]:=by
 have h0:d.file (nameOf pre 0)=pF:=Dk.dJ (hf.ar 0 (by decide))
 refine(Fh db mb d pre most hd hp hs.all (by omega) h1 h2 hf.wQ (zC hf) hn (by rw[h0];rfl)).mono fun v G h=>?_
 obtain⟨lx,sb,sm,aa,ac,ia,ic,qa,qc,rfl,iJ,rfl⟩:=h
 have hu:=Dk.cf hd (nameOf pre 0) ⟨[],0⟩
 rw[h0]at hu
 have e0:pF.b.length=0:=rfl
 dsimp only[List.length_nil]at hu
 refine⟨zv lx pre most sb sm aa ac ia ic qa qc,d.put (nameOf pre 0) ⟨[],0⟩,rfl,⟨IG hp h1 h2 iJ,Dk.dN hd (by dsimp only[List.length_nil];have:=hd.used;omega) (Nat.le_refl _),rfl,rfl,rfl,rfl,rfl,rfl,rfl,rfl,by omega,gC _ _ _,fun u hu hg=>⟨_,.head _,?_⟩,by show((d.put _ _).file (nameOf pre 0)).safe=0;rw[Dk.aV],fun n hn=>Dk.aK _ _ (hn 0 (by decide))⟩,rfl⟩
 show(0:Int).toNat=u
 by_cases hx:nameOf pre u=nameOf pre 0
 ·
  exact(ci hx).symm
 ·
  have Cs:(d.get (nameOf pre u)).isSome=true:=by rw[←(Dk.aK d _ hx).2];exact hg
  rw[hf.ar u hu]at Cs;cases Cs
theorem jX.short{l l':Lx}{d d':Dk}{b:aQ}(h:jX l d b l' d')(hp:oe l.pre)(hs:dI d):dI d':=fun n hn=>by
 by_cases hx:∃u,u≤1000000000∧n=nameOf l.pre u
 ·
  obtain⟨u,hu,rfl⟩:=hx
  rw[dD (by omega)];have:=hp.len;omega
 ·
  rw[(h.eF n fun u hu e=>hx ⟨u,hu,e⟩).2]at hn;exact hs n hn
theorem dG.short{pre:Nm}{most:Int}{l:Lx}{d d':Dk}(h:dG pre most d l d')(hp:oe pre)(hs:dI d):dI d':=fun n hn=>by
 by_cases hx:∃u,u≤1000000000∧n=nameOf pre u
 ·
  obtain⟨u,hu,rfl⟩:=hx
  rw[dD (by omega)];have:=hp.len;omega
 ·
  rw[(h.eF n fun u hu e=>hx ⟨u,hu,e⟩).2]at hn;exact hs n hn
theorem jq.short{l l':Lx}{d d':Dk}{off w:Nat}(h:jq l d off w l' d')(hl:l.ok d)(hs:dI d):dI d':=fun n hn=>by
 have AW:=hl.pre.len
 by_cases hx:n=aP l.pre
 ·
  subst hx;unfold aP;rw[List.length_append];show _+5≤64;omega
 ·
  by_cases hy:∃s∈l.bX,n=s.nm
  ·
   obtain⟨s,lu,rfl⟩:=hy
   obtain⟨k1,k2,_,_⟩:=hl.gN s (List.mem_append_left _ lu)
   have:=k1.bC;have:=k1.ed
   rw[k2,dD (by omega)];omega
  ·
   rw[h.eF n hx fun s lu=>.inr fun e=>hy ⟨s,lu,e⟩]at hn;exact hs n hn
def sync(l:Lx)(d:Dk):Dk:=d.put l.ai.nm ⟨(d.file l.ai.nm).b,(d.file l.ai.nm).b.length⟩
structure zD(l:Lx)(d d':Dk):Prop where
 ok:l.ok d'
 cS:d'.ok
 size:d'.size=d.size
 used:d'.used=d.used
 len:d'.fs.length=d.fs.length
 own:mv l d→mv l d'
 full:Full l d→Full l d'
 file:d'.file l.ai.nm=⟨(d.file l.ai.nm).b,(d.file l.ai.nm).b.length⟩
 eF:∀n,n≠l.ai.nm→d'.file n=d.file n∧d'.get n=d.get n
 names:∀n,(d'.get n).isSome=(d.get n).isSome
theorem Bf{l:Lx}{d:Dk}(hl:l.ok d)(hd:d.ok):zD l d (sync l d):=by
 obtain⟨c1,c2,c3,c4⟩:=hl.ai
 have ph:∀n,((sync l d).get n).isSome=(d.get n).isSome:=fun n=>by
  unfold sync;rw[Dk.jF]
  split
  ·
   rename_i e;rw[e,c3];rfl
  ·
   rfl
 have hu:=Dk.cf hd l.ai.nm ⟨(d.file l.ai.nm).b,(d.file l.ai.nm).b.length⟩
 have pq:∀n,n≠l.ai.nm→(sync l d).file n=d.file n∧(sync l d).get n=d.get n:=fun n hn=>Dk.aK _ _ hn
 refine⟨⟨hl.pre,fun s hs=>?_,hl.link,hl.ne,hl.start,hl.aJ,hl.most,hl.len⟩,Dk.dN hd (by dsimp only;have:=hd.used;omega) (Nat.le_refl _),rfl,by dsimp only at hu;unfold sync;omega,gD c3,fun ho u hu hg=>ho u hu (by rw[←ph];exact hg),fun hf s hs=>?_,Dk.aV _ _ _,pq,ph⟩
 ·
  rcases List.mem_append.1 hs with hs|hs
  ·
   obtain⟨k1,k2,k3,k4⟩:=hl.gN s (List.mem_append_left _ hs)
   obtain⟨m1,m2⟩:=pq s.nm (hl.kG hs)
   exact⟨k1,k2,by rw[m2];exact k3,by rw[m1];exact k4⟩
  ·
   rw[List.mem_singleton.1 hs]
   exact⟨c1,c2,by rw[ph];exact c3,by unfold sync;rw[Dk.aV];exact c4⟩
 ·
  rw[(pq s.nm (hl.kG hs)).1];exact hf s hs
theorem kJ{pre:Nm}{b:Nat}:∀{l:List Nat} {d:Dk},b∈l→(bO pre l d).get (nameOf pre b)=none
 |x::l,d,h=>by
  by_cases hb:b∈l
  ·
   exact kJ (l:=l) (d:=d.del (nameOf pre x)) hb
  ·
   have hx:b=x:=(List.mem_cons.1 h).resolve_right hb
   subst hx
   refine(jO (l:=l) (d:=d.del (nameOf pre b)) fun y hy e=>hb (by rw[ci e];exact hy)).trans ?_
   rw[Dk.kX,if_pos rfl]
theorem rN{pre:Nm}:∀{l:List Nat} {d:Dk},(bO pre l d).fs.length≤d.fs.length
 |[],_=>Nat.le_refl _
 |x::l,d=>Nat.le_trans (rN (l:=l) (d:=d.del (nameOf pre x))) (kI _ _)
structure kK(l:Lx)(nm:Nm)(d e:Dk):Prop where
 cS:e.ok
 ok:l.ok e
 own:mv l d→mv l e
 full:Full l d→Full l e
 short:dI d→dI e
 size:e.size=d.size
 len:e.fs.length≤d.fs.length+1
 eF:∀n,n≠nm→e.file n=d.file n∧e.get n=d.get n
theorem kK.put{l:Lx}{d:Dk}{nm:Nm}{f:Fl}(hd:d.ok)(hl:l.ok d)(hn:nm.length≤64)(hf:∀u,u≤1000000000→nm≠nameOf l.pre u)(hu:d.used+f.b.length≤d.size+(d.file nm).b.length)(hs:f.safe≤f.b.length):kK l nm d (d.put nm f):=by
 have pq:∀s∈l.ar,s.nm≠nm:=fun s hs e=>by
  obtain⟨k1,k2,_,_⟩:=hl.gN s hs
  have:=k1.bC;have:=k1.ed
  exact hf s.base.toNat (by omega) (e▸k2)
 refine⟨Dk.dN hd hu hs,⟨hl.pre,fun s hs=>?_,hl.link,hl.ne,hl.start,hl.aJ,hl.most,hl.len⟩,fun ho u hu hg=>ho u hu ?_,fun h s hs=>?_,fun h=>h.put hn,rfl,gC _ _ _,fun n hn=>Dk.aK _ _ hn⟩
 ·
  obtain⟨k1,k2,k3,k4⟩:=hl.gN s hs
  obtain⟨m1,m2⟩:=Dk.aK d f (pq s hs)
  exact⟨k1,k2,by rw[m2];exact k3,by rw[m1];exact k4⟩
 ·
  rw[←(Dk.aK d f (fun e=>hf u hu e.symm)).2];exact hg
 ·
  rw[(Dk.aK d f (pq s (List.mem_append_left _ hs))).1];exact h s hs
theorem kK.refl{l:Lx}{d:Dk}{nm:Nm}(hd:d.ok)(hl:l.ok d):kK l nm d d:=⟨hd,hl,id,id,id,rfl,Nat.le_succ _,fun _ _=>⟨rfl,rfl⟩⟩
def dw(d:Dk)(nm:Nm)(es:List Ep):Prop:=((d.get nm).isSome=false∧es=[])∨((d.get nm).isSome=true∧d.file nm=⟨summed (bG es),(summed (bG es)).length⟩)
theorem dw.len{d:Dk}{nm:Nm}{es:List Ep}(h:dw d nm es)(he:bM es):(d.file nm).b.length≤4020:=by
 rcases h with⟨h,_⟩|⟨_,h⟩
 ·
  rw[Dk.dJ h];exact Nat.zero_le _
 ·
  rw[h];have:=nf he;have:=he.len;show(summed (bG es)).length≤_;rw[fh];omega
theorem dw.same{d e:Dk}{nm:Nm}{es:List Ep}(h:dw d nm es)(hf:e.file nm=d.file nm)(hg:(e.get nm).isSome=(d.get nm).isSome):dw e nm es:=by
 unfold dw;rw[hf,hg];exact h
theorem zE{es:List Ep}(he:bM es):(summed (bG es)).length≤4014:=by
 rw[fh];have:=nf he;have:=he.len;omega
theorem fp{d:Dk}{l:Lx}{c:Cx}{es:List Ep}(hd:d.ok)(hl:l.ok d)(hc:c.nm=ek l.pre)(he:bM es)(hr:d.used+4020≤d.size)(hh:dw d c.nm c.es):kK l (ek l.pre) d (bw d c es)∧dw (bw d c es) c.nm es∧(bw d c es).used+(d.file (ek l.pre)).b.length≤d.used+max 4014 (d.file (ek l.pre)).b.length:=by
 have hle:=zE he
 unfold bw
 by_cases h:es=c.es
 ·
  rw[if_pos h];exact⟨.refl hd hl,h▸hh,by omega⟩
 ·
  rw[if_neg h,hc]
  have hu:=Dk.cf hd (ek l.pre) ⟨summed (bG es),(summed (bG es)).length⟩
  dsimp only at hu
  exact⟨.put hd hl (jm hl.pre).2.1 (fun u hu=>fK hu) (by dsimp only;omega) (Nat.le_refl _),.inr ⟨Dk.cB _ _ _,Dk.aV _ _ _⟩,by omega⟩
def cg(es:List Ep)(ep off:Int):List Ep:=if cu es<ep then bg off es++[(ep,off)]else es
theorem bM.next{es:List Ep}(h:bM es){ep off:Int}(h1:cF ep)(h2:cF off)(hn:es.length<200):bM (cg es ep off):=by
 unfold cg
 split
 ·
  rename_i hl
  have hc:=h.cut off
  refine hc.more (x:=(ep,off)) h1 h2 ?_ (fun e he=>of_decide_eq_true (List.mem_filter.1 he).2) (Nat.lt_of_le_of_lt (List.length_filter_le ..) hn)
  show cu (bg off es)<ep
  cases hg:(bg off es).getLast? with
  |none=>unfold cu;rw[hg];unfold cF at h1;show(-1:Int)<ep;omega
  |some x=>
   unfold cu;rw[hg]
   have:=h.le_last x (List.mem_filter.1 (List.mem_of_getLast? hg)).1
   show x.1<ep;omega
 ·
  exact h
structure l5(s:St)(d:Dk)(b:aQ)(s':St)(d':Dk):Prop where
 app:jX s.l (bw d s.c (cg s.c.es b.bt b.base)) b s'.l d'
 sx:s'.sx=s.sx
 nm:s'.c.nm=s.c.nm
 es:s'.c.es=cg s.c.es b.bt b.base
 t:bf s'.t.m=note (bf s.t.m) b
structure KP(s:St)(d:Dk)(off:Int)(s':St)(d':Dk):Prop where
 cut:∃e,tJ s.l d off s'.l e∧d'=bw e s.c (bg s'.l.next s.c.es)
 sx:s'.sx=s.sx
 nm:s'.c.nm=s.c.nm
 es:s'.c.es=bg s'.l.next s.c.es
 t:bf s'.t.m=iK s'.l.next (bf s.t.m)
def gJ(d:Dk)(s:St):Dk:=d.put (eY s.l.pre) ⟨dH (bf s.t.m),(dH (bf s.t.m)).length⟩
structure Fw(s:St)(d:Dk)(off:Nat)(s':St)(d':Dk):Prop where
 del:∃e,jq s.l (gJ d s) off (max s.l.aJ off).toNat s'.l e∧d'=bw e s.c (dm off s.c.es)
 sx:s'.sx=s.sx
 nm:s'.c.nm=s.c.nm
 es:s'.c.es=dm off s.c.es
 t:bf s'.t.m=uO off (bf s.t.m)
def ig(t:Tm)(bs:List aQ):Prop:=∀i b,bs[i]?=some b→cC ((bs.take i).foldl note t)∧0<b.pid∧b.fits∧right b=0∧late (aA ((bs.take i).foldl note t) b.pid) b=false
def Lx.fN(l:Lx):List aQ:=bJ l.start l.all
def vq(d:Dk)(nm:Nm)(D:Tm):Prop:=((d.get nm).isSome=false∧D=[])∨((d.get nm).isSome=true∧(d.file nm).b=gM D∧jL D∧D.length≤1000000∧gz D≤400000000)
theorem cC.nil:cC []:=⟨.nil,fun _ h=>(by cases h),fun _ h=>(by cases h),fun _ h=>(by cases h),fun _ h=>(by cases h)⟩
theorem vq.lf{d:Dk}{nm:Nm}{D:Tm}(h:vq d nm D):cC D:=by
 rcases h with⟨_,rfl⟩|h
 ·
  exact .nil
 ·
  exact h.2.2.1.tocC
structure Bg(pre:Nm)(es:List Ep)(D:Tm)(l:Lx)(d:Dk):Prop where
 cS:d.ok
 ok:l.ok d
 xI:l.pre=pre
 cap:l.all.length≤100000000
 IS:bM es
 eM:dw d (ek pre) es
 zF:vq d (eY pre) D
 room:d.used+4020≤d.size
 len:d.fs.length<254
 ep:∀b∈l.fN,b.bt≤cu (bg l.next es)
 notes:ig (iK l.start D) l.fN
structure Bh(pre:Nm)(es:List Ep)(D:Tm)(s:St)(e d':Dk):Prop where
 QL:d'=bw e ⟨s.c.cb,ek pre,es,none,0⟩ (bg s.l.next es)
 nm:s.c.nm=ek pre
 es:s.c.es=bg s.l.next es
 t:bf s.t.m=s.l.fN.foldl note (iK s.l.start D)
theorem dw.JO{d:Dk}{nm:Nm}{es:List Ep}(h:dw d nm es):((d.get nm).isSome=false∧es=[])∨((d.get nm).isSome=true∧(d.file nm).b=summed (bG es)):=by
 rcases h with h|⟨h1,h2⟩
 ·
  exact .inl h
 ·
  exact .inr ⟨h1,by rw[h2]⟩
def gh(ep pid pe seq:Int)(n:Nat)(u:Int):aQ:=⟨u,ep,pid,pe,seq,List.replicate n nE⟩
structure kL(ep pid pe seq:Int)(n:Nat)(u:Int):Prop where
 ep:cF ep
 pid:1≤pid∧pid≤1000000000
 pe:0≤pe∧pe≤1000000000
 seq:0≤seq∧seq≤100000
 n:1≤n∧n≤64
 u:0≤u∧u≤100000000
theorem jP(ep pid pe seq:Int)(n:Nat)(u:Int):(gh ep pid pe seq n u).aS.length=n:=List.length_replicate ..
theorem xJ(ep pid pe seq:Int)(n:Nat)(u:Int):(gh ep pid pe seq n u).en=u+n:=by unfold aQ.en;rw[jP];rfl
theorem oG{ep pid pe seq u:Int}{n:Nat}{r:Rec}(h:r∈(gh ep pid pe seq n u).aS):r=nE:=List.eq_of_mem_replicate h
theorem kL.fits{ep pid pe seq u:Int}{n:Nat}(h:kL ep pid pe seq n u):(gh ep pid pe seq n u).fits:=by
 have h1:=h.ep;have h2:=h.pid;have h3:=h.pe;have h4:=h.seq;have h5:=h.n;have h6:=h.u
 unfold cF at h1
 refine⟨⟨by show _≤u;omega,by show u≤_;omega⟩,⟨by show _≤ep;omega,by show ep≤_;omega⟩,⟨by show _≤pid;omega,by show pid≤_;omega⟩,⟨by show _≤pe;omega,by show pe≤_;omega⟩,⟨by show _≤seq;omega,by show seq≤_;omega⟩,fun r hr=>?_,fun r hr=>?_,fun r hr=>?_,by rw[jP];omega⟩
 ·
  rw[oG hr];exact⟨by decide,by decide⟩
 ·
  rw[oG hr];decide
 ·
  rw[oG hr];decide
theorem kL.body{ep pid pe seq u:Int}{n:Nat}(h:kL ep pid pe seq n u):(body (gh ep pid pe seq n u)).length≤60+n*8:=by
 have h2:=pG h.fits 6
 rw[show(j5 (gh ep pid pe seq n u)).take 6=j5 (gh ep pid pe seq n u)from rfl]at h2
 have h3:=eW (f:=bW) (k:=8) (gh ep pid pe seq n u).aS fun r hr=>by rw[oG hr,Jq];exact Nat.le_refl _
 rw[jP]at h3
 rw[qI,List.length_append];omega
theorem kL.right{ep pid pe seq u:Int}{n:Nat}(h:kL ep pid pe seq n u):right (gh ep pid pe seq n u)=0:=by
 have hb:=h.body
 have h1:=h.ep;have h2:=h.pid;have h3:=h.pe;have h4:=h.seq;have h5:=h.n;have h6:=h.u
 unfold cF at h1
 rw[kx (b:=gh ep pid pe seq n u) _ (fun r hr=>by rw[oG hr];exact⟨by decide,by decide⟩),if_neg (by rw[jP];omega),if_neg,if_neg,if_neg (by omega)]
 ·
  rw[jP];show¬(_<u∨_<seq);omega
 ·
  intro h
  obtain⟨r,hr,h2⟩:=List.any_eq_true.1 h
  rw[oG hr]at h2;exact absurd h2 (by decide)
 ·
  unfold aQ.off
  rw[jP]
  show¬(u<0∨¬((0:Int)≤ep∧ep≤1000000000)∨¬((0:Int)≤pid∧pid≤1000000000)∨¬((0:Int)≤pe∧pe≤1000000000)∨¬((0:Int)≤seq∧seq≤1000000000)∨(pid=0∧(pe≠0∨seq≠0))∨n=0)
  omega
theorem kL.aT{ep pid pe seq u:Int}{n:Nat}(h:kL ep pid pe seq n u):(gh ep pid pe seq n u).aT:=⟨h.right,h.fits,by rw[xJ];have:=h.n;have:=h.u;omega⟩
theorem kL.enc{ep pid pe seq u:Int}{n:Nat}(h:kL ep pid pe seq n u):(enc (gh ep pid pe seq n u)).length≤68+n*8:=by
 rw[h.aT.pJ];have:=h.body;omega
theorem lJ{l:List Nt}:∀(k i:Nat),(∀j,i≤j→j<l.length→jV l j=true)→∀j,cX l k i≤j→j<l.length→jV l j=true
 |0,i,h=>h
 |k+1,i,h=>by
  unfold cX
  split
  ·
   rename_i hc
   refine lJ k (i-1) fun j hj hl=>?_
   by_cases e:j=i-1
   ·
    rw[e];exact hc.2
   ·
    exact h j (by omega) hl
  ·
   exact h
theorem zG{l:List Nt}(h:l≠[]):jV l (l.length-1)=true:=by
 unfold jV;rw[List.getLast?_eq_getElem?];exact decide_eq_true rfl
theorem lg{l:List Nt}(h:l≠[]):cP l<l.length:=by
 have h0:=List.length_pos_iff.2 h
 unfold cP
 show cX l (4+1) l.length<_
 rw[cX,if_pos ⟨h0,zG h⟩]
 have:=iT l 4 (l.length-1)
 omega
theorem xK{l:List Nt}(h:l≠[]):(aY l).getLast?=l.getLast?:=by
 have h1:=lg h
 unfold aY
 rw[List.getLast?_eq_getElem?,List.getLast?_eq_getElem?,List.getElem?_drop,List.length_drop]
 congr 1;omega
theorem Cy{l:List Nt}{x z:Nt}(hx:(aY l)[0]?=some x)(hz:l.getLast?=some z):x.ep=z.ep:=by
 unfold aY at hx
 rw[List.getElem?_drop,Nat.add_zero]at hx
 have hl:=(List.getElem?_eq_some_iff.1 hx).1
 have h1:=lJ (l:=l) 5 l.length (fun j h1 h2=>by omega) (cP l) (Nat.le_refl _) hl
 unfold jV at h1
 rw[hx,hz]at h1
 exact Option.some.inj (of_decide_eq_true h1)
theorem IT{t:Tm}{pid ep seq n:Int}(hT:cC t)(h1:(ask t pid ep seq n).2=0)(h2:(ask t pid ep seq n).1<0)(hp:pid≠0):¬ei pid ep seq n∧¬1000000-n+1<seq∧∀z,(aA t pid).getLast?=some z→z.ep≤ep∧(z.ep=ep→z.seq+z.n≤seq)∧(z.ep=ep→seq=z.seq+z.n)∧(z.ep<ep→seq≤0):=by
 unfold ask at h1 h2
 by_cases hb:ei pid ep seq n
 ·
  rw[if_pos hb]at h1;cases h1
 rw[if_neg hb,if_neg hp]at h1 h2
 by_cases hs:1000000-n+1<seq
 ·
  rw[if_pos hs]at h1;cases h1
 rw[if_neg hs]at h1 h2
 refine⟨hb,hs,fun z hz=>?_⟩
 have dx:aA t pid≠[]:=fun e=>by rw[e]at hz;cases hz
 have cO:=lg dx
 obtain⟨x,hx⟩:∃x,(aY (aA t pid))[0]?=some x:=⟨_,List.getElem?_eq_getElem (by rw[fk];omega)⟩
 have wN:=Cy hx hz
 by_cases c1:x.ep<ep
 ·
  rw[qV (.inr ⟨x,hx,c1⟩)]at h1
  dsimp only at h1
  split at h1
  ·
   cases h1
  ·
   exact⟨by omega,by omega,by omega,by omega⟩
 by_cases c2:ep<x.ep
 ·
  rw[D1 hx c2]at h1;cases h1
 cases hf:qU (aY (aA t pid)) ep seq n with
 |some y=>
  rw[D2 hx c1 c2 hf]at h2
  have hy:y∈aA t pid:=List.mem_of_mem_drop (List.mem_of_find?_eq_some hf)
  have:=((hT.notes pid).1 y hy).off
  exact absurd h2 (by show¬y.off<0;omega)
 |none=>
  have Pe:(aY (aA t pid))[(aY (aA t pid)).length-1]?=some z:=by rw[←List.getLast?_eq_getElem?,xK dx,hz]
  rw[wI hx c1 c2 hf Pe]at h1
  by_cases c3:seq=z.seq+z.n
  ·
   exact⟨by omega,by omega,by omega,by omega⟩
  ·
   rw[if_neg c3]at h1
   split at h1<;>cases h1
theorem pY{κ ν:Type}[DecidableEq κ]{m:List (κ×ν)}{k:κ}{v:ν}{p:κ×ν}(h:p∈bT m k v):p=(k,v)∨p∈m:=by
 unfold bT at h
 split at h
 ·
  obtain⟨q,hq,e⟩:=List.mem_map.1 h
  split at e
  ·
   rename_i hk;subst hk;exact .inl e.symm
  ·
   exact .inr (e▸hq)
 ·
  rcases List.mem_append.1 h with h|h
  ·
   exact .inr h
  ·
   exact .inl (List.mem_singleton.1 h)
theorem pZ{t:Tm}{b:aQ}(h:late (aA t b.pid) b=false):note t b=bT t b.pid (aA t b.pid++[jb b]):=by
 unfold note;rw[if_neg (by rw[h];exact Bool.false_ne_true)]
theorem qb{t:Tm}{b:aQ}(h:late (aA t b.pid) b=false)(q:Int):aA (note t b) q=if q=b.pid then aA t q++[jb b]else aA t q:=by
 rw[pZ h]
 unfold aA
 rw[nL]
 split
 ·
  rename_i e;rw[e];rfl
 ·
  rfl
theorem gA.trans{x y z:Nt}(h:gA x y)(g:gA y z)(hy:0≤y.n):gA x z:=by
 obtain⟨a1,a2,a3⟩:=h
 obtain⟨b1,b2,b3⟩:=g
 refine⟨by omega,by omega,fun e=>?_⟩
 have h1:=a3 (by omega)
 have h2:=b3 (by omega)
 omega
theorem zH{l:List Nt}{x:Nt}(hc:l.Pairwise gA)(ho:∀y∈l,lq y)(hl:∀z,l.getLast?=some z→gA z x):(l++[x]).Pairwise gA:=by
 rw[List.pairwise_append]
 refine⟨hc,.cons (fun _ h=>by cases h) .nil,fun a ha b hb=>?_⟩
 rw[List.mem_singleton.1 hb]
 obtain⟨i,hi⟩:=List.getElem?_of_mem ha
 obtain⟨mm,rfl⟩:=List.getElem?_eq_some_iff.1 hi
 have hz:l.getLast?=some l[l.length-1]:=by rw[List.getLast?_eq_getElem?];exact List.getElem?_eq_getElem (by omega)
 have h1:=hl _ hz
 by_cases e:i=l.length-1
 ·
  subst e;exact h1
 ·
  have h2:=List.pairwise_iff_getElem.1 hc i (l.length-1) mm (by omega) (by omega)
  exact h2.trans h1 (by have:=(ho _ (List.getElem_mem (show l.length-1<l.length by omega))).n;omega)
theorem Fx{l:List Nt}{b:aQ}(h:late l b=false):∀z,l.getLast?=some z→gA z (jb b):=fun z hz=>by
 unfold late at h
 rw[hz]at h
 have:=of_decide_eq_false h
 refine⟨by show z.off<b.base;omega,by show z.ep≤b.a7;omega,fun e=>?_⟩
 have e':z.ep=b.a7:=e
 show z.seq+z.n≤b.seq;omega
theorem Bi{l:List Nt}{b:aQ}(h:∀z,l.getLast?=some z→gA z (jb b)):late l b=false:=by
 unfold late
 cases e:l.getLast? with
 |none=>rfl
 |some z=>
  obtain⟨h1,h2,h3⟩:=h z e
  refine decide_eq_false fun hh=>?_
  have QF:z.off<b.base:=h1
  have QG:z.ep≤b.a7:=h2
  have Sv:z.ep=b.a7→z.seq+z.n≤b.seq:=h3
  rcases hh with hh|hh|hh
  ·
   omega
  ·
   omega
  ·
   have:=Sv hh.1;omega
theorem tP{t:Tm}{q:Int}(h:aA t q≠[]):(q,aA t q)∈t:=by
 unfold aA at h⊢
 cases e:bK t q with
 |none=>rw[e]at h;exact absurd rfl h
 |some l=>exact eD e
theorem gW.qd{t:Tm}(h:gW t)(q:Int):(aA t q).Pairwise gA:=by
 by_cases e:aA t q=[]
 ·
  rw[e];exact .nil
 ·
  exact h.chain _ (tP e)
theorem gW.note{t:Tm}(h:gW t){b:aQ}(hl:late (aA t b.pid) b=false)(hp:0<b.pid∧b.pid≤1000000000)(ho:lq (jb b))(hn:(aA t b.pid).length<10000):gW (note t b):=by
 rw[pZ hl]
 have ht:=h.tocC.notes b.pid
 refine⟨⟨fb h.nodup _ _,fun p hm=>?_,fun p hm=>?_,fun p hm=>?_,fun p hm=>?_⟩,fun p hm=>?_⟩<;>rcases pY hm with rfl|hm
 ·
  exact hp
 ·
  exact h.pid p hm
 ·
  simp
 ·
  exact h.ne p hm
 ·
  intro x hx
  rcases List.mem_append.1 hx with hx|hx
  ·
   exact ht.1 x hx
  ·
   rw[List.mem_singleton.1 hx];exact ho
 ·
  exact h.ok p hm
 ·
  show(aA t b.pid++[jb b]).length≤_;rw[List.length_append];simp;omega
 ·
  exact h.len p hm
 ·
  exact zH (h.qd b.pid) ht.1 (Fx hl)
 ·
  exact h.chain p hm
theorem lq.sm{ep pid pe seq u:Int}{n:Nat}(h:kL ep pid pe seq n u):lq (jb (gh ep pid pe seq n u)):=by
 have h3:=h.pe;have h4:=h.seq;have h5:=h.n;have h6:=h.u
 have e:(jb (gh ep pid pe seq n u)).n=(n:Int):=by show(((gh ep pid pe seq n u).aS.length:Nat):Int)=n;rw[jP]
 refine⟨by unfold cF;exact h3,by show 0≤seq∧seq≤_;omega,by rw[e];omega,?_,?_⟩
 ·
  rw[e];show seq≤_;omega
 ·
  rw[e];show 0≤u∧u≤_;omega
structure bz(Z i j:Nat)(E:Int)(s:St)(d:Dk):Prop where
 cS:d.ok
 ok:s.l.ok d
 own:mv s.l d
 full:Full s.l d
 short:dI d
 pre:s.l.pre=[112]
 nm:s.c.nm=ek s.l.pre
 next:s.l.next≤3*(i:Int)
 ar:s.l.ar.length≤i+1
 all:s.l.all.length≤i
 size:d.size=Z
 used:d.used≤(d.file (ek s.l.pre)).b.length+(d.file (eY s.l.pre)).b.length+100*(i+j)
 LD:(d.file (eY s.l.pre)).b.length≤304+840*i
 names:∀n,(d.get n).isSome=true→n=ek s.l.pre∨n=eY s.l.pre∨n=aP s.l.pre∨∃u,u≤1000000000∧n=nameOf s.l.pre u
 es:bM s.c.es
 Fy:s.c.es.length≤i
 LF:∀e∈s.c.es,e.2<s.l.next
 last:cu s.c.es≤E
 eM:dw d s.c.nm s.c.es
 lf:gW (bf s.t.m)
 keys:∀p∈bf s.t.m,p.1≤7
 Fz:∀p∈bf s.t.m,∀x∈p.2,x.off<s.l.next
theorem zI:∀(l:List Nt) (a b:Int),l.Pairwise gA→(∀x∈l,a≤x.off∧x.off<b)→a≤b→(l.length:Int)≤b-a
 |[],a,b,_,_,h=>by show(0:Int)≤_;omega
 |x::l,a,b,hc,ho,h=>by
  have h1:=ho x (.head _)
  have h2:=zI l (x.off+1) b (List.pairwise_cons.1 hc).2 (fun y hy=>⟨by have:=((List.pairwise_cons.1 hc).1 y hy).1;omega,(ho y (.tail _ hy)).2⟩) (by omega)
  rw[List.length_cons];omega
theorem ju{α:Type}[DecidableEq α]:∀(l m:List α),l.Nodup→(∀x∈l,x∈m)→l.length≤m.length
 |[],_,_,_=>Nat.zero_le _
 |x::l,m,hn,hs=>by
  rw[List.nodup_cons]at hn
  have hx:=hs x (.head _)
  have h1:=ju l (m.erase x) hn.2 fun y hy=>(List.mem_erase_of_ne fun e:y=x=>hn.1 (e▸hy)).2 (hs y (.tail _ hy))
  rw[List.length_erase_of_mem hx]at h1
  have:=List.length_pos_of_mem hx
  rw[List.length_cons];omega
theorem xL{l:List Int}(h:l.Nodup)(hl:∀x∈l,1≤x∧x≤7):l.length≤7:=by
 exact ju l [1,2,3,4,5,6,7] h fun x hx=>by
  have:=hl x hx
  simp only[List.mem_cons,List.not_mem_nil,or_false];omega
theorem xM{t:Tm}{n:Nat}(h1:t.length≤7)(h2:∀p∈t,p.2.length≤n):gz t≤160+280*n:=by
 have key:∀(u:Tm),(∀p∈u,p.2.length≤n)→(u.map fun p=>20+p.2.length*40).sum≤u.length*(20+n*40):=by
  intro u
  induction u with
  |nil=>intro _;exact Nat.zero_le _
  |cons p u ih=>
   intro h
   have h3:=ih fun q hq=>h q (.tail _ hq)
   have h4:=h p (.head _)
   rw[List.map_cons,List.sum_cons,List.length_cons,Nat.succ_mul];omega
 have h5:=key t h2
 have h6:t.length*(20+n*40)≤7*(20+n*40):=Nat.mul_le_mul_right _ h1
 unfold gz;omega
theorem bz.s6{Z i j E s d}(h:bz Z i j E s d):0≤s.l.next:=by have:=h.ok.start;omega
theorem bz.KQ{Z i j E s d}(h:bz Z i j E s d)(q:Int):∀x∈aA (bf s.t.m) q,x.off<s.l.next:=by
 by_cases e:aA (bf s.t.m) q=[]
 ·
  intro x hx;rw[e]at hx;cases hx
 ·
  exact h.Fz _ (tP e)
theorem bz.nn{Z i j E s d}(h:bz Z i j E s d)(q:Int):(aA (bf s.t.m) q).length≤3*i:=by
 have h0:=h.s6
 have:=zI (aA (bf s.t.m) q) 0 s.l.next (h.lf.qd q) (fun x hx=>⟨((h.lf.notes q).1 x hx).off.1,h.KQ q x hx⟩) h0
 have:=h.next
 omega
theorem bz.N4{Z i j E s d}(h:bz Z i j E s d):(bf s.t.m).length≤7:=by
 have:=xL h.lf.nodup fun x hx=>by
  obtain⟨p,hp,rfl⟩:=List.mem_map.1 hx
  exact⟨(h.lf.pid p hp).1,h.keys p hp⟩
 rwa[List.length_map]at this
theorem bz.PB{Z i j E s d}(h:bz Z i j E s d):gz (bf s.t.m)≤160+840*i:=by
 have:=xM (n:=3*i) h.N4 fun p hp=>by rw[←ri h.lf.nodup hp];exact h.nn p.1
 omega
theorem bz.Cz{Z i j E s d}(h:bz Z i j E s d):d.used≤4330+940*i+100*j:=by
 have h1:=h.used;have h2:=h.LD
 have h3:=h.eM.len h.es
 rw[h.nm]at h3;omega
theorem bz.len{Z i j E s d}(h:bz Z i j E s d):d.fs.length≤i+4:=by
 have:=ju (d.fs.map (·.1)) (ek s.l.pre::eY s.l.pre::aP s.l.pre::s.l.ar.map (·.nm)) h.cS.nodup fun n hn=>by
  have hg:(d.get n).isSome=true:=er.2 hn
  rcases h.names n hg with rfl|rfl|rfl|⟨u,hu,rfl⟩
  ·
   exact .head _
  ·
   exact .tail _ (.head _)
  ·
   exact .tail _ (.tail _ (.head _))
  ·
   obtain⟨t,ht,e⟩:=h.own u hu hg
   exact .tail _ (.tail _ (.tail _ (List.mem_map.2 ⟨t,ht,by rw[(h.ok.gN t ht).2.1,e]⟩)))
 have h3:=h.ar
 simp only[List.length_cons,List.length_map]at this
 omega
theorem Bj{es:List Ep}{E:Int}(h:cu es≤E){off:Int}(hE:-1≤E)(he:bM es):cu (bg off es)≤E:=by
 cases hg:(bg off es).getLast? with
 |none=>unfold cu;rw[hg];exact hE
 |some x=>
  have:=he.le_last x (List.mem_filter.1 (List.mem_of_getLast? hg)).1
  unfold cu at*;rw[hg];show x.1≤E;omega
theorem rO{es:List Ep}{ep off:Int}(h:cu es≤ep):cu (cg es ep off)=ep:=by
 unfold cg
 split
 ·
  exact B2 _ _
 ·
  omega
theorem CA(es:List Ep)(ep off:Int):(cg es ep off).length≤es.length+1:=by
 unfold cg
 split
 ·
  rw[List.length_append];have:=List.length_filter_le (fun e:Ep=>decide (e.2<off)) es;show(bg off es).length+1≤_;unfold bg;omega
 ·
  omega
theorem FA{es:List Ep}{ep off n:Int}(h:∀e∈es,e.2<off)(hn:off<n):∀e∈cg es ep off,e.2<n:=fun e he=>by
 unfold cg at he
 split at he
 ·
  rcases List.mem_append.1 he with he|he
  ·
   have:=h e (List.mem_filter.1 he).1;omega
  ·
   rw[List.mem_singleton.1 he];exact hn
 ·
  have:=h e he;omega
theorem jX.ar{l l':Lx}{d d':Dk}{b:aQ}(h:jX l d b l' d'):l'.ar.length≤l.ar.length+1:=by
 rcases h.QJ with h|h
 ·
  unfold Lx.ar;rw[h.2.1,List.length_append,List.length_append];simp
 ·
  have:=h.2.1;unfold Lx.ar at this⊢;rw[this,List.length_append,List.length_append];simp
theorem KR{l:Lx}(h:l.pre=[112]):oe l.pre:=by rw[h];exact⟨by decide,by decide,by decide⟩
theorem li{d:Dk}{s:St}{es:List Ep}{k:Nat}(hd:d.ok)(hn:s.c.nm=ek s.l.pre)(hu:d.used≤(d.file (ek s.l.pre)).b.length+(d.file (eY s.l.pre)).b.length+k):(bw d s.c es).used≤((bw d s.c es).file (ek s.l.pre)).b.length+((bw d s.c es).file (eY s.l.pre)).b.length+k:=by
 unfold bw
 split
 ·
  exact hu
 ·
  rw[hn]
  have h1:=Dk.cf hd (ek s.l.pre) ⟨summed (bG es),(summed (bG es)).length⟩
  rw[Dk.aV,(Dk.aK d _ jo).1]
  dsimp only at h1⊢;omega
theorem l6{d:Dk}{s:St}{es:List Ep}(hn:s.c.nm=ek s.l.pre){n:Nm}(h:((bw d s.c es).get n).isSome=true):n=ek s.l.pre∨(d.get n).isSome=true:=by
 unfold bw at h
 split at h
 ·
  exact .inr h
 ·
  rw[hn,Dk.jF]at h
  split at h
  ·
   rename_i e;exact .inl e
  ·
   exact .inr h
theorem bz.zJ{Z i j E s d s' d'}(h:bz Z i j E s d){ep pid pe seq:Int}{n:Nat}(hA:l5 s d (gh ep pid pe seq n s.l.next) s' d')(hS:kL ep pid pe seq n s.l.next)(hE:E≤ep)(hn:n≤3)(h7:pid≤7)(hl:late (aA (bf s.t.m) pid) (gh ep pid pe seq n s.l.next)=false)(hi:i≤60∧j≤130)(hZ:90000≤Z):bz Z (i+1) j ep s' d':=by
 have jx:jX s.l (bw d s.c (cg s.c.es ep s.l.next)) (gh ep pid pe seq n s.l.next) s'.l d':=hA.app
 have Bk:=h.Cz
 have jS:=h.size
 have wN:=hS.ep
 have B7:=hS.n
 have j8:cF s.l.next:=by have:=hS.u;unfold cF;omega
 have kM:=h.es.next (ep:=ep) (off:=s.l.next) wN j8 (by have:=h.Fy;omega)
 obtain⟨hB,hH,hU⟩:=fp h.cS h.ok h.nm kM (by omega) h.eM
 have LH:=li (es:=cg s.c.es ep s.l.next) h.cS h.nm h.used
 have jY:=h.last
 have jT:(gh ep pid pe seq n s.l.next).en=s.l.next+n:=xJ ..
 have hq:=hS.enc
 have lX:=jx.next
 rw[jT]at lX
 have UP:=h.nn pid
 have Lq:s'.l.pre=[112]:=jx.pre.trans h.pre
 obtain⟨f1,f2⟩:=jx.eF (ek s.l.pre) fun u hu=>fK hu
 obtain⟨g1,g2⟩:=jx.eF (eY s.l.pre) fun u hu=>cK hu
 have hP:=(hB.eF (eY s.l.pre) jo).1
 have IA:bf s'.t.m=note (bf s.t.m) (gh ep pid pe seq n s.l.next):=hA.t
 refine⟨jx.cS,jx.ok,jx.own,jx.full (hB.full h.full),jx.short (KR h.pre) (hB.short h.short),Lq,by rw[hA.nm,h.nm,jx.pre],by rw[lX];have:=h.next;omega,by have:=jx.ar;have:=h.ar;omega,by rw[jx.all,List.length_append];have:=h.all;simp;omega,by rw[jx.size,hB.size,jS],?_,by rw[jx.pre,g1,hP];have:=h.LD;omega,fun m hm=>?_,by rw[hA.es];exact kM,by rw[hA.es];have:=CA s.c.es ep s.l.next;have:=h.Fy;show(cg s.c.es ep s.l.next).length≤_;omega,?_,?_,?_,?_,?_,?_⟩
 ·
  rw[jx.used,jx.pre,f1,g1];omega
 ·
  rw[jx.pre]
  by_cases hx:∃u,u≤1000000000∧m=nameOf s.l.pre u
  ·
   exact .inr (.inr (.inr hx))
  ·
   rw[(jx.eF m fun u hu e=>hx ⟨u,hu,e⟩).2]at hm
   rcases l6 h.nm hm with hm|hm
   ·
    exact .inl hm
   ·
    exact h.names m hm
 ·
  rw[hA.es,lX];exact FA (off:=s.l.next) (ep:=ep) h.LF (by omega)
 ·
  rw[hA.es];show cu (cg s.c.es ep s.l.next)≤ep;rw[rO (by omega)];exact Int.le_refl _
 ·
  rw[hA.nm,hA.es]
  refine dw.same (d:=bw d s.c (cg s.c.es ep s.l.next)) hH ?_ ?_
  ·
   rw[h.nm];exact f1
  ·
   rw[h.nm];exact congrArg Option.isSome f2
 ·
  rw[IA];exact h.lf.note hl ⟨by show 0<pid;have:=hS.pid;omega,hS.pid.2⟩ (lq.sm hS) (by show(aA _ pid).length<_;omega)
 ·
  rw[IA,pZ hl]
  intro p hp
  rcases pY hp with rfl|hp
  ·
   exact h7
  ·
   exact h.keys p hp
 ·
  rw[IA,pZ hl]
  intro p hp x hx
  rcases pY hp with rfl|hp
  ·
   rcases List.mem_append.1 hx with hx|hx
   ·
    have:=h.KQ pid x hx;omega
   ·
    rw[List.mem_singleton.1 hx];show s.l.next<_;omega
  ·
   have:=h.Fz p hp x hx;omega
structure zK(s:St)(d:Dk):Prop where
 start:s.l.start=0
 base:a8 s.l=0
 aJ:s.l.aJ=0
 num:(d.get (aP s.l.pre)).isSome=false
 sM:(d.get (eY s.l.pre)).isSome=false
 es:s.c.es=AK s.l.all
 t:bf s.t.m=s.l.all.foldl note []
 notes:ig [] s.l.all
 UQ:∀b∈s.l.all,0≤b.bt∧b.bt≤cu s.c.es
theorem Bl{es:List Ep}{off:Int}(h:∀e∈es,e.2<off):bg off es=es:=List.filter_eq_self.2 fun e he=>decide_eq_true (h e he)
theorem KS{es:List Ep}{b:aQ}(h:cu es≤b.bt)(ho:∀e∈es,e.2<b.base):cg es b.bt b.base=uN es b:=by
 unfold cg uN
 by_cases e:cu es=b.bt
 ·
  rw[if_neg (by omega),if_pos e]
 ·
  rw[if_pos (by omega),if_neg e,Bl ho]
structure QM(l:Lx)(d:Dk)(bs:List aQ)(s:Nat)(st hi:Int)(u n:Nat):Prop where
 ok:l.ok d
 cS:d.ok
 bX:l.bX=[]
 bs:l.ai.bs=bs
 base:l.ai.base=0
 start:l.start=st
 aJ:l.aJ=hi
 pre:l.pre=[112]
 most:l.most=256
 own:mv l d
 short:dI d
 size:d.size=10000
 used:d.used≤u
 len:d.fs.length≤n
 safe:(d.file l.ai.nm).safe=s
theorem Sw:oe [112]:=⟨by decide,by decide,by decide⟩
theorem LI(z:Nat):dI (Dk.mk z []):=fun _ h=>by cases h
section
variable{l l':Lx}{d d':Dk}{bs:List aQ}{s:Nat}{st hi:Int}{u n:Nat}
end
def b3:List aQ:=[sb 1 0,sb 1 1,sb 1 2]
def nine(lb:Nat)(s:Nat)(sm:List Nat)(aa:Option Addr)(ac:Nat)(ia:Option Addr)(ic:Nat)(qa:Option Addr)(qc:Nat):Lx:=⟨lb,[112],256,9,9,[],⟨s,nameOf [112] 9,9,[],sm,aa,ac,ia,ic⟩,qa,qc⟩
def rP(n:Int):List Value:=[.int .i64 n]
theorem vr(n:Int):(rP n).length=1:=rfl
theorem FB(n:Int):aB (rP n):=.of rfl
theorem rQ{off:Int}:∀{n:Int} {l:List aQ},n≤off→(∀b∈l,b.en≤off)→aC n l≤off
 |_,[],h,_=>h
 |_,b::l,_,h=>rQ (l:=l) (h b (.head _)) fun x hx=>h x (.tail _ hx)
def Sy(off:Int)(R:List aQ):Prop:=∀i y,R[i]?=some y→y.base≤aC off (R.take i)∧aC off (R.take i)<y.en∧(0<i→y.base=aC off (R.take i))
theorem PC{l:Lx}{d d':Dk}(h:l.ok d)(hf:∀s∈l.ar,d'.file s.nm=d.file s.nm∧d'.get s.nm=d.get s.nm):l.ok d':=by
 refine⟨h.pre,fun s hs=>?_,h.link,h.ne,h.start,h.aJ,h.most,h.len⟩
 obtain⟨k1,k2,k3,k4⟩:=h.gN s hs
 obtain⟨m1,m2⟩:=hf s hs
 exact⟨k1,k2,by rw[m2];exact k3,by rw[m1];exact k4⟩
theorem QN(u v:Nat):nameOf [97] u≠nameOf [98] v:=fun e=>by
 have:=congrArg (fun l:Nm=>l.head?) e
 simp[nameOf]at this
theorem Ng{l:Lx}{d:Dk}(h:l.ok d){s:Sx}(hs:s∈l.ar):∃u,s.nm=nameOf l.pre u:=⟨_,(h.gN s hs).2.1⟩
structure UR(i:Nat)(a b:Lx)(d:Dk):Prop where
 US:a.ok d
 UT:b.ok d
 cS:d.ok
 Sz:mv a d
 SA:mv b d
 short:dI d
 SB:a.pre=[97]
 SC:b.pre=[98]
 all:a.all=b.all
 QO:a8 a=0
 QR:a8 b=0
 UU:a.start=0
 UW:b.start=0
 SD:a.ar.length≤i+1
 SE:b.ar.length≤i+1
 num:a.all.length=i
 nx:a.next≤20*i
 size:d.size=1000000
 used:d.used≤456*i
 len:d.fs.length≤2+2*i
theorem Nh{l l':Lx}{d d':Dk}{b:aQ}(h:jX l d b l' d'):l'.ar.length≤l.ar.length+1:=by
 unfold Lx.ar
 rcases h.QJ with⟨_,h1,_⟩|⟨_,h1,_⟩
 ·
  rw[h1,List.length_append,List.length_append];simp
 ·
  rw[h1,List.length_append];unfold Lx.ar;simp
structure PD(i:Nat)(l:Lx)(d:Dk):Prop where
 ok:l.ok d
 cS:d.ok
 own:mv l d
 full:Full l d
 short:dI d
 pre:l.pre=[112]
 base:a8 l=0
 start:l.start=0
 aJ:l.aJ=0
 num:l.all.length=i
 nx:l.next≤20*i
 size:d.size=2000000
 used:d.used≤228*i
 len:d.fs.length≤1+i
 ar:l.ar.length≤i+1
 wQ:(d.get (aP [112])).isSome=false
theorem FC:∀{n:Int} {l:List aQ},bS n l→(∀b∈l,b.aT)→(l.length:Int)≤aC n l-n
 |n,[],_,_=>by show(0:Int)≤n-n;omega
 |n,b::l,hc,hg=>by
  have h1:=FC hc.2 fun x hx=>hg x (.tail _ hx)
  have h2:=(hg b (.head _)).lt
  have h3:b.base=n:=hc.1
  rw[List.length_cons]
  show((l.length+1:Nat):Int)≤aC b.en l-n
  omega
theorem xN{off:Int}:∀{n:Int} {l:List aQ},bS n l→(∀b∈l,b.aT)→∀(j:Nat),(∀b∈l.take j,b.en≤off)→(∀b,l[j]?=some b→¬b.en≤off)→ie off l=l.take j
 |_,[],_,_,j,_,_=>by rw[List.take_nil];rfl
 |n,b::l,hc,hg,0,_,h2=>by
  have hb:=h2 b rfl
  refine List.filter_eq_nil_iff.2 fun x hx=>?_
  have:¬x.en≤off:=by
   rcases List.mem_cons.1 hx with rfl|hx
   ·
    exact hb
   ·
    obtain⟨i,hi⟩:=List.getElem?_of_mem hx
    have h1:=(hc.2.at hi).1
    have h2:=hc.2.mono (fun y hy=>hg y (.tail _ hy)) (i:=0) (j:=i) (Nat.zero_le _)
    have h3:aC b.en (l.take 0)=b.en:=rfl
    have h4:=(hg x (.tail _ hx)).lt
    omega
  simpa using this
 |n,b::l,hc,hg,j+1,h1,h2=>by
  have hb:b.en≤off:=h1 b (by rw[List.take_succ_cons];exact .head _)
  have ih:=xN hc.2 (fun x hx=>hg x (.tail _ hx)) j (fun x hx=>h1 x (by rw[List.take_succ_cons];exact .tail _ hx)) fun x hx=>h2 x (by rw[List.getElem?_cons_succ];exact hx)
  rw[List.take_succ_cons,←ih]
  exact List.filter_cons_of_pos (by simpa using hb)
theorem vu{off:Int}:∀{n:Int} {l:List aQ},bS n l→(∀b∈l,b.aT)→∃j,ie off l=l.take j
 |_,[],_,_=>⟨0,rfl⟩
 |n,b::l,hc,hg=>by
  by_cases h:b.en≤off
  ·
   obtain⟨j,hj⟩:=vu (off:=off) hc.2 fun x hx=>hg x (.tail _ hx)
   exact⟨j+1,by rw[List.take_succ_cons,←hj];exact List.filter_cons_of_pos (by simpa using h)⟩
  ·
   exact⟨0,xN hc hg 0 (fun _ hx=>by cases hx) fun x hx=>by cases hx;exact h⟩
theorem N5(n:Int)(l:List aQ):(ie n l).length≤l.length:=List.length_filter_le ..
structure SF(i:Nat)(l:Lx)(d:Dk):Prop where
 ok:l.ok d
 cS:d.ok
 own:mv l d
 start:l.start=0
 num:l.all.length≤60+i
 nx:l.next≤1200+9*i
 size:d.size=2000000
 used:d.used≤13680+140*i
 len:d.fs.length≤61+i
 ar:l.ar.length≤61+i
def vv(f g:Fl):Prop:=∃z,f.safe≤z∧z≤f.b.length∧g=⟨f.b.take z,z⟩
structure gi(d:Dk)(done:List Nm)(e:Dk):Prop where
 cS:e.ok
 size:e.size=d.size
 keys:e.fs.map (·.1)=d.fs.map (·.1)
 used:e.used≤d.used
 IU:∀n∈done,vv (d.file n) (e.file n)
 left:∀n,n∉done→e.file n=d.file n
theorem nM{d:Dk}{n:Nm}{f:Fl}(h:(d.get n).isSome=true):(bT d.fs n f).map (·.1)=d.fs.map (·.1):=by
 unfold bT
 have h1:=ku (Dk.get_some.1 h)
 rw[if_pos (List.any_eq_true.2 ⟨_,h1,by simp⟩),List.map_map]
 refine List.map_congr_left fun p _=>?_
 simp only[Function.comp]
 split<;>rfl
theorem gi.get{d e:Dk}{done:List Nm}(h:gi d done e)(n:Nm):(e.get n).isSome=true↔(d.get n).isSome=true:=by rw[er,er,h.keys]
theorem gi.begin{d:Dk}(hd:d.ok):gi d [] d:=⟨hd,rfl,rfl,Nat.le_refl _,fun _ h=>(by cases h),fun _ _=>rfl⟩
theorem gi.E3{d e:Dk}{done:List Nm}(h:gi d done e){n:Nm}(hn:n∉done)(hm:(d.file n).safe=(d.file n).b.length):gi d (done++[n]) e:=by
 refine⟨h.cS,h.size,h.keys,h.used,fun m Gi=>?_,fun m Gi=>h.left m fun hx=>Gi (List.mem_append_left _ hx)⟩
 rcases List.mem_append.1 Gi with hx|hx
 ·
  exact h.IU m hx
 ·
  rw[List.mem_singleton.1 hx,h.left n hn]
  refine⟨(d.file n).b.length,by omega,Nat.le_refl _,?_⟩
  rw[List.take_length,←hm]
theorem gi.step{d e:Dk}{done:List Nm}(h:gi d done e){n:Nm}{z:Nat}(hn:n∉done)(hg:(d.get n).isSome=true)(h1:(d.file n).safe≤z)(h2:z≤(d.file n).b.length):gi d (done++[n]) (e.put n ⟨(d.file n).b.take z,z⟩):=by
 have hl:=h.left n hn
 have yg:=(h.get n).2 hg
 have hu:=Dk.cf h.cS n ⟨(d.file n).b.take z,z⟩
 rw[hl]at hu
 dsimp only at hu
 have ht:((d.file n).b.take z).length=z:=by rw[List.length_take];omega
 refine⟨Dk.dN h.cS (by dsimp only;rw[hl,ht];have:=h.cS.used;omega) (by dsimp only;omega),h.size,(nM yg).trans h.keys,by have:=h.used;omega,fun m hm=>?_,fun m hm=>?_⟩
 ·
  rcases List.mem_append.1 hm with hx|hx
  ·
   rw[(Dk.aK _ _ (fun e=>hn (e▸hx):m≠n)).1];exact h.IU m hx
  ·
   rw[List.mem_singleton.1 hx,Dk.aV]
   exact⟨z,h1,h2,rfl⟩
 ·
  rw[(Dk.aK _ _ (fun e=>hm (e▸List.mem_append_right _ (.head _)):m≠n)).1]
  exact h.left m fun hx=>hm (List.mem_append_left _ hx)
structure ii(d e:Dk):Prop where
 cS:e.ok
 size:e.size=d.size
 keys:e.fs.map (·.1)=d.fs.map (·.1)
 used:e.used≤d.used
 file:∀n,vv (d.file n) (e.file n)
 get:∀n,(e.get n).isSome=(d.get n).isSome
theorem gi.all{d e:Dk}{done:List Nm}(h:gi d done e)(hd:d.ok)(ha:∀n,n∈d.fs.map (·.1)→n∈done):ii d e:=by
 refine⟨h.cS,h.size,h.keys,h.used,fun n=>?_,fun n=>Bool.eq_iff_iff.2 (h.get n)⟩
 by_cases hn:n∈done
 ·
  exact h.IU n hn
 ·
  rw[h.left n hn]
  have hz:d.file n=pF:=Dk.dJ (Bool.eq_false_iff.2 fun hs=>hn (ha n (er.1 hs)))
  rw[hz];exact⟨0,Nat.le_refl _,Nat.le_refl _,rfl⟩
theorem FE{a:Option Addr}{x:Int}{kl:List Int}{kc:Nat}{w:World}{b o:Nat}(ha:a=some ⟨b,o,none⟩)(h:aD a ((x::kl).flatMap rP) w)(hc:kl.length+1≤kc):aD (if kc=1 then a else a.map (·.add (1*1))) (kl.flatMap rP) w:=by
 subst ha
 rcases h with h|⟨b',o',ho,yX⟩
 ·
  cases h
 ·
  cases ho
  by_cases h0:kl=[]
  ·
   exact .inl (by rw[h0];rfl)
  ·
   have:0<kl.length:=List.length_pos_iff.2 h0
   rw[if_neg (by omega)]
   have h1:=yX.sub 1 (kl.flatMap rP).length
   have e:(((x::kl).flatMap rP).drop 1).take (kl.flatMap rP).length=kl.flatMap rP:=by rw[List.flatMap_cons];show(kl.flatMap rP).take _=_;rw[List.take_length]
   rw[e]at h1
   exact .inr ⟨b,o+1,rfl,h1⟩
theorem vw(u:Nat):Lib.decDigits u≠[]:=by
 rw[Lib.decDigits];split<;>simp
theorem FF:∀(u:Nat) (c:UInt8) (l:List UInt8),Lib.decDigits u=c::l→c=48→u=0:=fun u=>by
 induction u using Nat.strongRecOn with
 |_ u ih=>
  intro c l h hc
  rw[Lib.decDigits]at h
  split at h
  ·
   rename_i h1
   cases h
   have h2:=congrArg UInt8.toNat hc
   rw[nu h1]at h2
   have:(48:UInt8).toNat=48:=rfl
   omega
  ·
   rename_i h1
   cases e:Lib.decDigits (u/10)with
   |nil=>exact absurd e (vw _)
   |cons x t=>
    rw[e]at h
    cases h
    have:=ih (u/10) (by omega) _ _ e hc
    omega
theorem FG:Lib.decDigits 0=[48]:=by rw[Lib.decDigits];rfl
theorem FH:¬digit 32:=fun h=>by have:=h.1;have e:(32:UInt8).toNat=32:=rfl;omega
theorem KT(z w:Nat):Lib.cut (Lib.decDigits z++[32]++Lib.decDigits w) [32]=(Lib.decDigits z,Lib.decDigits w,true):=by
 have hi:Lib.index (Lib.decDigits z++[32]++Lib.decDigits w) [32]=((Lib.decDigits z).length:Nat):=by
  refine Lib.index_first (by simp only[List.length_append];omega) ?_ fun j hj=>?_
  ·
   unfold Lib.occAt;rw[List.append_assoc,List.drop_left];simp
  ·
   refine Bool.eq_false_iff.2 fun h=>?_
   have h1:=Lib.occAt_head rfl h
   rw[List.append_assoc,List.getElem?_append_left hj]at h1
   exact FH (jj z _ (List.mem_of_getElem? h1))
 unfold Lib.cut
 rw[if_pos (by rw[hi];omega),hi]
 refine Prod.ext ?_ (Prod.ext ?_ rfl)
 ·
  show(Lib.decDigits z++[32]++Lib.decDigits w).take ((Lib.decDigits z).length:Int).toNat=_
  rw[Int.toNat_natCast,List.append_assoc,List.take_left]
 ·
  show(Lib.decDigits z++[32]++Lib.decDigits w).drop (((Lib.decDigits z).length:Int).toNat+1)=_
  rw[Int.toNat_natCast]
  exact List.drop_left' (by simp)
theorem FI(z w:Nat):Lib.hasSuffix (mt z w) [10]=true∧Lib.trimSuffix (mt z w) [10]=Lib.decDigits z++[32]++Lib.decDigits w:=by
 have h:Lib.hasSuffix (mt z w) [10]=true:=List.isSuffixOf_iff_suffix.2 (List.suffix_append _ _)
 refine⟨h,?_⟩
 unfold Lib.trimSuffix
 rw[if_pos h]
 unfold mt
 rw[List.length_append,Nat.add_sub_cancel,List.take_left]
theorem Ni{c:UInt8}(h:decide (((c.toNat:Nat):Int)=48)=true):c=48:=by
 have h1:=of_decide_eq_true h
 exact UInt8.toNat_inj.1 (by have:(48:UInt8).toNat=48:=rfl;omega)
theorem tQ(z:Nat)(hz:z≤1000000000):Cn Tryz.prog 107 [.string (str (Lib.decDigits z))] (fun _=>True) [] fun v G=>v=.tuple #[.int .i64 (z:Nat),.bool true]∧G=[]:=by
 refine .en Tryz.func107 fun R k=>?_
 have J0:=gX (u:=z) (by omega)
 have dx:=vw z
 obtain⟨c,r,QS⟩:=List.exists_cons_of_ne_nil dx
 refine .ax fds 9 ?_
 refine .rd (.NN (m:=[]) rfl rfl) ?_
 refine .al 7 (.bool false) rfl (aE dx) ?_
 refine .go fds 2 ?_
 refine .on (t:=8) rfl rfl ?_
 refine .rd (.ey rfl rfl Tryz.underlying9 rfl) ?_
 refine .go fds 1 ?_
 refine .al 11 (.bool false) rfl (aE (by omega)) ?_
 refine .go fds 3 ?_
 refine .on (t:=13) rfl rfl ?_
 refine .fn rfl rfl .nil ah (nv (Lib.decDigits z) nB (by omega) (by decide) (by decide)) (fun v G1 hq=>?_)
 obtain⟨rfl,rfl⟩:=hq
 simp only[ae]
 refine .on (t:=13) rfl rfl ?_
 refine .rd (.Ds (m:=[]) rfl rfl) ?_
 refine .al 16 (.bool false) rfl (congrArg Value.bool (by rw[decide_eq_true (jk.2 fun c hc=>oW (jj z c hc))];rfl)) ?_
 refine .go fds 3 ?_
 refine .on (t:=18) rfl rfl ?_
 refine .rd (.fW (b:=c) Tryz.underlying9 rfl rfl (by decide) (by rw[QS];rfl)) ?_
 refine .go fds 2 ?_
 refine .split (t:=22) rfl (fun g16=>?_) (fun g16=>?_)
 ·
  have Pr:z=0:=FF z c r QS (Ni g16)
  refine .go fds 1 ?_
  refine .on (t:=22) rfl rfl ?_
  refine .rd (.Ds (m:=[48]) rfl rfl) ?_
  refine .al 24 (.bool false) rfl (congrArg Value.bool (by rw[Pr,decide_eq_true FG];rfl)) ?_
  refine .ax fds 8 ?_
  refine .fn rfl rfl .nil ah (vg (Lib.decDigits z) (vw z) (jj z) (by omega)) (fun v G1 hq=>?_)
  obtain⟨rfl,rfl⟩:=hq
  simp only[ae]
  refine .al 29 (.tuple #[.int .i64 (z:Nat),.nilIface]) rfl (by rw[u4]) ?_
  refine .ax fds 10 ?_
  refine .rd (.yJ Tryz.underlying166 rfl) ?_
  refine .go fds 3 ?_
  refine .al 37 (.bool true) rfl (bR (by omega)) ?_
  refine .aH fds 4 ?_
  refine .aG Tryz.func107 (.t2 rfl rfl) .q0 ?_
  exact⟨[],⟨rfl,rfl⟩,rfl⟩
 ·
  replace g16:=of_decide_eq_false g16
  refine .ax fds 10 ?_
  refine .fn rfl rfl .nil ah (vg (Lib.decDigits z) (vw z) (jj z) (by omega)) (fun v G1 hq=>?_)
  obtain⟨rfl,rfl⟩:=hq
  simp only[ae]
  refine .al 29 (.tuple #[.int .i64 (z:Nat),.nilIface]) rfl (by rw[u4]) ?_
  refine .ax fds 10 ?_
  refine .rd (.yJ Tryz.underlying166 rfl) ?_
  refine .go fds 3 ?_
  refine .al 37 (.bool true) rfl (bR (by omega)) ?_
  refine .aH fds 4 ?_
  refine .aG Tryz.func107 (.t2 rfl rfl) .q0 ?_
  exact⟨[],⟨rfl,rfl⟩,rfl⟩
theorem FJ(lb db mb:Nat)(d:Dk)(p:Option Addr)(pre:Nm)(most start aJ:Int)(la:Option Addr)(n lc:Nat)(z w:Nat)(hp:oe pre)(hm:(d.get (aP pre)).isSome=true)(hf:(d.file (aP pre)).b=mt z w)(hz:z≤1000000000)(hw:w≤1000000000)(KU:z≤w):Cn Tryz.prog 65 [.pointer (some ⟨lb,0,none⟩)] LV [an lb (a6 p db pre most start aJ la n lc) 57,an db (d.cells mb) 74,mp aW Fl.val mb d.fs] fun v G=>v=.bool true∧G=[an lb (a6 p db pre most (z:Int) (w:Int) la n lc) 57,an db (d.cells mb) 74,mp aW Fl.val mb d.fs]:=by
 refine .en Tryz.func65 fun R k=>?_
 have h3:=hp.len
 have h1:=gX (u:=z) (by omega)
 have h2:=gX (u:=w) (by omega)
 have h4:=zo hz hw
 refine .go fds 5 ?_
 refine .dr [3,7] [an lb (a6 p db pre most start aJ la n lc) 57] ?_
 refine .aq fds [0] ?_
 refine .aq fds [1] ?_
 refine .aq fds [2] ?_
 refine .re 3 rfl (.ld dh rfl .p0 rfl) .q0 ?_
 refine .aq fds [4] ?_
 refine .aq fds [5] ?_
 refine .aq fds [6] ?_
 refine .re 7 rfl (.ld aR rfl .p0 rfl) .q0 ?_
 refine .rq 8 rfl (.dZ (l:=pre) (m:=[46,109,101,116,97]) rfl rfl (by(repeat rw[List.length_append]);simp only[List.length_cons,List.length_nil];omega)) ?_
 refine .al 20 (.string (str (aP pre))) rfl (rfl) ?_
 refine .eg 9 rfl (.fn rfl rfl .px ah (jN db mb d (aP pre))) ?_
 rintro v _ ⟨G1,hq,rfl⟩
 obtain⟨rfl,rfl⟩:=hq
 simp only[ag,ae]
 refine ay ?_
 refine .al 21 (.tuple #[.string (str (mt z w)),.int .i64 0]) rfl (by rw[if_pos hm,hf]) ?_
 refine .aq fds [10] ?_
 refine .aq fds [11] ?_
 refine .aq fds [12] ?_
 refine .aq fds [13] ?_
 refine .aq fds [14] ?_
 refine .dn ?_
 refine .ax fds 11 ?_
 refine .fn rfl rfl .nil ah (A1 (mt z w) [10] (by omega)) (fun v G1 hq=>?_)
 obtain⟨rfl,rfl⟩:=hq
 simp only[ae]
 refine .al 28 (.tuple #[.string (str (Lib.decDigits z++[32]++Lib.decDigits w)),.bool true]) rfl (by rw[(FI z w).1,(FI z w).2]) ?_
 refine .ax fds 9 ?_
 refine .fn rfl rfl .nil (af.pick .p3 k) (Kw (Lib.decDigits z++[32]++Lib.decDigits w) [32] (by simp only[List.length_append,List.length_cons,List.length_nil];omega)) (fun v G1 hq=>?_)
 obtain⟨rfl,rfl⟩:=hq
 simp only[ae]
 refine .al 33 (.tuple #[.string (str (Lib.decDigits z)),.string (str (Lib.decDigits w)),.bool true]) rfl (by rw[KT]) ?_
 refine .ax fds 17 ?_
 refine .fn rfl rfl .nil ah (tQ z (by omega)) (fun v G1 hq=>?_)
 obtain⟨rfl,rfl⟩:=hq
 simp only[ae]
 refine .go fds 5 ?_
 refine .dc (.store cc rfl rfl .p2 rfl aU) ?_
 rintro _ _ rfl
 refine .ax fds 6 ?_
 refine .fn rfl rfl .nil ah (tQ w (by omega)) (fun v G1 hq=>?_)
 obtain⟨rfl,rfl⟩:=hq
 simp only[ae]
 refine .go fds 5 ?_
 refine .dc (.store cc rfl rfl .p0 rfl aU) ?_
 rintro _ _ rfl
 refine .aH fds 2 ?_
 refine .ca (an lb (a6 p db pre most (z:Int) (w:Int) la n lc) 57) (rfl) ?_
 refine .seq ?_
 refine .dr [14,18] [an lb (a6 p db pre most (z:Int) (w:Int) la n lc) 57] ?_
 refine .aq fds [0] ?_
 refine .aq fds [1] ?_
 refine .aq fds [2] ?_
 refine .aq fds [3] ?_
 refine .aq fds [4] ?_
 refine .aq fds [5] ?_
 refine .aq fds [6] ?_
 refine .aq fds [7] ?_
 refine .aq fds [8] ?_
 refine .aq fds [9] ?_
 refine .aq fds [10] ?_
 refine .aq fds [11] ?_
 refine .aq fds [12] ?_
 refine .aq fds [13] ?_
 refine .vR 14 (t:=63) rfl rfl rfl rfl (by kernel_rfl) (by kernel_rfl) (by kernel_rfl) (.ld ak rfl .p0 rfl) .q0 ?_
 refine .aq fds [15] ?_
 refine .aq fds [16] ?_
 refine .aq fds [17] ?_
 refine .vR 18 (t:=63) rfl rfl rfl rfl (by kernel_rfl) (by kernel_rfl) (by kernel_rfl) (.ld ak rfl .p0 rfl) .q0 ?_
 refine .aq fds [19] ?_
 refine .al 72 (.bool true) rfl (bR (by omega)) ?_
 refine .aq fds [20] ?_
 refine .aq fds [21] ?_
 refine .dn ?_
 refine .ca (an lb (a6 p db pre most (z:Int) (w:Int) la n lc) 57) (rfl) ?_
 refine .aG Tryz.func65 (.t1 rfl) .fw ?_
 exact⟨[_,_,_],⟨rfl,rfl⟩,rfl⟩
theorem CB(lb db mb:Nat)(d:Dk)(p:Option Addr)(pre:Nm)(most start aJ:Int)(la:Option Addr)(n lc:Nat)(hp:oe pre)(hm:(d.get (aP pre)).isSome=false):Cn Tryz.prog 65 [.pointer (some ⟨lb,0,none⟩)] LV [an lb (a6 p db pre most start aJ la n lc) 57,an db (d.cells mb) 74,mp aW Fl.val mb d.fs] fun v G=>v=.bool true∧G=[an lb (a6 p db pre most start aJ la n lc) 57,an db (d.cells mb) 74,mp aW Fl.val mb d.fs]:=by
 refine .en Tryz.func65 fun R k=>?_
 have h3:=hp.len
 refine .go fds 5 ?_
 refine .dr [3,7] [an lb (a6 p db pre most start aJ la n lc) 57] ?_
 refine .aq fds [0] ?_
 refine .aq fds [1] ?_
 refine .aq fds [2] ?_
 refine .re 3 rfl (.ld dh rfl .p0 rfl) .q0 ?_
 refine .aq fds [4] ?_
 refine .aq fds [5] ?_
 refine .aq fds [6] ?_
 refine .re 7 rfl (.ld aR rfl .p0 rfl) .q0 ?_
 refine .rq 8 rfl (.dZ (l:=pre) (m:=[46,109,101,116,97]) rfl rfl (by(repeat rw[List.length_append]);simp only[List.length_cons,List.length_nil];omega)) ?_
 refine .al 20 (.string (str (aP pre))) rfl (rfl) ?_
 refine .eg 9 rfl (.fn rfl rfl .px ah (jN db mb d (aP pre))) ?_
 rintro v _ ⟨G1,hq,rfl⟩
 obtain⟨rfl,rfl⟩:=hq
 simp only[ag,ae]
 refine ay ?_
 refine .al 21 (.tuple #[.string (str (d.file (aP pre)).b),.int .i64 8]) rfl (by rw[if_neg (by rw[hm];decide)]) ?_
 refine .aq fds [10] ?_
 refine .aq fds [11] ?_
 refine .aq fds [12] ?_
 refine .aq fds [13] ?_
 refine .aq fds [14] ?_
 refine .dn ?_
 refine .go fds 11 ?_
 refine .aG Tryz.func65 (.t1 rfl) .wi ?_
 exact⟨[_,_,_],⟨rfl,rfl⟩,rfl⟩
abbrev Piece:=Nat×List aQ×List UInt8
structure Holds(pre:Nm)(d:Dk)(p:Piece):Prop where
 le:p.1≤1000000000
 get:(d.get (nameOf pre p.1)).isSome=true
 file:(d.file (nameOf pre p.1)).b=flat p.2.1++p.2.2
 stop:p.2.2=[]∨(aX p.2.2).2.2≠0
 chain:bS (p.1:Int) p.2.1
 aT:∀b∈p.2.1,b.aT
 len:p.2.1.length≤4096
def rR:Int→List Piece→Prop
 |_,[]=>True
 |n,p::r=>(p.1:Int)=n∧rR (aC (p.1:Int) p.2.1) r
def sD(n:Int)(L:List Piece):Int:=L.foldl (fun _ p=>aC (p.1:Int) p.2.1) n
structure Found(pre:Nm)(d:Dk)(L:List Piece)(z w:Nat):Prop where
 holds:∀p∈L,Holds pre d p
 nF:bj pre (bk (d.fs.map (·.1)))=L.map (·.1)
 nodup:(L.map (·.1)).Nodup
 link:∃n:Int,n≤z∧rR n L
 ne:∀i p,i+1<L.length→L[i]?=some p→p.2.1≠[]
 len:L.length≤1000
 next:∀p,L.getLast?=some p→(z:Int)≤aC (p.1:Int) p.2.1
 xO:L≠[]
 zw:z≤w∧w≤1000000000
 wQ:(z=0∧w=0∧(d.get (aP pre)).isSome=false)∨((d.get (aP pre)).isSome=true∧(d.file (aP pre)).b=mt z w)
structure fO(pre:Nm)(d:Dk)(L:List Piece)(z w:Nat):Prop where
 holds:∀p∈L,Holds pre d p
 nF:bj pre (bk (d.fs.map (·.1)))=L.map (·.1)
 nodup:(L.map (·.1)).Nodup
 link:∃n:Int,n≤z∧rR n L
 ne:∀i p,i+1<L.length→L[i]?=some p→p.2.1≠[]
 len:L.length≤1000
 xO:L≠[]
 zw:z≤w∧w≤1000000000
 wQ:(z=0∧w=0∧(d.get (aP pre)).isSome=false)∨((d.get (aP pre)).isSome=true∧(d.file (aP pre)).b=mt z w)
theorem Found.x{pre:Nm}{d:Dk}{L:List Piece}{z w:Nat}(h:Found pre d L z w):fO pre d L z w:=⟨h.holds,h.nF,h.nodup,h.link,h.ne,h.len,h.xO,h.zw,h.wQ⟩
def sig(s:Sx):Int×Nm×List aQ:=(s.base,s.nm,s.bs)
def zL(pre:Nm)(p:Piece):Int×Nm×List aQ:=((p.1:Int),nameOf pre p.1,p.2.1)
structure eu(pre:Nm)(d:Dk)(L:List Piece)(i:Nat)(ss:List Sx)(e:Dk):Prop where
 sigs:ss.map sig=(L.take i).map (zL pre)
 ok:∀s∈ss,s.ok
 cS:e.ok
 size:e.size=d.size
 used:e.used≤d.used
 get:∀n,(e.get n).isSome=(d.get n).isSome
 IU:∀p∈L.take i,e.file (nameOf pre p.1)=⟨flat p.2.1,(flat p.2.1).length⟩
 left:∀n,(∀p∈L.take i,n≠nameOf pre p.1)→e.file n=d.file n
theorem eu.begin(pre:Nm){d:Dk}(hd:d.ok)(L:List Piece):eu pre d L 0 [] d:=⟨rfl,fun _ h=>(by cases h),hd,rfl,Nat.le_refl _,fun _=>rfl,fun _ h=>(by cases h),fun _ _=>rfl⟩
theorem eu.here{pre:Nm}{d:Dk}{L:List Piece}{i:Nat}{ss:List Sx}{e:Dk}(h:eu pre d L i ss e)(mo:(L.map (·.1)).Nodup){p:Piece}(hp:L[i]?=some p):e.file (nameOf pre p.1)=d.file (nameOf pre p.1):=by
 refine h.left _ fun q hq e=>?_
 have MY:=ci e
 obtain⟨j,hj⟩:=List.getElem?_of_mem hq
 have fU:j<i:=by have:=(List.getElem?_eq_some_iff.1 hj).1;rw[List.length_take]at this;omega
 rw[List.getElem?_take,if_pos fU]at hj
 have h1:(L.map (·.1))[j]?=some q.1:=by rw[List.getElem?_map,hj];rfl
 have h2:(L.map (·.1))[i]?=some p.1:=by rw[List.getElem?_map,hp];rfl
 obtain⟨a1,a2⟩:=List.getElem?_eq_some_iff.1 h1
 obtain⟨b1,b2⟩:=List.getElem?_eq_some_iff.1 h2
 exact(List.pairwise_iff_getElem.1 mo j i a1 b1 fU) (a2.trans (MY.symm.trans b2.symm))
theorem eu.step{pre:Nm}{d:Dk}{L:List Piece}{i:Nat}{ss:List Sx}{e:Dk}(h:eu pre d L i ss e)(mo:(L.map (·.1)).Nodup){p:Piece}(hp:L[i]?=some p)(hh:Holds pre d p){sb:Nat}{sm:List Nat}{aa:Option Addr}{ac:Nat}{ia:Option Addr}{ic:Nat}(iJ:Ix sm p.2.1.length)(qT:p.2.1.length≤ac):eu pre d L (i+1) (ss++[Sx.mk sb (nameOf pre p.1) (p.1:Int) p.2.1 sm aa ac ia ic]) (e.put (nameOf pre p.1) ⟨flat p.2.1,(flat p.2.1).length⟩):=by
 have hf:=h.here mo hp
 have hu:=Dk.cf h.cS (nameOf pre p.1) ⟨flat p.2.1,(flat p.2.1).length⟩
 rw[hf,hh.file,List.length_append]at hu
 dsimp only at hu
 have ht:L.take (i+1)=L.take i++[p]:=by rw[List.take_add_one,hp];rfl
 refine⟨?_,fun s hs=>?_,Dk.dN h.cS (by dsimp only;rw[hf,hh.file,List.length_append];have:=h.cS.used;omega) (Nat.le_refl _),h.size,by have:=h.used;omega,fun n=>?_,fun q hq=>?_,fun n hn=>?_⟩
 ·
  rw[List.map_append,h.sigs,ht,List.map_append];rfl
 ·
  rcases List.mem_append.1 hs with hs|hs
  ·
   exact h.ok s hs
  ·
   rw[List.mem_singleton.1 hs]
   exact⟨by show(0:Int)≤(p.1:Int);omega,by show(p.1:Int)≤1000000000;have:=hh.le;omega,hh.chain,hh.aT,hh.len,iJ,qT⟩
 ·
  rw[Dk.jF]
  split
  ·
   rename_i e1;rw[e1,hh.get];rfl
  ·
   exact h.get n
 ·
  rw[ht]at hq
  by_cases hx:nameOf pre q.1=nameOf pre p.1
  ·
   have M1:=ci hx
   rcases List.mem_append.1 hq with hq|hq
   ·
    exfalso
    have:=h.here mo hp
    obtain⟨j,hj⟩:=List.getElem?_of_mem hq
    have fU:j<i:=by have:=(List.getElem?_eq_some_iff.1 hj).1;rw[List.length_take]at this;omega
    rw[List.getElem?_take,if_pos fU]at hj
    have h1:(L.map (·.1))[j]?=some q.1:=by rw[List.getElem?_map,hj];rfl
    have h2:(L.map (·.1))[i]?=some p.1:=by rw[List.getElem?_map,hp];rfl
    obtain⟨a1,a2⟩:=List.getElem?_eq_some_iff.1 h1
    obtain⟨b1,b2⟩:=List.getElem?_eq_some_iff.1 h2
    exact(List.pairwise_iff_getElem.1 mo j i a1 b1 fU) (a2.trans (M1.trans b2.symm))
   ·
    rw[List.mem_singleton.1 hq,Dk.aV]
  ·
   rw[(Dk.aK _ _ hx).1]
   rcases List.mem_append.1 hq with hq|hq
   ·
    exact h.IU q hq
   ·
    rw[List.mem_singleton.1 hq]at hx;exact absurd rfl hx
 ·
  rw[(Dk.aK _ _ (hn p (by rw[ht];exact List.mem_append_right _ (.head _)))).1]
  exact h.left n fun q hq=>hn q (by rw[ht];exact List.mem_append_left _ hq)
theorem xP(pre:Nm):∀{n:Int} {L:List Piece} {ss:List Sx},rR n L→ss.map sig=L.map (zL pre)→jd n ss
 |_,[],[],_,_=>trivial
 |_,p::L,s::ss,h,e=>by
  obtain⟨e1,e2⟩:=List.cons.inj e
  have e3:s.base=(p.1:Int):=congrArg (·.1) e1
  have e4:s.bs=p.2.1:=congrArg (·.2.2) e1
  refine⟨e3.trans h.1,?_⟩
  have:=xP pre h.2 e2
  show jd (aC s.base s.bs) ss
  rw[e3,e4];exact this
theorem rS:∀{n:Int} {L:List Piece} {i:Nat} {p q:Piece},rR n L→L[i]?=some p→L[i+1]?=some q→(q.1:Int)=aC (p.1:Int) p.2.1
 |_,x::L,0,p,q,h,hp,hq=>by
  cases hp
  cases L with
  |nil=>cases hq
  |cons y L=>cases hq;exact h.2.1
 |_,x::L,i+1,p,q,h,hp,hq=>rS (i:=i) h.2 hp hq
theorem eu.len{pre:Nm}{d:Dk}{L:List Piece}{i:Nat}{ss:List Sx}{e:Dk}(h:eu pre d L i ss e)(hi:i≤L.length):ss.length=i:=by
 have:=congrArg List.length h.sigs
 rw[List.length_map,List.length_map,List.length_take]at this;omega
theorem eu.at{pre:Nm}{d:Dk}{L:List Piece}{i:Nat}{ss:List Sx}{e:Dk}(h:eu pre d L i ss e){j:Nat}{s:Sx}(hs:ss[j]?=some s):∃p,(L.take i)[j]?=some p∧s.base=(p.1:Int)∧s.nm=nameOf pre p.1∧s.bs=p.2.1:=by
 have h1:=congrArg (fun l=>l[j]?) h.sigs
 simp only[List.getElem?_map,hs,Option.map_some]at h1
 obtain⟨p,hp,e1⟩:=Option.map_eq_some_iff.1 h1.symm
 exact⟨p,hp,(congrArg (·.1) e1).symm,(congrArg (·.2.1) e1).symm,(congrArg (·.2.2) e1).symm⟩
theorem eu.last{pre:Nm}{d:Dk}{L:List Piece}{i:Nat}{r:List Sx}{y:Sx}{e:Dk}(h:eu pre d L i (r++[y]) e)(hi:i≤L.length):∃p,L[i-1]?=some p∧0<i∧y.base=(p.1:Int)∧y.nm=nameOf pre p.1∧y.bs=p.2.1:=by
 have hl:=h.len hi
 rw[List.length_append]at hl
 have OR:r.length+1=i:=hl
 obtain⟨p,hp,h1,h2,h3⟩:=h.at (j:=r.length) (s:=y) (by simp)
 rw[List.getElem?_take,if_pos (by omega)]at hp
 exact⟨p,by rw[show i-1=r.length by omega];exact hp,by omega,h1,h2,h3⟩
theorem eu.log{pre:Nm}{d:Dk}{L:List Piece}{z w:Nat}{ss r:List Sx}{y:Sx}{e:Dk}(h:eu pre d L L.length ss e)(hF:fO pre d L z w)(hz:(z:Int)≤y.next)(hp:oe pre)(hs:ss=r++[y]){most:Int}(h1:256≤most)(h2:most≤1000000)(lb:Nat)(la:Option Addr)(lc:Nat):(Lx.mk lb pre most z (min (w:Int) y.next) r y la lc).ok e:=by
 have Ai:=h.len (Nat.le_refl _)
 have oH:=h.sigs
 rw[List.take_length]at oH
 obtain⟨n,hn,EN⟩:=hF.link
 have KV:=xP pre EN oH
 subst hs
 obtain⟨p,AW,HV,e1,e2,e3⟩:=h.last (Nat.le_refl _)
 have hb:a8 (Lx.mk lb pre most z (min (w:Int) y.next) r y la lc)=n:=by
  unfold a8 Lx.ar
  cases r with
  |nil=>exact KV.1
  |cons x r=>exact KV.1
 have KU:=hF.zw
 refine⟨hp,fun s hs=>?_,by rw[hb];exact KV,fun s hs=>?_,⟨by show(0:Int)≤(z:Int);omega,by rw[hb];exact hn,hz⟩,⟨by show(z:Int)≤min (w:Int) y.next;omega,by show min (w:Int) y.next≤y.next;omega⟩,⟨h1,h2⟩,by show(r++[y]).length≤_;rw[Ai];have:=hF.len;omega⟩
 ·
  obtain⟨j,hj⟩:=List.getElem?_of_mem hs
  obtain⟨q,hq,f1,f2,f3⟩:=h.at (ss:=r++[y]) (j:=j) hj
  rw[List.take_length]at hq
  have QT:=List.mem_of_getElem? hq
  have hh:=hF.holds q QT
  have hd:=h.IU q (by rw[List.take_length];exact QT)
  refine⟨h.ok s hs,by rw[f2,f1];rfl,by rw[f2,h.get];exact hh.get,by rw[f2,hd,f3]⟩
 ·
  obtain⟨j,hj⟩:=List.getElem?_of_mem hs
  have SH:j<r.length:=(List.getElem?_eq_some_iff.1 hj).1
  obtain⟨q,hq,f1,f2,f3⟩:=h.at (ss:=r++[y]) (j:=j) (by rw[List.getElem?_append_left SH];exact hj)
  rw[List.take_length]at hq
  rw[f3]
  rw[List.length_append]at Ai
  exact hF.ne j q (by have:r.length+1=L.length:=Ai;omega) hq
def j0(ss:List Sx):Option Addr:=ss.getLast?.map fun s=>⟨s.b,0,none⟩
theorem l7(r:List Sx)(y:Sx):j0 (r++[y])=some ⟨y.b,0,none⟩:=by unfold j0;rw[List.getLast?_append];rfl
theorem fO.first{pre:Nm}{d:Dk}{L:List Piece}{z w:Nat}(h:fO pre d L z w){p:Piece}(hp:L[0]?=some p):(p.1:Int)≤(z:Int):=by
 obtain⟨n,hn,EN⟩:=h.link
 cases L with
 |nil=>cases hp
 |cons x r=>cases hp;have:=EN.1;omega
theorem eu.ahead{pre:Nm}{d:Dk}{L:List Piece}{z w i:Nat}{ss:List Sx}{e:Dk}(h:eu pre d L i ss e)(hF:fO pre d L z w)(mm:i≤L.length)(hi:0<i){p:Piece}(hp:L[i]?=some p):∃r y,ss=r++[y]∧y∈ss∧j0 ss=some ⟨y.b,0,none⟩∧y.ok∧(p.1:Int)=y.next:=by
 have oS:=h.len mm
 obtain⟨r,y,rfl⟩:∃r y,ss=r++[y]:=⟨ss.dropLast,ss.getLast (fun h=>by rw[h]at oS;simp at oS;omega),(List.dropLast_concat_getLast _).symm⟩
 have Gm:y∈r++[y]:=by simp
 obtain⟨q,hq,_,PE,SI,wU⟩:=h.last mm
 refine⟨r,y,rfl,Gm,l7 r y,h.ok y Gm,?_⟩
 show(p.1:Int)=aC y.base y.bs
 rw[PE,wU]
 obtain⟨n,_,EN⟩:=hF.link
 exact rS (i:=i-1) EN hq (by rw[show i-1+1=i by omega];exact hp)
theorem eu.end_{pre:Nm}{d:Dk}{L:List Piece}{z w:Nat}{ss:List Sx}{e:Dk}(h:eu pre d L L.length ss e)(hF:fO pre d L z w):∃r y,ss=r++[y]∧y∈ss∧j0 ss=some ⟨y.b,0,none⟩∧y.ok∧∃q,L.getLast?=some q∧y.next=aC (q.1:Int) q.2.1:=by
 have oS:=h.len (Nat.le_refl _)
 have HV:0<L.length:=List.length_pos_iff.2 hF.xO
 obtain⟨r,y,rfl⟩:∃r y,ss=r++[y]:=⟨ss.dropLast,ss.getLast (fun h=>by rw[h]at oS;simp at oS;omega),(List.dropLast_concat_getLast _).symm⟩
 have Gm:y∈r++[y]:=by simp
 obtain⟨q,hq,_,PE,SI,wU⟩:=h.last (Nat.le_refl _)
 refine⟨r,y,rfl,Gm,l7 r y,h.ok y Gm,?_⟩
 refine⟨q,by rw[List.getLast?_eq_getElem?];exact hq,?_⟩
 show aC y.base y.bs=_
 rw[PE,wU]
structure l8(pre:Nm)(d:Dk)(L:List Piece)(z w:Nat)(l:Lx)(ss:List Sx)(e:Dk):Prop where
 ok:l.ok e
 open_:eu pre d L L.length ss e
 ar:l.ar=ss
 start:l.start=(z:Int)
 aJ:l.aJ=min (w:Int) l.next
theorem tR:∀(bs:List aQ) (c:Nat),(∀b∈bs,b.aT)→c≤(flat bs).length→∃k rest,k≤bs.length∧(flat bs).take c=flat (bs.take k)++rest∧(rest=[]∨(aX rest).2.2≠0)∧∀m,m≤bs.length→(flat (bs.take m)).length≤c→m≤k
 |[],c,_,h=>⟨0,[],Nat.le_refl _,by simp[flat],.inl rfl,fun m hm _=>hm⟩
 |b::bs,c,hg,h=>by
  have hb:=hg b (.head _)
  by_cases hc:c<(enc b).length
  ·
   refine⟨0,(enc b).take c,Nat.zero_le _,?_,.inr ?_,fun m hm hl=>?_⟩
   ·
    rw[dl,List.take_append_of_le_length (Nat.le_of_lt hc)];rfl
   ·
    show(aX ((dA b).1.take c)).2.2≠0
    rw[DX hb.right hc];decide
   ·
    cases m with
    |zero=>exact Nat.le_refl _
    |succ m=>
     rw[List.take_succ_cons,dl,List.length_append]at hl
     omega
  ·
   rw[dl,List.length_append]at h
   obtain⟨k,rest,h1,h2,h3,h4⟩:=tR bs (c-(enc b).length) (fun x hx=>hg x (.tail _ hx)) (by omega)
   refine⟨k+1,rest,Nat.succ_le_succ h1,?_,h3,fun m hm hl=>?_⟩
   ·
    rw[dl,List.take_succ_cons,dl,List.append_assoc,←h2,List.take_append,List.take_of_length_le (by omega)]
   ·
    cases m with
    |zero=>exact Nat.zero_le _
    |succ m=>
     rw[List.take_succ_cons,dl,List.length_append]at hl
     exact Nat.succ_le_succ (h4 m (Nat.le_of_succ_le_succ hm) (by omega))
def KW(l:Lx)(d:Dk)(m:Nat):Prop:=m≤l.ai.bs.length∧(d.file l.ai.nm).safe=(flat (l.ai.bs.take m)).length
def rT(l:Lx)(m:Nat):Int:=aC l.ai.base (l.ai.bs.take m)
def pieces(l:Lx)(k:Nat)(rest:List UInt8):List Piece:=l.bX.map (fun s=>(s.base.toNat,s.bs,[]))++[(l.ai.base.toNat,l.ai.bs.take k,rest)]
theorem l9(l:Lx)(k rest):(pieces l k rest).map (·.1)=l.ar.map fun s=>s.base.toNat:=by
 unfold pieces Lx.ar;rw[List.map_append,List.map_append,List.map_map];rfl
theorem oX:∀{n:Int} {r:List Sx} {c:Sx} {k:Nat} {rest:List UInt8},jd n (r++[c])→(∀s∈r++[c],s.ok)→rR n (r.map (fun s=>(s.base.toNat,s.bs,([]:List UInt8)))++[(c.base.toNat,c.bs.take k,rest)])
 |n,[],c,k,rest,h,ho=>⟨by have:=h.1;have:=(ho c (.head _)).bC;show((c.base.toNat:Nat):Int)=n;omega,trivial⟩
 |n,x::r,c,k,rest,h,ho=>by
  have h0:=(ho x (.head _)).bC
  have e:((x.base.toNat:Nat):Int)=x.base:=by omega
  refine⟨e.trans h.1,?_⟩
  show rR (aC ((x.base.toNat:Nat):Int) x.bs) _
  rw[e]
  exact oX (n:=x.next) h.2 fun s hs=>ho s (.tail _ hs)
theorem xQ{l:Lx}{d:Dk}(hl:l.ok d){s:Sx}(hs:s∈l.ar):s.nm≠aP l.pre:=by
 obtain⟨c1,c2,_,_⟩:=hl.gN s hs
 rw[c2];exact cM (by have:=c1.bC;have:=c1.ed;omega)
theorem ij{f g:Fl}(h:vv f g)(hs:f.safe=f.b.length):g=f:=by
 obtain⟨z,h1,h2,rfl⟩:=h
 have:z=f.b.length:=by omega
 subst this
 rw[List.take_length]
 cases f;simp at hs;simp[hs]
theorem nG{l:Lx}{d e:Dk}{z w m:Nat}(hl:l.ok d)(hd:d.ok)(ho:mv l d)(hf:Full l d)(hC:ii d e)(hn:l.ar.length≤1000)(hz:l.start=(z:Int))(KU:z≤w∧w≤1000000000)(KX:(z=0∧w=0∧(d.get (aP l.pre)).isSome=false)∨((d.get (aP l.pre)).isSome=true∧d.file (aP l.pre)=⟨mt z w,(mt z w).length⟩))(hm:m≤l.ai.bs.length∧(flat (l.ai.bs.take m)).length≤(d.file l.ai.nm).safe):∃k rest,m≤k∧k≤l.ai.bs.length∧fO l.pre e (pieces l k rest) z w:=by
 obtain⟨c1,c2,c3,c4⟩:=hl.ai
 obtain⟨t,Bn,Bo,QU⟩:=hC.file l.ai.nm
 rw[c4]at Bo QU
 obtain⟨k,rest,hk,ym,nK,SJ⟩:=tR l.ai.bs t c1.aT Bo
 have PF:=SJ m hm.1 (Nat.le_trans hm.2 Bn)
 have KB:=c1.bC
 have IL:((l.ai.base.toNat:Nat):Int)=l.ai.base:=by omega
 have HX:mv l e:=fun u hu hg=>ho u hu (by rw[←hC.get];exact hg)
 have Cp:∀s∈l.bX,e.file s.nm=d.file s.nm:=fun s hs=>ij (hC.file s.nm) (hf s hs)
 have AZ:∀s∈l.ar,s.ok:=fun s hs=>(hl.gN s hs).1
 have KY:bj l.pre (bk (e.fs.map (·.1)))=l.ar.map fun s=>s.base.toNat:=by rw[hC.keys];exact tK hl hd ho
 refine⟨k,rest,PF,hk,fun p hp=>?_,by rw[KY,l9],?_,⟨a8 l,by have:=hl.start;omega,oX hl.link AZ⟩,fun i p hi hp=>?_,?_,by unfold pieces;simp,KU,?_⟩
 ·
  rcases List.mem_append.1 hp with hp|hp
  ·
   obtain⟨s,hs,rfl⟩:=List.mem_map.1 hp
   obtain⟨s1,s2,s3,s4⟩:=hl.gN s (List.mem_append_left _ hs)
   have h0:=s1.bC
   have Lu:((s.base.toNat:Nat):Int)=s.base:=by omega
   refine⟨by show s.base.toNat≤_;have:=s1.ed;omega,by show(e.get (nameOf l.pre s.base.toNat)).isSome=true;rw[←s2,hC.get];exact s3,?_,.inl rfl,by show bS ((s.base.toNat:Nat):Int) s.bs;rw[Lu];exact s1.chain,s1.aT,s1.len⟩
   show(e.file (nameOf l.pre s.base.toNat)).b=flat s.bs++[]
   rw[←s2,Cp s hs,s4,List.append_nil]
  ·
   rw[List.mem_singleton.1 hp]
   refine⟨by show l.ai.base.toNat≤_;have:=c1.ed;omega,by show(e.get (nameOf l.pre l.ai.base.toNat)).isSome=true;rw[←c2,hC.get];exact c3,?_,nK,by show bS ((l.ai.base.toNat:Nat):Int) (l.ai.bs.take k);rw[IL];exact c1.chain.take k,fun b hb=>c1.aT b (List.mem_of_mem_take hb),by show(l.ai.bs.take k).length≤4096;rw[List.length_take];have:=c1.len;omega⟩
   show(e.file (nameOf l.pre l.ai.base.toNat)).b=flat (l.ai.bs.take k)++rest
   rw[←c2,QU];exact ym
 ·
  rw[l9,←tK hl hd ho]
  exact(iH (k8 _) (fM hd.nodup)).imp fun h=>by omega
 ·
  unfold pieces at hp hi
  rw[List.length_append,List.length_map]at hi
  have uf:i<l.bX.length:=by simp at hi;omega
  rw[List.getElem?_append_left (by rw[List.length_map];exact uf),List.getElem?_map]at hp
  obtain⟨s,hs,rfl⟩:=Option.map_eq_some_iff.1 hp
  exact hl.ne s (List.mem_of_getElem? hs)
 ·
  unfold pieces;rw[List.length_append,List.length_map];unfold Lx.ar at hn;rw[List.length_append]at hn;exact hn
 ·
  rcases KX with⟨h1,h2,h3⟩|⟨h1,h2⟩
  ·
   exact .inl ⟨h1,h2,by rw[hC.get];exact h3⟩
  ·
   refine .inr ⟨by rw[hC.get];exact h1,?_⟩
   rw[ij (hC.file _) (by rw[h2]),h2]
theorem xR{l:Lx}{d:Dk}{k:Nat}{rest:List UInt8}(hl:l.ok d){p:Piece}(hp:(pieces l k rest).getLast?=some p):aC (p.1:Int) p.2.1=rT l k:=by
 have KB:=hl.ai.1.bC
 unfold pieces at hp
 rw[List.getLast?_append]at hp
 cases hp
 show aC ((l.ai.base.toNat:Nat):Int) (l.ai.bs.take k)=_
 rw[show((l.ai.base.toNat:Nat):Int)=l.ai.base by omega];rfl
theorem xS{l:Lx}{d e:Dk}{z w m:Nat}(hl:l.ok d)(hd:d.ok)(ho:mv l d)(hf:Full l d)(hC:ii d e)(hn:l.ar.length≤1000)(hz:l.start=(z:Int))(KU:z≤w∧w≤1000000000)(KX:(z=0∧w=0∧(d.get (aP l.pre)).isSome=false)∨((d.get (aP l.pre)).isSome=true∧d.file (aP l.pre)=⟨mt z w,(mt z w).length⟩))(hm:m≤l.ai.bs.length∧(flat (l.ai.bs.take m)).length≤(d.file l.ai.nm).safe)(UX:(z:Int)≤rT l m):∃k rest,m≤k∧k≤l.ai.bs.length∧Found l.pre e (pieces l k rest) z w:=by
 obtain⟨k,rest,h1,h2,h⟩:=nG hl hd ho hf hC hn hz KU KX hm
 refine⟨k,rest,h1,h2,h.holds,h.nF,h.nodup,h.link,h.ne,h.len,fun p hp=>?_,h.xO,h.zw,h.wQ⟩
 rw[xR hl hp]
 have:=hl.ai.1.chain.mono hl.ai.1.aT h1
 unfold rT at*;omega
theorem rU{l l2:Lx}{d e e2:Dk}{k z w:Nat}{rest:List UInt8}{ss:List Sx}(hl:l.ok d)(h:l8 l.pre e (pieces l k rest) z w l2 ss e2):l2.all=l.bX.flatMap (fun s=>s.bs)++l.ai.bs.take k∧l2.next=rT l k∧KW l2 e2 l2.ai.bs.length:=by
 have oH:=h.open_.sigs
 rw[List.take_length,←h.ar]at oH
 have KB:=hl.ai.1.bC
 have IL:((l.ai.base.toNat:Nat):Int)=l.ai.base:=by omega
 have e1:(pieces l k rest).map (zL l.pre)=l.bX.map (fun s=>zL l.pre (s.base.toNat,s.bs,[]))++[zL l.pre (l.ai.base.toNat,l.ai.bs.take k,rest)]:=by unfold pieces;rw[List.map_append,List.map_map];rfl
 rw[e1]at oH
 unfold Lx.ar at oH
 rw[List.map_append]at oH
 obtain⟨h1,h2⟩:=List.append_inj' oH rfl
 have h3:sig l2.ai=zL l.pre (l.ai.base.toNat,l.ai.bs.take k,rest):=(List.cons.inj h2).1
 have hb:l2.ai.base=l.ai.base:=(congrArg (·.1) h3).trans IL
 have Ct:l2.ai.bs=l.ai.bs.take k:=congrArg (·.2.2) h3
 refine⟨?_,?_,Nat.le_refl _,?_⟩
 ·
  unfold Lx.all Lx.ar
  rw[List.flatMap_append]
  have h4:l2.bX.flatMap (fun s=>s.bs)=l.bX.flatMap (fun s=>s.bs):=by
   have h5:=congrArg (fun L=>(L.map fun x:Int×Nm×List aQ=>x.2.2).flatten) h1
   simp only[List.map_map]at h5
   rw[List.flatMap_def,List.flatMap_def]
   exact h5
  rw[h4];simp[Ct]
 ·
  show aC l2.ai.base l2.ai.bs=aC l.ai.base (l.ai.bs.take k)
  rw[hb,Ct]
 ·
  have hd:=h.open_.IU (l.ai.base.toNat,l.ai.bs.take k,rest) (by rw[List.take_length];unfold pieces;simp)
  have ph:l2.ai.nm=nameOf l.pre l.ai.base.toNat:=congrArg (·.2.1) h3
  rw[ph,hd,List.take_length,Ct]
theorem FK:oe [112]:=⟨by decide,by decide,by decide⟩
theorem FL{z:Nat}(h:z≤16777216):(Dk.mk z []).ok:=⟨.nil,Nat.zero_le _,h,fun _ h=>by cases h⟩
theorem oI(z:Nat):dI (Dk.mk z []):=fun _ h=>by cases h
theorem xT(z:Nat)(pre:Nm):KO pre (Dk.mk z []):=⟨rfl,fun _ _=>rfl⟩
theorem FM{d e:Dk}(hd:d.ok)(he:e.ok)(h:∀n,(e.get n).isSome=(d.get n).isSome):e.fs.length=d.fs.length:=by
 have hp:(e.fs.map (·.1)).Perm (d.fs.map (·.1)):=(List.perm_ext_iff_of_nodup he.nodup hd.nodup).2 fun n=>by rw[←er,←er,h n]
 have:=hp.length_eq
 rwa[List.length_map,List.length_map]at this
theorem gW.nil:gW []:=⟨.nil,fun _ h=>(by cases h)⟩
theorem Lx.ok.KZ{l:Lx}{d:Dk}(h:l.ok d):∀b∈l.all,0<b.en:=fun b hb=>by
 obtain⟨s,hs,hb⟩:=List.mem_flatMap.1 hb
 have hk:=(h.gN s hs).1
 have:=kZ hk hb
 have:=hk.bC
 omega
theorem Bp{l:Lx}{d:Dk}(h:l.ok d)(h0:l.start=0):l.fN=l.all:=by
 unfold Lx.fN bJ;rw[h0];exact List.filter_eq_self.2 fun b hb=>decide_eq_true (h.KZ b hb)
theorem eG{α:Type}{p:α→Prop}:∀x∈([]:List α),p x:=fun _ h=>(by cases h)
theorem ig.nil(t:Tm):ig t []:=fun i b h=>(by cases h)
theorem FN{d:Dk}{c:Cx}{es:List Ep}(h:es=c.es):bw d c es=d:=if_pos h
theorem tS{z:Nat}{l:Lx}{d:Dk}(h:dG [112] 300 (Dk.mk z []) l d∨dG [112] 256 (Dk.mk z []) l d)(hz:5000≤z):Bg [112] [] [] l d:=by
 have key:∀m,dG [112] m (Dk.mk z []) l d→Bg [112] [] [] l d:=fun m h=>by
  have hv:l.fN=[]:=by rw[Bp h.ok h.start,h.all]
  have Bk:d.used=0:=h.used
  have jS:d.size=z:=h.size
  have Gn:=h.len
  refine⟨h.cS,h.ok,h.pre,by rw[h.all];exact Nat.zero_le _,.nil,.inl ⟨?_,rfl⟩,.inl ⟨?_,rfl⟩,by omega,Nat.lt_of_le_of_lt Gn (by show 0+1<254;decide),by rw[hv];exact eG,by rw[hv];exact .nil _⟩
  ·
   rw[(h.eF _ fun u hu=>fK hu).2];rfl
  ·
   rw[(h.eF _ fun u hu=>cK hu).2];rfl
 rcases h with h|h<;>exact key _ h
theorem tT{z:Nat}{m:Int}{s:St}{e d:Dk}(h:dG [112] m (Dk.mk z []) s.l e)(hz:5000≤z)(hO:Bh [112] [] [] s e d):bz z 0 0 0 s d∧zK s d:=by
 have kM:s.c.es=[]:=hO.es
 have hd:d=e:=hO.QL.trans (FN rfl)
 subst hd
 have hv:s.l.fN=[]:=by rw[Bp h.ok h.start,h.all]
 have ht:bf s.t.m=[]:=by rw[hO.t,hv];rfl
 have SK:(d.get (ek [112])).isSome=false:=by rw[(h.eF _ fun u hu=>fK hu).2];rfl
 have Nj:=h.ar
 have Gn:=h.len
 have lX:=h.next
 have SL:(d.file (eY [112])).b=[]:=by rw[(h.eF _ fun u hu=>cK hu).1];rfl
 refine⟨⟨h.cS,h.ok,h.own,h.full,h.short FK (oI _),h.pre,by rw[hO.nm,h.pre],by rw[lX];decide,by omega,by rw[h.all];exact Nat.le_refl _,h.size,by rw[h.used];exact Nat.zero_le _,by rw[h.pre,SL];exact Nat.zero_le _,fun n hn=>?_,by rw[kM];exact .nil,by rw[kM];exact Nat.le_refl _,by rw[kM];exact eG,by rw[kM];show(-1:Int)≤0;decide,by rw[hO.nm,kM];exact .inl ⟨SK,rfl⟩,by rw[ht];exact .nil,by rw[ht];exact eG,by rw[ht];exact eG⟩,⟨h.start,h.Nf,h.aJ,?_,?_,by rw[kM,h.all];rfl,by rw[ht,h.all];rfl,by rw[h.all];exact .nil _,by rw[h.all];exact eG⟩⟩
 ·
  rw[h.pre]
  by_cases hx:∃u,u≤1000000000∧n=nameOf [112] u
  ·
   exact .inr (.inr (.inr hx))
  ·
   rw[(h.eF n fun u hu e=>hx ⟨u,hu,e⟩).2]at hn;cases hn
 ·
  rw[h.pre,(h.eF _ fun u hu e=>cM (by omega) e.symm).2];rfl
 ·
  rw[h.pre,(h.eF _ fun u hu=>cK hu).2];rfl
theorem zD.short{l:Lx}{d d':Dk}(h:zD l d d')(hs:dI d):dI d':=fun n hn=>hs n (by rw[←h.names];exact hn)
theorem bz.sync{Z i j E s d}(h:bz Z i j E s d):bz Z i j E s (sync s.l d):=by
 have hS:=Bf h.ok h.cS
 have h1:=h.ok.ai.1.bC
 have h2:=h.ok.ai.1.ed
 have CV:ek s.l.pre≠s.l.ai.nm:=fun e=>fK (pre:=s.l.pre) (u:=s.l.ai.base.toNat) (by omega) (e.trans h.ok.ai.2.1)
 have QV:eY s.l.pre≠s.l.ai.nm:=fun e=>cK (pre:=s.l.pre) (u:=s.l.ai.base.toNat) (by omega) (e.trans h.ok.ai.2.1)
 exact⟨hS.cS,hS.ok,hS.own h.own,hS.full h.full,hS.short h.short,h.pre,h.nm,h.next,h.ar,h.all,by rw[hS.size,h.size],by rw[hS.used,(hS.eF _ CV).1,(hS.eF _ QV).1];exact h.used,by rw[(hS.eF _ QV).1];exact h.LD,fun n hn=>h.names n (by rw[←hS.names];exact hn),h.es,h.Fy,h.LF,h.last,h.eM.same (by rw[h.nm];exact(hS.eF _ CV).1) (hS.names _),h.lf,h.keys,h.Fz⟩
def gj(l:Lx)(d:Dk):Prop:=(d.file l.ai.nm).safe=(d.file l.ai.nm).b.length
theorem K0(l:Lx)(d:Dk):gj l (sync l d):=by unfold gj sync;rw[Dk.aV]
structure Ty where
 pid:Int
 ep:Int
 seq:Int
 n:Int
 th:Int
 at_:Int
 ka:Option Addr
 kl:List Int
 kc:Nat
def Ty.cells(y:Ty):List Value:=[.int .i64 y.pid,.int .i64 y.ep,.int .i64 y.seq,.int .i64 y.n,.int .i64 y.th,.int .i64 y.at_,.slice y.ka y.kl.length y.kc]
theorem Ty.bU(y:Ty):y.cells.length=7:=rfl
structure Ty.ok(y:Ty):Prop where
 pid:i64 y.pid
 ep:i64 y.ep
 seq:i64 y.seq
 n:i64 y.n
 th:i64 y.th
 at_:i64 y.at_
 kl:y.kl.length≤y.kc∧(∀x∈y.kl,i64 x)∧y.kl.length≤140737488351232
theorem bz.mono{Z i i' j j' E F s d}(h:bz Z i j E s d)(hi:i≤i')(hj:j≤j')(hE:E≤F):bz Z i' j' F s d:=
 ⟨h.cS,h.ok,h.own,h.full,h.short,h.pre,h.nm,by have:=h.next;omega,by have:=h.ar;omega,by have:=h.all;omega,h.size,by have:=h.used;omega,by have:=h.LD;omega,h.names,h.es,by have:=h.Fy;omega,h.LF,by have:=h.last;omega,h.eM,h.lf,h.keys,h.Fz⟩
theorem bz.late{Z i j E s d}(h:bz Z i j E s d){pid ep seq e:Int}{n:Nat}(h1:(ask (bf s.t.m) pid ep seq n).2=0)(h2:(ask (bf s.t.m) pid ep seq n).1<0)(hp:pid≠0):late (aA (bf s.t.m) pid) (gh e pid ep seq n s.l.next)=false:=by
 obtain⟨_,_,h3⟩:=IT h.lf.tocC h1 h2 hp
 refine Bi fun z hz=>?_
 obtain⟨a1,a2,_⟩:=h3 z hz
 have hm:=List.mem_of_getLast? hz
 exact⟨h.KQ pid z hm,a1,a2⟩
theorem qf(db:Nat)(c:Cx)(hl:c.es.length≤100000):Cn Tryz.prog 31 [.pointer (some ⟨c.cb,0,none⟩)] (jJ db c) [] fun v G=>v=.int .i64 (cu c.es)∧G=[]:=by
 refine .en Tryz.func31 fun R k=>?_
 refine .ax fds 10 ?_
 refine .rd (.load eV rfl (af.one (i:=2) (af.pick .p0 (k.mono fun _ h=>h.1)) rfl)) ?_
 refine .rd (.bP rfl rfl Tryz.underlying64 rfl) ?_
 refine .aH fds 2 ?_
 refine .aM rfl (fun c1=>?_) (fun c1=>?_)
 ·
  refine .go fds 4 ?_
  refine .aG Tryz.func31 (.t1 rfl) .q0 ?_
  exact⟨[],⟨by have:c.es=[]:=List.eq_nil_of_length_eq_zero (by omega);rw[this];rfl,rfl⟩,rfl⟩
 ·
  refine .go fds 2 ?_
  obtain⟨x,hx⟩:∃x,c.es[c.es.length-1]?=some x:=⟨_,List.getElem?_eq_getElem (by omega)⟩
  refine .tell (φ:=∃b o,c.la=some ⟨b,o,none⟩) (af.pick .p0 (k.mono fun _ h=>aD.addr h.2 (by rw[au ct];omega))) (fun hh=>?_)
  obtain⟨b9,o9,h9⟩:=hh
  refine .dr [3,7,12] [R] ?_
  refine .aq fds [0] ?_
  refine .aq fds [1] ?_
  refine .aq fds [2] ?_
  refine .re 3 rfl (.load eV rfl (af.one (i:=2) (af.pick .p0 (k.mono fun _ h=>h.1)) rfl)) .q0 ?_
  refine .aq fds [4] ?_
  refine .aq fds [5] ?_
  refine .aq fds [6] ?_
  refine .re 7 rfl (.load eV rfl (af.one (i:=2) (af.pick .p0 (k.mono fun _ h=>h.1)) rfl)) .q0 ?_
  refine .rq 8 rfl (.bP rfl rfl Tryz.underlying64 rfl) ?_
  refine .rq 9 rfl (.sub rfl rfl (by omega) (by omega)) ?_
  refine .al 18 (.int .i64 ((c.es.length-1:Nat))) rfl (congrArg (Value.int .i64) (by omega)) ?_
  refine .rq 10 rfl (.indexAddr (b:=b9) (o:=o9) Tryz.underlying64 cw (by show some (Value.slice (c.la) _ _)=_;rw[h9]) rfl (by omega) (by omega)) ?_
  refine .aq fds [11] ?_
  refine .re 12 rfl (.load ak rfl (af.one (i:=0) (af.elem (f:=fR) ct (by decide) (af.pick .p0 (k.mono fun _ h=>h9▸h.2)) (hx)) rfl)) .q0 ?_
  refine .aq fds [13] ?_
  refine .dn ?_
  refine .aG Tryz.func31 (.t1 rfl) .q0 ?_
  exact⟨[],⟨by rw[pM hx (by omega)];rfl,rfl⟩,rfl⟩
theorem CC(db bx tF i:Nat)(c:Cx)(z:Int)(x:Ep)(hl:c.es.length≤100000)(hx:c.es[i]?=some x):Cn Tryz.prog 119 [.int .i64 (i:Nat),.pointer (some ⟨bx,0,none⟩),.pointer (some ⟨tF,0,none⟩)] (fun w=>aL bx 0 [.pointer (some ⟨c.cb,0,none⟩)] w∧aL tF 0 [.int .i64 z] w∧jJ db c w) [] fun v G=>v=.bool (decide (z≤x.2))∧G=[]:=by
 refine .en Tryz.func119 fun R k=>?_
 have hi:=(List.getElem?_eq_some_iff.1 hx).1
 refine .tell (φ:=∃b o,c.la=some ⟨b,o,none⟩) (af.pick .p0 (k.mono fun _ h=>aD.addr h.2.2.2 (by rw[au ct];omega))) (fun hh=>?_)
 obtain⟨b9,o9,h9⟩:=hh
 refine .go fds 5 ?_
 refine .dr [0,3,7,8] [R] ?_
 refine .re 0 rfl (.load gS rfl (af.one (i:=0) (af.pick .p0 (k.mono fun _ h=>h.1)) rfl)) .q0 ?_
 refine .aq fds [1] ?_
 refine .aq fds [2] ?_
 refine .re 3 rfl (.load eV rfl (af.one (i:=2) (af.pick .p0 (k.mono fun _ h=>h.2.2.1)) rfl)) .q0 ?_
 refine .aq fds [4] ?_
 refine .rq 5 rfl (.indexAddr (b:=b9) (o:=o9) Tryz.underlying64 cw (by show some (Value.slice (c.la) _ _)=_;rw[h9]) rfl (by omega) (by omega)) ?_
 refine .aq fds [6] ?_
 refine .re 7 rfl (.load ak rfl (af.one (i:=1) (af.elem (f:=fR) ct (by decide) (af.pick .p0 (k.mono fun _ h=>h9▸h.2.2.2)) (hx)) rfl)) .q0 ?_
 refine .re 8 rfl (.load ak rfl (af.one (i:=0) (af.pick .p0 (k.mono fun _ h=>h.2.1)) rfl)) .q0 ?_
 refine .aq fds [9] ?_
 refine .aq fds [10] ?_
 refine .dn ?_
 refine .aG Tryz.func119 (.t1 rfl) .q0 ?_
 exact⟨[],⟨rfl,rfl⟩,rfl⟩
theorem K2{db bx tF:Nat}{c:Cx}{z:Int}(hl:c.es.length≤100000)(i:Nat)(hi:i<c.es.length):Cn Tryz.prog 119 [.int .i64 (i:Nat),.pointer (some ⟨bx,0,none⟩),.pointer (some ⟨tF,0,none⟩)] (fun w=>aL bx 0 [.pointer (some ⟨c.cb,0,none⟩)] w∧aL tF 0 [.int .i64 z] w∧jJ db c w) [] fun v G=>v=.bool (pE c.es z i)∧G=[]:=by
 obtain⟨x,hx⟩:∃x,c.es[i]?=some x:=⟨_,List.getElem?_eq_getElem hi⟩
 rw[wG hx];exact CC db bx tF i c z x hl hx
theorem rV(db:Nat)(c:Cx)(z:Int)(hc:bM c.es):Cn Tryz.prog 76 [.pointer (some ⟨c.cb,0,none⟩),.int .i64 z] (jJ db c) [] fun v G=>v=.int .i64 ((bg z c.es).length:Nat)∧G=[]:=by
 refine .en Tryz.func76 fun R k=>?_
 have hl:=hc.len
 refine .ax fds 2 ?_
 refine .ef (.box (l:=[.pointer (some ⟨c.cb,0,none⟩)]) rfl rfl (aB.of rfl)) ?_
 rintro _ _ ⟨b2,rfl,rfl⟩
 refine .ef (.box (l:=[.int .i64 z]) rfl rfl (aB.of rfl)) ?_
 rintro _ _ ⟨b3,rfl,rfl⟩
 refine .ax fds 4 ?_
 refine .rd (.ld gS rfl .p1 rfl) ?_
 refine .go fds 2 ?_
 refine .rd (.load eV rfl (af.one (i:=2) (af.pick .p2 (k.mono fun _ h=>h.1)) rfl)) ?_
 refine .rd (.bP rfl rfl Tryz.underlying64 rfl) ?_
 refine .rd (.makeFunc (cs:=[.pointer (some ⟨b2,0,none⟩),.pointer (some ⟨b3,0,none⟩)]) rfl rfl) ?_
 refine .fn rfl rfl .nil ((af.an .p1).and ((af.an .p0).and (af.pick .p2 k))) (oz c.es.length (by omega) (pE c.es z) (HH hc z) (fun w=>aL b2 0 [.pointer (some ⟨c.cb,0,none⟩)] w∧aL b3 0 [.int .i64 z] w∧jJ db c w) 119 #[.pointer (some ⟨b2,0,none⟩),.pointer (some ⟨b3,0,none⟩)] (K2 (by omega))) (fun v G1 hq=>?_)
 obtain⟨u,hu,N3,Gl,rfl,rfl⟩:=hq
 simp only[ae]
 obtain⟨_,rfl⟩:=DZ hc hu N3 Gl
 refine .aH fds 2 ?_
 refine .aG Tryz.func76 (.t1 rfl) .q2 ?_
 exact⟨[],⟨rfl,rfl⟩,rfl⟩
theorem K3:j3 Tryz.prog 161:=⟨_,Tryz.func161,by kernel_rfl,rfl⟩
theorem vy(b:Nat)(p v:Value)(hp:p=.pointer none∨p=.pointer (some ⟨b,0,none⟩)):Cn Tryz.prog 161 [.pointer (some ⟨b,0,none⟩)] (fun _=>True) [an b [p,v] 177] fun r G=>r=.tuple #[]∧G=[an b [.pointer (some ⟨b,0,none⟩),v] 177]:=by
 refine Cn.Dv (i:=0) (u:=.pointer (some ⟨b,0,none⟩)) K3 (Nat.zero_lt_succ _) rfl fun w fz ul hb=>?_
 have hc:w.cell? ⟨b,0,none⟩=some p:=cell_of (l:=[p,v]) (o:=0) hb
 rcases hp with rfl|rfl
 ·
  exact Any.Builder_copyCheck_fresh (ρ:=Tryz.iW) {Tryz.ve with} {Tryz.fL with} b w hc (by simp[World.shape?,hb];rfl) (by
   simp only[World.frozen?,hb]
   rcases ul with h|h
   ·
    simp[h]
   ·
    simp at h;simp;omega)
 ·
  refine(Any.Builder_copyCheck_used (ρ:=Tryz.iW) {Tryz.ve with} {Tryz.fL with} b w hc).mono fun x w' h=>⟨h.1,h.2.trans ?_⟩
  unfold World.setCell
  have e:w.heap.modify b (fun o=>match o with|.cells c e f=>.cells (if(none:Option Nat).isSome then c else c.setIfInBounds 0 (.pointer (some ⟨b,0,none⟩))) e f|o=>o)=w.heap:=by
   apply Array.ext_getElem?
   intro i
   rw[Array.getElem?_modify]
   split
   ·
    rename_i h;subst h;rw[hb];rfl
   ·
    rfl
  exact(congrArg (fun h=>{w with heap:=h}) e.symm)
theorem K4:j3 Tryz.prog 117:=⟨_,Tryz.func117,by kernel_rfl,rfl⟩
theorem K5:j3 Tryz.prog 118:=⟨_,Tryz.func118,by kernel_rfl,rfl⟩
theorem K6(b:Nat)(l s:List UInt8)(p:Value)(a:Option Addr)(c:Nat)(hp:p=.pointer none∨p=.pointer (some ⟨b,0,none⟩))(hl:l.length≤1000000000)(hs:s.length≤1000000000):Cn Tryz.prog 117 [.pointer (some ⟨b,0,none⟩),.string (str s)] (fun _=>True) [an b [p,.slice a l.length c] 177,arr 5 1 a c (fA l)] fun v G=>v=.tuple #[.int .i64 (s.length:Int),.nilIface]∧G=[BL b (l++s)]:=by
 refine .en Tryz.func117 fun R k=>?_
 refine .ax fds 8 ?_
 refine .fn rfl rfl .q0 ah (vy b p (.slice a l.length c) hp) (fun v G1 hq=>?_)
 obtain⟨rfl,rfl⟩:=hq
 simp only[ag,ae]
 refine .ax fds 7 ?_
 refine .rd (.ld kW rfl .p0 rfl) ?_
 refine .rd (.move rfl) ?_
 refine .ef (.append rfl rfl Tryz.underlying115 fX rfl (aB.of rfl) (by decide) (by decide) rfl rfl .p1 (n:=l.length) (m:=s.length) (by rw[ew,Nat.mul_one]) (.JM Tryz.underlying9) (by omega)) ?_
 rintro _ _ ⟨ra,rc,rfl,rn,rfl⟩
 refine .go fds 2 ?_
 refine .dc (.store Ap rfl rfl .p1 rfl aU) ?_
 rintro _ _ rfl
 refine .ax fds 4 ?_
 refine .rd (.ey rfl rfl Tryz.underlying9 rfl) ?_
 refine .aH fds 3 ?_
 refine .ca (an b [.pointer (some ⟨b,0,none⟩),.slice ra (l++s).length rc] 177) (by rw[List.length_append];rfl) ?_
 refine .perm .wh ?_
 refine .ca (arr 5 1 ra rc (fA (l++s))) (by rw[dY]) ?_
 refine .close (X:=BL b (l++s)) .Gg (fun h H=>⟨(.pointer (some ⟨b,0,none⟩),ra,rc),.inr rfl,H⟩) ?_
 refine .aG Tryz.func117 (.t2 rfl rfl) .cU ?_
 exact⟨[_],⟨rfl,rfl⟩,rfl⟩
theorem kN(b:Nat)(l s:List UInt8)(hl:l.length≤1000000000)(hs:s.length≤1000000000):Cn Tryz.prog 117 [.pointer (some ⟨b,0,none⟩),.string (str s)] (fun _=>True) [BL b l] fun v G=>v=.tuple #[.int .i64 (s.length:Int),.nilIface]∧G=[BL b (l++s)]:=
 Cn.ex K4 (fun _ h=>h) fun⟨p,a,c⟩ hp=>K6 b l s p a c hp hl hs
theorem zM(b:Nat)(l:List UInt8)(p:Value)(a:Addr)(c:Nat)(hc:c≠0)(h0:l≠[])(hl:l.length≤1000000000):Cn Tryz.prog 118 [.pointer (some ⟨b,0,none⟩)] (fun _=>True) [an b [p,.slice (some a) l.length c] 177,JN 5 (some a) (fA l)] fun v G=>v=.string (str l)∧G=[BS b l]:=by
 refine .en Tryz.func118 fun R k=>?_
 refine .go fds 5 ?_
 refine .dr [3,8] [an b [p,.slice (some a) l.length c] 177] ?_
 refine .aq fds [0] ?_
 refine .aq fds [1] ?_
 refine .aq fds [2] ?_
 refine .re 3 rfl (.ld kW rfl .p0 rfl) .q0 ?_
 refine .rq 4 rfl (.BK (a:=some a) (n:=l.length) (c:=c) rfl rfl (.inr hc)) ?_
 refine .aq fds [5] ?_
 refine .aq fds [6] ?_
 refine .aq fds [7] ?_
 refine .re 8 rfl (.ld kW rfl .p0 rfl) .q0 ?_
 refine .rq 9 rfl (.bP rfl rfl Tryz.underlying115 rfl) ?_
 refine .eg 10 rfl (.yH (p:=some a) (l:=l) rfl rfl Tryz.underlying206 (by kernel_rfl) h0 (by omega) rfl rfl .p1) ?_
 rintro _ _ ⟨rfl,rfl⟩
 refine ay ?_
 refine .aq fds [11] ?_
 refine .dn ?_
 refine .close (X:=BS b l) .Gg (fun h H=>⟨(p,a,c),hc,H⟩) ?_
 refine .aG Tryz.func118 (.t1 rfl) .cU ?_
 exact⟨[_],⟨rfl,rfl⟩,rfl⟩
theorem tU(b:Nat)(l:List UInt8)(h0:l≠[])(hl:l.length≤1000000000):Cn Tryz.prog 118 [.pointer (some ⟨b,0,none⟩)] (fun _=>True) [BS b l] fun v G=>v=.string (str l)∧G=[BS b l]:=
 Cn.ex K5 (fun _ h=>h) fun⟨p,a,c⟩ hc=>zM b l p a c hc h0 hl
theorem cF.i64{n:Int}(h:cF n):Go.Proofs.YtoglbebcdjdkiaaGreatDoor.i64 n:=by unfold cF at h;unfold Go.Proofs.YtoglbebcdjdkiaaGreatDoor.i64;omega
theorem xU{es:List Ep}{i:Nat}{x:Ep}(h:es[i]?=some x):(es.take (i+1)).flatMap mu=(es.take i).flatMap mu++mu x:=by
 rw[List.take_add_one,h,List.flatMap_append];simp
theorem vz{es:List Ep}(h:bM es)(i:Nat):(aF (es.length:Int)++(es.take i).flatMap mu).length≤10+es.length*20:=by
 have h1:=bB (n:=(es.length:Int)) ⟨by omega,by have:=h.len;omega⟩
 have h2:=eW (f:=mu) (k:=20) (es.take i) fun e he=>uM (h.may e (List.mem_of_mem_take he))
 rw[List.length_append];rw[List.length_take]at h2;omega
theorem rW(es:List Ep):bG es≠[]:=fun e=>by
 have h1:=congrArg List.length e
 have h2:=DI (AB (es.length:Int))
 unfold bG aF at h1;rw[List.length_append,List.length_nil]at h1;omega
theorem rX(db mb:Nat)(d:Dk)(c:Cx)(es:List Ep)(a:Option Addr)(ac:Nat)(hc:c.es.length≤100000)(he:bM es)(hd:d.ok)(hn:eS c.nm)(hr:(d.get c.nm).isSome=true∨d.fs.length<256)(fu:d.used+(14+es.length*20)≤d.size):Cn Tryz.prog 75 [.pointer (some ⟨c.cb,0,none⟩),.slice a es.length ac] (fun _=>True) [an c.cb (c.cells db) 125,arr 70 3 c.la c.lc (c.es.flatMap fR),arr 70 3 a ac (es.flatMap fR),an db (d.cells mb) 74,mp aW Fl.val mb d.fs] fun v G=>v=.int .i64 0∧∃la lc,G=[CG db ⟨c.cb,c.nm,es,la,lc⟩,an db ((bw d c es).cells mb) 74,mp aW Fl.val mb (bw d c es).fs]:=by
 refine .en Tryz.func75 fun R k=>?_
 have hl:=he.len
 refine .ax fds 11 ?_
 refine .rd (.ld eV rfl .p0 rfl) ?_
 refine .fn rfl rfl .nil ((af.arr .p2).and (af.arr .p1)) (Ca a c.la ac c.lc es c.es (by omega) (by omega)) (fun v G1 hq=>?_)
 obtain⟨rfl,rfl⟩:=hq
 simp only[ae]
 refine .nil ?_
 refine .aM rfl (fun h1=>?_) (fun h1=>?_)
 ·
  refine .go fds 4 ?_
  obtain rfl:=h1
  refine .perm .uy ?_
  refine .ca (an db ((bw d c c.es).cells mb) 74) (by unfold bw;rw[if_pos rfl]) ?_
  refine .perm .mJ ?_
  refine .ca (mp aW Fl.val mb (bw d c c.es).fs) (by unfold bw;rw[if_pos rfl]) ?_
  refine .close (X:=CG db ⟨c.cb,c.nm,c.es,c.la,c.lc⟩) .Jj (fun h H=>H) ?_
  refine .aG Tryz.func75 (.t1 rfl) (.cons .p0 (.cons .p1 (.cons .p0 (.cons .p1 .nil)))) ?_
  exact⟨[_,_,_],⟨rfl,c.la,c.lc,rfl⟩,rfl⟩
 ·
  refine .ax fds 3 ?_
  refine .ef (.alloc He rfl (aB.of rfl)) ?_
  rintro _ _ ⟨b5,rfl,rfl⟩
  refine .nil ?_
  refine .cq 5 1 none ?_
  refine .close (X:=BL b5 []) .Gg (fun h H=>⟨(.pointer none,none,0),.inl rfl,H⟩) ?_
  refine .ax fds 3 ?_
  refine .rd (.bP rfl rfl Tryz.underlying64 rfl) ?_
  refine .fn rfl rfl .nil ah (uX (es.length:Int) (by unfold i64;omega)) (fun v G1 hq=>?_)
  obtain⟨rfl,rfl⟩:=hq
  simp only[ae]
  have Qj:=bB (n:=(es.length:Int)) (by unfold i64;omega)
  refine .fn rfl rfl .q0 ah (kN b5 [] (aF (es.length:Int)) (Nat.zero_le _) (by omega)) (fun v G1 hq=>?_)
  obtain⟨rfl,rfl⟩:=hq
  simp only[ag,ae]
  refine .nil ?_
  refine .ca (BL b5 (aF (es.length:Int)++(es.take 0).flatMap mu)) (by rw[List.take_zero];simp) ?_
  refine .ax fds 4 ?_
  refine .rd (.bP rfl rfl Tryz.underlying64 rfl) ?_
  refine .aH fds 3 ?_
  refine .loop (σ:=Nat) (fun i=>i≤es.length) (fun i=>es.length-i) (fun i=>[(0,.pointer (some ⟨c.cb,0,none⟩)),(1,.slice a es.length ac),(5,.pointer (some ⟨b5,0,none⟩)),(19,.slice a es.length ac),(20,.int .i64 (es.length:Nat)),(21,.int .i64 (i:Nat))]) (fun i=>[BL b5 (aF (es.length:Int)++(es.take i).flatMap mu),an c.cb (c.cells db) 125,arr 70 3 c.la c.lc (c.es.flatMap fR),arr 70 3 a ac (es.flatMap fR),an db (d.cells mb) 74,mp aW Fl.val mb d.fs,R]) 0 (Nat.zero_le _) .r6 .mN (fun i hI ih=>?_)
  have mm:=hI
  have N1:=vz he i
  refine .go fds 5 ?_
  refine .aM rfl (fun h6=>?_) (fun h6=>?_)
  ·
   refine .go fds 4 ?_
   obtain⟨x,hx⟩:∃x,es[i]?=some x:=⟨_,List.getElem?_eq_getElem (by omega)⟩
   have sE:=he.may x (List.mem_of_getElem? hx)
   have NM:=uM sE
   refine .tell (φ:=∃b o,a=some ⟨b,o,none⟩) ((af.arr .p3).mono fun _ h=>aD.addr h (by rw[au ct];omega)) (fun hh=>?_)
   obtain⟨b9,o9,h9⟩:=hh
   refine .region ?_
   refine .rd (.indexAddr (b:=b9) (o:=o9) Tryz.underlying64 cw (by show some (Value.slice (a) _ _)=_;rw[h9]) rfl (by omega) (by omega)) ?_
   refine .rd (.fT kV cw rfl rfl (af.elem (f:=fR) ct (by decide) ((af.arr .p3).mono fun _ h=>h9▸h) (hx))) ?_
   refine .ef (.alloc gq rfl (aB.of rfl)) ?_
   rintro _ _ ⟨b7,rfl,rfl⟩
   refine .dc (.storeAll (vs:=fR x) cw rfl rfl rfl .p0 rfl (aB.of rfl)) ?_
   rintro _ _ rfl
   refine .nil ?_
   refine .Af [1,4] [an b7 (fR x) 70] [(0,.pointer (some ⟨c.cb,0,none⟩)),(1,.slice a es.length ac),(5,.pointer (some ⟨b5,0,none⟩)),(19,.slice a es.length ac),(20,.int .i64 (es.length:Nat)),(21,.int .i64 (i:Nat))] [BL b5 (aF (es.length:Int)++(es.take (i+1)).flatMap mu),an c.cb (c.cells db) 125,arr 70 3 c.la c.lc (c.es.flatMap fR),arr 70 3 a ac (es.flatMap fR),an db (d.cells mb) 74,mp aW Fl.val mb d.fs,R] (by kernel_rfl) ?_ ?_
   ·
    refine .aq fds [0] ?_
    refine .re 1 rfl (.ld ak rfl .p0 rfl) .q0 ?_
    refine .aq fds [3] ?_
    refine .re 4 rfl (.ld ak rfl .p0 rfl) .q0 ?_
    refine .eg 2 rfl (.fn rfl rfl .nil ah (uX x.1 sE.1.i64)) ?_
    rintro v _ ⟨G1,hq,rfl⟩
    obtain⟨rfl,rfl⟩:=hq
    simp only[ae]
    refine⟨.inr ⟨_,.q0⟩,?_⟩
    refine .eg 5 rfl (.fn rfl rfl .nil ah (uX x.2 sE.2.i64)) ?_
    rintro v _ ⟨G1,hq,rfl⟩
    obtain⟨rfl,rfl⟩:=hq
    simp only[ae]
    refine ay ?_
    refine .rq 6 rfl (.dZ (l:=aF x.1) (m:=aF x.2) rfl rfl (by have:=NM;unfold mu at this;rw[List.length_append]at this;omega)) ?_
    refine .al 31 (.string (str (mu x))) rfl (rfl) ?_
    refine .eg 7 rfl (.fn rfl rfl .q1 ah (kN b5 (aF (es.length:Int)++(es.take i).flatMap mu) (mu x) (by omega) (by omega))) ?_
    rintro v _ ⟨G1,hq,rfl⟩
    obtain⟨rfl,rfl⟩:=hq
    simp only[ag,ae]
    refine ay ?_
    refine .ca (BL b5 (aF (es.length:Int)++(es.take (i+1)).flatMap mu)) (by rw[xU hx,List.append_assoc]) ?_
    exact .done (by kernel_rfl) ⟨.r6,_,(.cons .p0 (.cons .p1 (.cons .p1 (.cons .p1 (.cons .p1 (.cons .p1 (.cons .p1 .nil)))))))⟩
   ·
    refine .ax fds 2 ?_
    refine .rd (.add rfl rfl (by omega) (by omega)) ?_
    refine .aH fds 2 ?_
    exact(ih (i+1) (by omega) (by omega)).to .r6 .mN
  ·
   refine .go fds 2 ?_
   obtain rfl:i=es.length:=by omega
   refine .ca (BL b5 (bG es)) (by rw[List.take_length];rfl) ?_
   have PG:=nf he
   have oS:=fh (bG es)
   refine .close (X:=BS b5 (bG es)) .q0 (fun h H=>BL.done (rW es) H) ?_
   refine .Af [3,7] [an c.cb (c.cells db) 125] [(0,.pointer (some ⟨c.cb,0,none⟩)),(1,.slice a es.length ac),(8,.int .i64 0)] [an c.cb (c.cells db) 125,arr 70 3 a ac (es.flatMap fR),an db ((d.put c.nm ⟨summed (bG es),(summed (bG es)).length⟩).cells mb) 74,mp aW Fl.val mb (d.put c.nm ⟨summed (bG es),(summed (bG es)).length⟩).fs,R] (by kernel_rfl) ?_ ?_
   ·
    refine .aq fds [0] ?_
    refine .aq fds [1] ?_
    refine .aq fds [2] ?_
    refine .re 3 rfl (.ld dh rfl .p0 rfl) .q1 ?_
    refine .aq fds [4] ?_
    refine .aq fds [5] ?_
    refine .aq fds [6] ?_
    refine .re 7 rfl (.ld aR rfl .p0 rfl) .q1 ?_
    refine .eg 8 rfl (.fn rfl rfl .q0 ah (tU b5 (bG es) (rW es) (by omega))) ?_
    rintro v _ ⟨G1,hq,rfl⟩
    obtain⟨rfl,rfl⟩:=hq
    simp only[ag,ae]
    refine⟨.inr ⟨_,.q1⟩,?_⟩
    refine .eg 9 rfl (.fn rfl rfl .nil ah (AL (bG es) (by omega))) ?_
    rintro v _ ⟨G1,hq,rfl⟩
    obtain⟨rfl,rfl⟩:=hq
    simp only[ae]
    refine⟨.inr ⟨_,.q1⟩,?_⟩
    refine .eg 10 rfl (.fn rfl rfl .q0 ah (tU b5 (bG es) (rW es) (by omega))) ?_
    rintro v _ ⟨G1,hq,rfl⟩
    obtain⟨rfl,rfl⟩:=hq
    simp only[ag,ae]
    refine⟨.inr ⟨_,.q1⟩,?_⟩
    refine .rq 11 rfl (.dZ (l:=bI (fx (bG es)).toNat) (m:=bG es) rfl rfl (by rw[fy];omega)) ?_
    refine .al 45 (.string (str (summed (bG es)))) rfl (rfl) ?_
    refine .eg 12 rfl (.fn rfl rfl (.cons .p4 (.cons .p4 .nil)) ah (lZ db mb d c.nm (summed (bG es)) hd hn hr (by omega))) ?_
    rintro v _ ⟨G1,hq,rfl⟩
    obtain⟨rfl,rfl⟩:=hq
    simp only[ag,ae]
    refine ay ?_
    refine .aq fds [13] ?_
    exact .done (by kernel_rfl) ⟨.r3,_,(.cons .p3 (.cons .p4 (.cons .p0 (.cons .p0 (.cons .p2 .nil)))))⟩
   ·
    refine .ax fds 12 ?_
    refine .dc (.store Az rfl rfl .p0 rfl aU) ?_
    rintro _ _ rfl
    refine .aH fds 6 ?_
    refine .perm .qA ?_
    refine .ca (an db ((bw d c es).cells mb) 74) (by unfold bw;rw[if_neg h1]) ?_
    refine .perm .ux ?_
    refine .ca (mp aW Fl.val mb (bw d c es).fs) (by unfold bw;rw[if_neg h1]) ?_
    refine .close (X:=CG db ⟨c.cb,c.nm,es,a,ac⟩) .Jj (fun h H=>H) ?_
    refine .aG Tryz.func75 (.t1 rfl) .DB ?_
    exact⟨[_,_,_],⟨rfl,a,ac,rfl⟩,rfl⟩
theorem xV{es:List Ep}(h:bM es)(off:Int){w:World}{a:Option Addr}(H:aD a (es.flatMap fR) w):aD a ((bg off es).flatMap fR) w:=by
 obtain⟨z,_,e⟩:=nY h off
 rw[e];exact H.Mj z
theorem nH(off:Int)(es:List Ep):(bg off es).length≤es.length:=List.length_filter_le ..
theorem bM.begin{es:List Ep}(h:bM es){ep off:Int}(h1:cF ep)(h2:cF off)(hl:cu es<ep)(hn:es.length<200):bM (bg off es++[(ep,off)]):=by
 refine(h.cut off).more h1 h2 ?_ (fun e he=>of_decide_eq_true (List.mem_filter.1 he).2) (Nat.lt_of_le_of_lt (nH _ _) hn)
 by_cases h0:bg off es=[]
 ·
  rw[h0];unfold cF at h1;show(-1:Int)<ep;omega
 ·
  obtain⟨x,hx⟩:∃x,(bg off es)[(bg off es).length-1]?=some x:=⟨_,List.getElem?_eq_getElem (by have:=List.length_pos_iff.2 h0;omega)⟩
  rw[pM hx (by have:=List.length_pos_iff.2 h0;omega)]
  have:=h.le_last x (List.mem_filter.1 (List.mem_of_getElem? hx)).1
  show x.1<ep;omega
theorem FP(off:Int)(es:List Ep):cE off es≤es.length:=by have:=nH (off+1) es;unfold cE;omega
theorem bM.del{es:List Ep}(h:bM es){off:Int}(ho:cF off):bM (dm off es):=by
 have hs:=h.sub (List.drop_sublist (cE off es) es)
 unfold dm
 cases hd:es.drop (cE off es)with
 |nil=>exact .nil
 |cons x r=>
  rw[hd]at hs
  have h1:=List.pairwise_cons.1 hs.up
  have hx:=hs.may x (.head _)
  have MV:∀y∈r,off<y.2:=fun y hy=>by
   obtain⟨z,hz,e⟩:=nY h (off+1)
   have L0:y∈es.drop z:=by
    have e1:cE off es+1≥z:=by unfold cE;rw[e,List.length_take];omega
    have e2:r=es.drop (cE off es+1):=by rw[←List.tail_drop,hd];rfl
    have e3:es.drop (cE off es+1)=(es.drop z).drop (cE off es+1-z):=by rw[List.drop_drop];congr 1;omega
    rw[e2,e3]at hy;exact List.mem_of_mem_drop hy
   have SM:y∉bg (off+1) es:=fun hm=>by
    rw[e]at hm
    obtain⟨i,hi⟩:=List.getElem?_of_mem hm
    obtain⟨j,hj⟩:=List.getElem?_of_mem L0
    rw[List.getElem?_take]at hi
    split at hi
    ·
     rename_i UY
     rw[List.getElem?_drop]at hj
     obtain⟨a1,a2⟩:=List.getElem?_eq_some_iff.1 hi
     obtain⟨b1,b2⟩:=List.getElem?_eq_some_iff.1 hj
     have:=(List.pairwise_iff_getElem.1 h.up i (z+j) a1 b1 (by omega)).1
     rw[a2,b2]at this;omega
    ·
     cases hi
   have hm:y∈es:=List.mem_of_mem_drop L0
   have:¬y.2<off+1:=fun cO=>SM (List.mem_filter.2 ⟨hm,decide_eq_true cO⟩)
   omega
  refine⟨hs.len,fun e he=>?_,List.pairwise_cons.2 ⟨fun y hy=>⟨(h1.1 y hy).1,by have:=(h1.1 y hy).2;have:=MV y hy;show max x.2 off<y.2;omega⟩,h1.2⟩⟩
  rcases List.mem_cons.1 he with rfl|he
  ·
   exact⟨hx.1,by unfold cF at*;show 0≤max x.2 off∧max x.2 off≤1000000000;omega⟩
  ·
   exact hs.may e (.tail _ he)
theorem Bq(off:Int)(es:List Ep):(dm off es).length≤es.length:=by
 unfold dm
 cases hd:es.drop (cE off es)with
 |nil=>exact Nat.zero_le _
 |cons x r=>have:=congrArg List.length hd;rw[List.length_drop,List.length_cons]at this;show r.length+1≤_;omega
theorem Br(db mb:Nat)(d:Dk)(c:Cx)(off:Int)(rY:cF off)(hc:bM c.es)(hd:d.ok)(hn:eS c.nm)(hr:(d.get c.nm).isSome=true∨d.fs.length<256)(fu:d.used+4020≤d.size):Cn Tryz.prog 38 [.pointer (some ⟨c.cb,0,none⟩),.int .i64 off] (fun _=>True) [CG db c,an db (d.cells mb) 74,mp aW Fl.val mb d.fs] fun v G=>v=.int .i64 0∧∃la lc,G=[CG db ⟨c.cb,c.nm,bg off c.es,la,lc⟩,an db ((bw d c (bg off c.es)).cells mb) 74,mp aW Fl.val mb (bw d c (bg off c.es)).fs]:=by
 refine .en Tryz.func38 fun R k=>?_
 have hl:=hc.len
 refine .unpack (L:=[an c.cb (c.cells db) 125,arr 70 3 c.la c.lc (c.es.flatMap fR)]) .p0 ?_
 simp only[ag,ae]
 refine .tell (af.cap .p1) (fun iA=>?_)
 rw[au ct]at iA
 have yX:=nH off c.es
 have AZ:=hc.cut off
 refine .ax fds 8 ?_
 refine .fn rfl rfl .nil ah (nZ off) (fun v G1 hq=>?_)
 obtain⟨rfl,rfl⟩:=hq
 simp only[ae]
 refine .al 6 (.bool true) rfl (bR rY) ?_
 refine .aH fds 5 ?_
 refine .dr [4] [an c.cb (c.cells db) 125] ?_
 refine .aq fds [0] ?_
 refine .aq fds [1] ?_
 refine .aq fds [2] ?_
 refine .aq fds [3] ?_
 refine .re 4 rfl (.ld eV rfl .p0 rfl) .q0 ?_
 refine .aq fds [5] ?_
 refine .aq fds [6] ?_
 refine .eg 7 rfl (.fn rfl rfl .nil ((af.an .p0).and (af.arr .p1)) (rV db c off hc)) ?_
 rintro v _ ⟨G1,hq,rfl⟩
 obtain⟨rfl,rfl⟩:=hq
 simp only[ae]
 refine⟨.inr ⟨_,.q0⟩,?_⟩
 refine .rq 8 rfl (.slice (l:=0) (h:=(bg off c.es).length) (m:=c.lc) Tryz.underlying64 cw rfl rfl ⟨_,rfl⟩ rfl (Nat.zero_le _) (by omega) (Nat.le_refl _)) ?_
 refine .al 16 (.slice c.la (bg off c.es).length c.lc) rfl (by rw[qw]) ?_
 refine .eg 9 rfl (.fn rfl rfl .nil ((af.arr .p1).mono fun _ h=>xV hc off h) (oa c.la c.lc (bg off c.es) (by omega))) ?_
 rintro v _ ⟨G1,hq,rfl⟩
 obtain⟨na,nc,rfl,rfl⟩:=hq
 simp only[ag,ae]
 refine ay ?_
 refine .eg 10 rfl (.fn rfl rfl .yK ah (rX db mb d c (bg off c.es) na nc (by omega) AZ hd hn hr (by omega))) ?_
 rintro v _ ⟨G1,hq,rfl⟩
 obtain⟨rfl,la,lc,rfl⟩:=hq
 simp only[ag,ae]
 refine ay ?_
 refine .aq fds [11] ?_
 refine .dn ?_
 refine .aG Tryz.func38 (.t1 rfl) .fw ?_
 exact⟨[_,_,_],⟨rfl,la,lc,rfl⟩,rfl⟩
theorem CD(db mb:Nat)(d:Dk)(c:Cx)(ep off:Int)(wN:cF ep)(rY:cF off)(jY:cu c.es<ep)(CE:c.es.length<200)(hc:bM c.es)(hd:d.ok)(hn:eS c.nm)(hr:(d.get c.nm).isSome=true∨d.fs.length<256)(fu:d.used+4020≤d.size):Cn Tryz.prog 40 [.pointer (some ⟨c.cb,0,none⟩),.int .i64 ep,.int .i64 off] (fun _=>True) [CG db c,an db (d.cells mb) 74,mp aW Fl.val mb d.fs] fun v G=>v=.int .i64 0∧∃la lc,G=[CG db ⟨c.cb,c.nm,bg off c.es++[(ep,off)],la,lc⟩,an db ((bw d c (bg off c.es++[(ep,off)])).cells mb) 74,mp aW Fl.val mb (bw d c (bg off c.es++[(ep,off)])).fs]:=by
 refine .en Tryz.func40 fun R k=>?_
 have hl:=hc.len
 refine .unpack (L:=[an c.cb (c.cells db) 125,arr 70 3 c.la c.lc (c.es.flatMap fR)]) .p0 ?_
 simp only[ag,ae]
 refine .tell (af.cap .p1) (fun iA=>?_)
 rw[au ct]at iA
 have yX:=nH off c.es
 have AZ:=hc.begin wN rY jY CE
 have yl:(bg off c.es++[(ep,off)]).length=(bg off c.es).length+1:=by rw[List.length_append];rfl
 refine .ax fds 8 ?_
 refine .fn rfl rfl .nil ah (nZ ep) (fun v G1 hq=>?_)
 obtain⟨rfl,rfl⟩:=hq
 simp only[ae]
 refine .al 11 (.bool true) rfl (bR wN) ?_
 refine .go fds 3 ?_
 refine .on (t:=13) rfl rfl ?_
 refine .fn rfl rfl .nil ah (nZ off) (fun v G1 hq=>?_)
 obtain⟨rfl,rfl⟩:=hq
 simp only[ae]
 refine .al 15 (.bool true) rfl (bR rY) ?_
 refine .ax fds 11 ?_
 refine .rd (.ld eV rfl .p0 rfl) ?_
 refine .rd (.bP rfl rfl Tryz.underlying64 rfl) ?_
 refine .aH fds 7 ?_
 refine .yE (E':=[(0,.pointer (some ⟨c.cb,0,none⟩)),(1,.int .i64 ep),(2,.int .i64 off)]) (aI:=[an c.cb (c.cells db) 125,arr 70 3 c.la c.lc (c.es.flatMap fR),an db (d.cells mb) 74,mp aW Fl.val mb d.fs,R]) ?_ (fun fin=>?_)
 ·
  refine .ax fds 4 ?_
  refine .fn rfl rfl .nil ((af.an .p0).and (af.arr .p1)) (rV db c off hc) (fun v G1 hq=>?_)
  obtain⟨rfl,rfl⟩:=hq
  simp only[ae]
  refine .ax fds 7 ?_
  refine .al 53 (.bool false) rfl (aE (by omega)) ?_
  refine .ax fds 9 ?_
  refine .rd (.ld eV rfl .p0 rfl) ?_
  refine .rd (.move rfl) ?_
  refine .rd (.slice (l:=0) (h:=(bg off c.es).length) (m:=c.lc) Tryz.underlying64 cw rfl rfl ⟨_,rfl⟩ rfl (Nat.zero_le _) (by omega) (Nat.le_refl _)) ?_
  refine .al 60 (.slice c.la (bg off c.es).length c.lc) rfl (by rw[qw]) ?_
  refine .fn rfl rfl .nil ((af.arr .p1).mono fun _ h=>xV hc off h) (oa c.la c.lc (bg off c.es) (by omega)) (fun v G1 hq=>?_)
  obtain⟨na,nc,rfl,rfl⟩:=hq
  simp only[ag,ae]
  refine .go fds 2 ?_
  refine .rd (.build rfl (AA _ _)) ?_
  refine .ef (.cr (cs:=fR (ep,off)) Tryz.underlying64 gq (by decide) rfl rfl rfl (aB.of rfl)) ?_
  rintro _ _ ⟨bs,rfl,rfl⟩
  refine .ef (.append rfl rfl Tryz.underlying64 gq rfl (aB.of rfl) (by decide) (by decide) rfl rfl .p1 (n:=(bg off c.es).length) (m:=1) (by rw[au ct]) (.dM .p0 Tryz.underlying64 rfl (by decide)) (by omega)) ?_
  rintro _ _ ⟨ra,rc,rfl,rn,rfl⟩
  refine .al 66 (.slice ra (bg off c.es++[(ep,off)]).length rc) rfl (by rw[List.length_append];rfl) ?_
  refine .ca (arr 70 3 ra rc ((bg off c.es++[(ep,off)]).flatMap fR)) (by rw[List.flatMap_append];simp) ?_
  refine .fn rfl rfl (.cons .p2 (.cons .p2 (.cons .p0 (.cons .p1 (.cons .p1 .nil))))) ah (rX db mb d c (bg off c.es++[(ep,off)]) ra rc (by omega) AZ hd hn hr (by omega)) (fun v G1 hq=>?_)
  obtain⟨rfl,la,lc,rfl⟩:=hq
  simp only[ag,ae]
  refine .aH fds 2 ?_
  refine .aG Tryz.func40 (.t1 rfl) .oP ?_
  exact⟨[_,_,_],⟨rfl,la,lc,rfl⟩,rfl⟩
 ·
  refine .aM rfl (fun c4=>?_) (fun c4=>?_)
  ·
   refine .seq ?_
   obtain⟨x,hx⟩:∃x,c.es[c.es.length-1]?=some x:=⟨_,List.getElem?_eq_getElem (by omega)⟩
   have A8:x.1<ep:=by rw[pM hx (by omega)]at jY;exact jY
   refine .tell (φ:=∃b o,c.la=some ⟨b,o,none⟩) ((af.arr .p1).mono fun _ h=>aD.addr h (by rw[au ct];omega)) (fun hh=>?_)
   obtain⟨b9,o9,h9⟩:=hh
   refine .ax fds 4 ?_
   refine .rd (.ld eV rfl .p0 rfl) ?_
   refine .rd (.move rfl) ?_
   refine .rd (.sub rfl rfl (by omega) (by omega)) ?_
   refine .al 30 (.int .i64 ((c.es.length-1:Nat))) rfl (congrArg (Value.int .i64) (by omega)) ?_
   refine .rd (.indexAddr (b:=b9) (o:=o9) Tryz.underlying64 cw (by show some (Value.slice (c.la) _ _)=_;rw[h9]) rfl (by omega) (by omega)) ?_
   refine .rd (.fT kV cw rfl rfl (af.elem (f:=fR) ct (by decide) ((af.arr .p1).mono fun _ h=>h9▸h) (hx))) ?_
   refine .ef (.alloc gq rfl (aB.of rfl)) ?_
   rintro _ _ ⟨b8,rfl,rfl⟩
   refine .dc (.storeAll (vs:=fR x) cw rfl rfl rfl .p0 rfl (aB.of rfl)) ?_
   rintro _ _ rfl
   refine .ax fds 6 ?_
   refine .rd (.ld ak rfl .p0 rfl) ?_
   refine .rd (.NJ rfl rfl) ?_
   refine .al 37 (.bool false) rfl (aE (by omega)) ?_
   refine .ax fds 13 ?_
   refine .rd (.ld ak rfl .p0 rfl) ?_
   refine .rd (.le rfl rfl) ?_
   refine .al 48 (.bool false) rfl (aE (by omega)) ?_
   refine .aH fds 5 ?_
   exact fin .r3 (.cons .p1 (.cons .p1 (.cons .p1 (.cons .p1 (.cons .p1 .nil)))))
  ·
   refine .skip ?_
   exact fin .r3 .fe
theorem zN(db mb:Nat)(d:Dk)(c:Cx)(off:Int)(rY:cF off)(hc:bM c.es)(hd:d.ok)(hn:eS c.nm)(hr:(d.get c.nm).isSome=true∨d.fs.length<256)(fu:d.used+4020≤d.size):Cn Tryz.prog 55 [.pointer (some ⟨c.cb,0,none⟩),.int .i64 off] (fun _=>True) [CG db c,an db (d.cells mb) 74,mp aW Fl.val mb d.fs] fun v G=>v=.int .i64 0∧∃la lc,G=[CG db ⟨c.cb,c.nm,dm off c.es,la,lc⟩,an db ((bw d c (dm off c.es)).cells mb) 74,mp aW Fl.val mb (bw d c (dm off c.es)).fs]:=by
 refine .en Tryz.func55 fun R k=>?_
 have hl:=hc.len
 refine .unpack (L:=[an c.cb (c.cells db) 125,arr 70 3 c.la c.lc (c.es.flatMap fR)]) .p0 ?_
 simp only[ag,ae]
 refine .tell (af.cap .p1) (fun iA=>?_)
 rw[au ct]at iA
 obtain⟨Pq,CR⟩:=id rY
 have QW:=FP off c.es
 have yX:=nH (off+1) c.es
 have AZ:=hc.del rY
 have SN:=Bq off c.es
 refine .ax fds 8 ?_
 refine .fn rfl rfl .nil ah (nZ off) (fun v G1 hq=>?_)
 obtain⟨rfl,rfl⟩:=hq
 simp only[ae]
 refine .al 8 (.bool true) rfl (bR rY) ?_
 refine .ax fds 8 ?_
 refine .rd (.add rfl rfl (by omega) (by omega)) ?_
 refine .fn rfl rfl .nil ((af.an .p0).and (af.arr .p1)) (rV db c (off+1) hc) (fun v G1 hq=>?_)
 obtain⟨rfl,rfl⟩:=hq
 simp only[ae]
 refine .rd (.sub rfl rfl (by omega) (by omega)) ?_
 refine .rd (.max2 rfl rfl rfl) ?_
 refine .al 15 (.int .i64 (cE off c.es:Nat)) rfl (congrArg (Value.int .i64) (by unfold cE;omega)) ?_
 refine .ax fds 7 ?_
 refine .rd (.ld eV rfl .p0 rfl) ?_
 refine .rd (.move rfl) ?_
 refine .rd (.slice (l:=cE off c.es) (h:=c.es.length) (m:=c.lc) Tryz.underlying64 cw rfl rfl ⟨rfl,rfl⟩ ⟨_,rfl⟩ QW (by omega) (Nat.le_refl _)) ?_
 refine .al 21 (.slice (if c.lc=cE off c.es then c.la else c.la.map (·.add (cE off c.es*3))) (c.es.drop (cE off c.es)).length (c.lc-cE off c.es)) rfl (by rw[List.length_drop]) ?_
 refine .fn rfl rfl .nil ((af.arr .p1).mono fun _ h=>h.Ag ct (by decide) (cE off c.es) QW (by omega)) (oa (if c.lc=cE off c.es then c.la else c.la.map (·.add (cE off c.es*3))) (c.lc-cE off c.es) (c.es.drop (cE off c.es)) (by rw[List.length_drop];omega)) (fun v G1 hq=>?_)
 obtain⟨na,nc,rfl,rfl⟩:=hq
 simp only[ag,ae]
 refine .ax fds 6 ?_
 refine .rd (.bP rfl rfl Tryz.underlying64 rfl) ?_
 refine .aH fds 2 ?_
 refine .yE (E':=[(0,.pointer (some ⟨c.cb,0,none⟩)),(6,.slice na (dm off c.es).length nc)]) (aI:=[arr 70 3 na nc ((dm off c.es).flatMap fR),an c.cb (c.cells db) 125,arr 70 3 c.la c.lc (c.es.flatMap fR),an db (d.cells mb) 74,mp aW Fl.val mb d.fs,R]) ?_ (fun fin=>?_)
 ·
  refine .ax fds 4 ?_
  refine .fn rfl rfl .yK ah (rX db mb d c (dm off c.es) na nc (by omega) AZ hd hn hr (by omega)) (fun v G1 hq=>?_)
  obtain⟨rfl,la,lc,rfl⟩:=hq
  simp only[ag,ae]
  refine .aH fds 2 ?_
  refine .aG Tryz.func55 (.t1 rfl) .fw ?_
  exact⟨[_,_,_],⟨rfl,la,lc,rfl⟩,rfl⟩
 ·
  refine .aM rfl (fun c5=>?_) (fun c5=>?_)
  ·
   obtain⟨x,r,uV⟩:∃x r,c.es.drop (cE off c.es)=x::r:=by
    cases h:c.es.drop (cE off c.es)with
    |nil=>rw[h]at c5;exact absurd c5 (by decide)
    |cons x r=>exact⟨x,r,rfl⟩
   have J0:dm off c.es=(x.1,max x.2 off)::r:=by unfold dm;rw[uV]
   have Gn:(dm off c.es).length=(c.es.drop (cE off c.es)).length:=by rw[J0,uV];rfl
   have HV:0<(c.es.drop (cE off c.es)).length:=by rw[uV];exact Nat.zero_lt_succ _
   refine .ca (arr 70 3 na nc ((x::r).flatMap fR)) (by rw[uV]) ?_
   refine .tell (φ:=∃b o,na=some ⟨b,o,none⟩) ((af.arr .p0).mono fun _ h=>aD.addr h (by rw[au ct];simp)) (fun hh=>?_)
   obtain⟨b9,o9,h9⟩:=hh
   refine .ax fds 3 ?_
   refine .rd (.indexAddr (b:=b9) (o:=o9) Tryz.underlying64 cw (by show some (Value.slice (na) _ _)=_;rw[h9]) rfl (by omega) (by omega)) ?_
   refine .rd (.fieldAddr uC rfl) ?_
   refine .rd (.load ak rfl (af.one (i:=1) (af.elem (f:=fR) ct (by decide) ((af.arr .p0).mono fun _ h=>h9▸h) ((rfl:(x::r)[0]?=some x))) rfl)) ?_
   refine .rd (.move rfl) ?_
   refine .rd (.max2 rfl rfl rfl) ?_
   refine .al 32 (.int .i64 (max x.2 off)) rfl (congrArg (Value.int .i64) (by omega)) ?_
   refine .rd (.indexAddr (b:=b9) (o:=o9) Tryz.underlying64 cw (by show some (Value.slice (na) _ _)=_;rw[h9]) rfl (by omega) (by omega)) ?_
   refine .rd (.fieldAddr uC rfl) ?_
   refine .al 34 (.pointer (some ⟨b9,o9+1,none⟩)) rfl (rfl) ?_
   refine .ca (arr 70 3 (some ⟨b9,o9,none⟩) nc ((x::r).flatMap fR)) (by rw[h9]) ?_
   refine .dc (.Dq (k:=1) cc rfl rfl .p0 (by rw[List.flatMap_cons,List.length_append,ct];omega)) ?_
   rintro _ _ rfl
   refine .nil ?_
   refine .ca (arr 70 3 na nc ((dm off c.es).flatMap fR)) (by rw[J0,←h9];rfl) ?_
   refine .al 6 (.slice na (dm off c.es).length nc) rfl (by rw[Gn]) ?_
   exact fin .r2 .jC
  ·
   have uV:c.es.drop (cE off c.es)=[]:=List.eq_nil_of_length_eq_zero (by omega)
   have J0:dm off c.es=[]:=by unfold dm;rw[uV]
   have Gn:(dm off c.es).length=(c.es.drop (cE off c.es)).length:=by rw[J0,uV]
   refine .ca (arr 70 3 na nc ((dm off c.es).flatMap fR)) (by rw[J0,uV]) ?_
   refine .skip ?_
   refine .al 6 (.slice na (dm off c.es).length nc) rfl (by rw[Gn]) ?_
   exact fin .r2 .jC
def vN(q:Int)(bs:List aQ):List Nt:=(bs.filter fun b=>decide (b.pid=q)).map jb
theorem vA(q:Int)(a b:List aQ):vN q (a++b)=vN q a++vN q b:=by unfold vN;rw[List.filter_append,List.map_append]
theorem FQ(q:Int)(b:aQ):vN q [b]=if b.pid=q then[jb b]else[]:=by
 unfold vN;by_cases h:b.pid=q<;>simp[h]
theorem vB(q:Int)(b:aQ)(bs:List aQ):vN q (b::bs)=(if b.pid=q then[jb b]else[])++vN q bs:=by
 rw[←FQ,←vA];rfl
theorem K7{q:Int}{a b:List aQ}(h:a.Sublist b):(vN q a).Sublist (vN q b):=(h.filter _).map _
structure FR(b:aQ):Prop where
 pid:0<b.pid∧b.pid≤7
 ep:cF b.bt
 fits:b.fits
 right:right b=0
 nt:lq (jb b)
theorem kL.mr{ep pid pe seq u:Int}{n:Nat}(h:kL ep pid pe seq n u)(h7:pid≤7):FR (gh ep pid pe seq n u):=⟨⟨by show 0<pid;have:=h.pid;omega,h7⟩,h.ep,h.fits,h.right,.sm h⟩
theorem ig.cons{t:Tm}{b:aQ}{bs:List aQ}(h1:cC t)(h2:0<b.pid)(h3:b.fits)(h4:right b=0)(h5:late (aA t b.pid) b=false)(h:ig (note t b) bs):ig t (b::bs):=fun i x hx=>by
 cases i with
 |zero=>cases hx;exact⟨h1,h2,h3,h4,h5⟩
 |succ i=>exact h i x hx
theorem CF{l:List Nt}{z:Nt}(h:l.getLast?=some z):l.getLast?.toList=[z]:=by rw[h];rfl
theorem rZ:∀(bs:List aQ) (t:Tm),gW t→(∀b∈bs,FR b)→(∀q,((aA t q).getLast?.toList++vN q bs).Pairwise gA)→(∀q,(aA t q).length+bs.length≤10000)→ig t bs∧gW (bs.foldl note t)∧∀q,aA (bs.foldl note t) q=aA t q++vN q bs
 |[],t,ht,_,_,_=>⟨.nil _,ht,fun q=>(List.append_nil _).symm⟩
 |b::bs,t,ht,hb,hc,hl=>by
  have gE:=hb b (.head _)
  have cO:late (aA t b.pid) b=false:=Bi fun z hz=>by
   have h1:=hc b.pid
   rw[CF hz,vB,if_pos rfl]at h1
   exact(List.pairwise_cons.1 h1).1 _ (.head _)
  have SO:=hl b.pid
  rw[List.length_cons]at SO
  have Bn:=ht.note cO ⟨gE.pid.1,by have:=gE.pid.2;omega⟩ gE.nt (by omega)
  obtain⟨a1,a2,a3⟩:=rZ bs (note t b) Bn (fun x hx=>hb x (.tail _ hx)) (fun q=>by
   rw[qb cO]
   have h1:=hc q
   rw[vB]at h1
   by_cases e:q=b.pid
   ·
    rw[if_pos e,List.getLast?_append]
    rw[if_pos e.symm]at h1
    exact h1.sublist (List.sublist_append_right _ _)
   ·
    rw[if_neg e]
    rw[if_neg (Ne.symm e)]at h1
    exact h1) (fun q=>by
   rw[qb cO]
   have:=hl q
   rw[List.length_cons]at this
   split
   ·
    rw[List.length_append];simp;omega
   ·
    omega)
  refine⟨.cons ht.tocC gE.pid.1 gE.fits gE.right cO a1,a2,fun q=>?_⟩
  rw[List.foldl_cons,a3,qb cO,vB]
  by_cases e:q=b.pid
  ·
   rw[if_pos e,if_pos e.symm,List.append_assoc]
  ·
   rw[if_neg e,if_neg (Ne.symm e),List.nil_append]
theorem tV:∀(bs:List aQ) (t:Tm) (p:Int×List Nt),p∈bs.foldl note t→p.1∈t.map (·.1)∨∃b∈bs,b.pid=p.1
 |[],_,p,h=>.inl (List.mem_map_of_mem h)
 |b::bs,t,p,h=>by
  rcases tV bs _ p h with h|⟨x,hx,e⟩
  ·
   obtain⟨q,hq,e⟩:=List.mem_map.1 h
   unfold note at hq
   split at hq
   ·
    exact .inl (e▸List.mem_map_of_mem hq)
   ·
    rcases pY hq with rfl|hq
    ·
     exact .inr ⟨b,.head _,e⟩
    ·
     exact .inl (e▸List.mem_map_of_mem hq)
  ·
   exact .inr ⟨x,.tail _ hx,e⟩
theorem jQ{z:Int}{l:List Nt}{x:Nt}(h:x∈cN z l):x∈l∧x.off<z:=by
 unfold cN at h
 induction l with
 |nil=>cases h
 |cons y l ih=>
  rw[List.takeWhile_cons]at h
  split at h
  ·
   rename_i hy
   rcases List.mem_cons.1 h with rfl|h
   ·
    exact⟨.head _,of_decide_eq_true hy⟩
   ·
    exact⟨.tail _ (ih h).1,(ih h).2⟩
  ·
   cases h
theorem IV{z:Int}{l:List Nt}(h:∀x∈l,x.off<z):cN z l=l:=by
 unfold cN
 induction l with
 |nil=>rfl
 |cons x l ih=>rw[List.takeWhile_cons,if_pos (decide_eq_true (h x (.head _))),ih fun y hy=>h y (.tail _ hy)]
theorem FS{z:Int}{l:List Nt}(h:∀x∈l,z≤x.off):cN z l=[]:=by
 cases l with
 |nil=>rfl
 |cons x l=>unfold cN;rw[List.takeWhile_cons,if_neg (by have:=h x (.head _);simp;omega)]
theorem tW{z:Int}{a b:List Nt}(ha:∀x∈a,x.off<z)(hb:∀x∈b,z≤x.off):cN z (a++b)=a∧ng z (a++b)=b:=by
 have h1:cN z (a++b)=a:=by
  unfold cN
  rw[List.takeWhile_append,if_pos (by
   have:=IV ha
   unfold cN at this;rw[this])]
  have:=FS hb
  unfold cN at this;rw[this,List.append_nil]
 refine⟨h1,?_⟩
 have h2:=qZ z (a++b)
 rw[h1]at h2
 exact List.append_cancel_left h2
theorem sg{t:Tm}(hn:(t.map (·.1)).Nodup)(z q:Int):aA (iK z t) q=cN z (aA t q):=by
 have h:=y5 (f:=uY z (t.map (·.1))) hn q
 have e:fm (uY z (t.map (·.1))) t=iK z t:=wS fun p hp=>nk hp
 rw[e]at h
 unfold aA
 rw[h]
 cases hg:bK t q with
 |none=>rfl
 |some l=>
  have hq:q∈t.map (·.1):=List.mem_map.2 ⟨_,eD hg,rfl⟩
  simp only[Option.bind_some,uY,if_pos hq]
  split
  ·
   rename_i e;rw[Option.getD_none,Option.getD_some,e]
  ·
   rfl
theorem zO{t:Tm}(hn:(t.map (·.1)).Nodup)(z q:Int):aA (uO z t) q=aY (cN z (aA t q))++ng z (aA t q):=by
 have h:=y5 (f:=sL z (t.map (·.1))) hn q
 have e:fm (sL z (t.map (·.1))) t=uO z t:=wT fun p hp=>nk hp
 rw[e]at h
 unfold aA
 rw[h]
 cases hg:bK t q with
 |none=>rfl
 |some l=>
  have hq:q∈t.map (·.1):=List.mem_map.2 ⟨_,eD hg,rfl⟩
  simp only[Option.bind_some,sL,if_pos hq,Option.getD_some]
theorem gW.cut{t:Tm}(h:gW t)(z:Int):gW (iK z t):=by
 have key:∀p∈iK z t,∃q∈t,p.1=q.1∧p.2=cN z q.2∧p.2≠[]:=fun p hp=>by
  obtain⟨q,hq,e⟩:=List.mem_filterMap.1 hp
  split at e
  ·
   cases e
  ·
   rename_i dx;cases e;exact⟨q,hq,rfl,rfl,dx⟩
 refine⟨⟨?_,fun p hp=>?_,fun p hp=>?_,fun p hp=>?_,fun p hp=>?_⟩,fun p hp=>?_⟩
 ·
  refine h.nodup.sublist ?_
  unfold iK
  clear key h
  induction t with
  |nil=>exact .slnil
  |cons x t ih=>
   rw[List.filterMap_cons]
   split
   ·
    exact .cons _ ih
   ·
    rename_i e
    split at e
    ·
     cases e
    ·
     cases e;exact ih.cons_cons _
 all_goals obtain⟨q,hq,e1,e2,e3⟩:=key p hp
 ·
  rw[e1];exact h.pid q hq
 ·
  exact e3
 ·
  rw[e2];exact fun x hx=>h.ok q hq x (jQ hx).1
 ·
  rw[e2];have:=pN z q.2;have:=h.len q hq;omega
 ·
  rw[e2];exact(h.chain q hq).sublist (List.takeWhile_sublist _)
theorem gW.del{t:Tm}(h:gW t)(z:Int):gW (uO z t):=by
 have jv:∀l:List Nt,(aY (cN z l)++ng z l).Sublist l:=fun l=>by
  have h1:(aY (cN z l)++ng z l).Sublist (cN z l++ng z l):=(List.drop_sublist _ _).append (.refl _)
  rwa[qZ]at h1
 have key:∀p∈uO z t,∃q∈t,p.1=q.1∧p.2=aY (cN z q.2)++ng z q.2:=fun p hp=>by
  obtain⟨q,hq,rfl⟩:=List.mem_map.1 hp;exact⟨q,hq,rfl,rfl⟩
 refine⟨⟨by unfold uO;rw[List.map_map];exact h.nodup,fun p hp=>?_,fun p hp=>?_,fun p hp=>?_,fun p hp=>?_⟩,fun p hp=>?_⟩
 all_goals obtain⟨q,hq,e1,e2⟩:=key p hp
 ·
  rw[e1];exact h.pid q hq
 ·
  rw[e2]
  intro e
  obtain⟨h1,h2⟩:=List.append_eq_nil_iff.1 e
  have h3:cN z q.2≠[]:=fun e3=>h.ne q hq (by rw[←qZ z q.2,e3,h2];rfl)
  have:=lg h3
  have h4:=congrArg List.length h1
  rw[fk]at h4
  simp only[List.length_nil]at h4;omega
 ·
  rw[e2];exact fun x hx=>h.ok q hq x ((jv q.2).subset hx)
 ·
  rw[e2];have:=(jv q.2).length_le;have:=h.len q hq;omega
 ·
  rw[e2];exact(h.chain q hq).sublist (jv q.2)
structure dW(D:Tm)(s:St)(d:Dk):Prop where
 num:∃z w:Nat,s.l.start=z∧z≤w∧w≤1000000000∧((z=0∧w=0∧(d.get (aP s.l.pre)).isSome=false)∨((d.get (aP s.l.pre)).isSome=true∧d.file (aP s.l.pre)=⟨mt z w,(mt z w).length⟩))
 CI:∀b∈s.l.all,b.en≤s.l.start∨s.l.start≤b.base
 sM:((d.get (eY s.l.pre)).isSome=false∧D=[])∨((d.get (eY s.l.pre)).isSome=true∧d.file (eY s.l.pre)=⟨gM D,(gM D).length⟩∧jL D)
 keys:∀p∈D,p.1≤7
 t:∀q,∃S,S<:+cN s.l.start (aA D q)∧(cN s.l.start (aA D q)≠[]→S≠[])∧aA (bf s.t.m) q=S++vN q s.l.fN
 mr:∀b∈s.l.all,FR b
 ep:∀b∈s.l.fN,(∃e∈s.c.es,e.1=b.bt∧e.2≤b.base)∧∀e∈s.c.es,e.2≤b.base→e.1≤b.bt
theorem eH{l:Lx}{b:aQ}:b∈l.fN↔b∈l.all∧l.start<b.en:=by
 unfold Lx.fN bJ;rw[List.mem_filter];exact and_congr_right fun _=>decide_eq_true_iff
theorem dW.base{D s d}(h:dW D s d){b:aQ}(hb:b∈s.l.fN):s.l.start≤b.base:=by
 obtain⟨h1,h2⟩:=eH.1 hb
 rcases h.CI b h1 with h3|h3<;>omega
theorem xW{n:Int}{l:List aQ}(hc:bS n l)(hg:∀b∈l,b.aT):∀b∈l,n≤b.base∧b.en≤aC n l:=fun b hb=>by
 refine⟨?_,xw hc hg b hb⟩
 obtain⟨i,hi⟩:=List.getElem?_of_mem hb
 have h1:=(hc.at hi).1
 have h2:=hc.mono hg (i:=0) (j:=i) (Nat.zero_le _)
 have h3:aC n (l.take 0)=n:=rfl
 omega
theorem xX{n:Int}{l:List aQ}(hc:bS n l)(hg:∀b∈l,b.aT){c:aQ}(h:c∈l):∀b∈l,b.en≤c.base∨c.base≤b.base:=fun b hb=>by
 obtain⟨i,hi⟩:=List.getElem?_of_mem hb
 obtain⟨k,hk⟩:=List.getElem?_of_mem h
 have h1:=(hc.at hi).2
 have h2:=(hc.at hk).1
 have h3:=(hc.at hi).1
 by_cases SP:i<k
 ·
  have:=hc.mono hg (i:=i+1) (j:=k) SP
  exact .inl (by omega)
 ·
  have:=hc.mono hg (i:=k) (j:=i) (by omega)
  exact .inr (by omega)
theorem si:∀{n:Int} {l:List aQ},bS n l→(∀b∈l,b.aT)→l.Pairwise fun a b=>a.base<b.base
 |_,[],_,_=>.nil
 |n,b::l,hc,hg=>by
  refine .cons (fun x hx=>?_) (si hc.2 fun x hx=>hg x (.tail _ hx))
  have h1:=(xW hc.2 (fun x hx=>hg x (.tail _ hx)) x hx).1
  have h2:=(hg b (.head _)).lt
  omega
theorem fP{l:Lx}{d:Dk}(h:l.ok d){b:aQ}(hb:b∈l.all):b.base<l.next∧b.en≤l.next∧a8 l≤b.base:=by
 have h1:=xW h.chain h.aT b hb
 have h2:=(h.aT b hb).lt
 have h3:aC (a8 l) l.all=l.next:=h.aC
 omega
theorem Bt{z:Nat}{m:Int}{s:St}{e d:Dk}(hp:zK s d)(ha:s.l.all=[])(ht:bf s.t.m=[]):dW [] s d:=by
 have hv:s.l.fN=[]:=by unfold Lx.fN;rw[ha];rfl
 refine⟨⟨0,0,hp.start,Nat.le_refl _,by decide,.inl ⟨rfl,rfl,hp.num⟩⟩,by rw[ha];exact eG,.inl ⟨hp.sM,rfl⟩,eG,fun q=>⟨[],List.nil_suffix,fun h=>absurd rfl h,by rw[ht,hv];rfl⟩,by rw[ha];exact eG,by rw[hv];exact eG⟩
theorem dW.zJ{Z i j E D s d s' d'}(hb:bz Z i j E s d)(h:dW D s d){ep pid pe seq:Int}{n:Nat}(hA:l5 s d (gh ep pid pe seq n s.l.next) s' d')(hS:kL ep pid pe seq n s.l.next)(hE:E≤ep)(h7:pid≤7)(hl:late (aA (bf s.t.m) pid) (gh ep pid pe seq n s.l.next)=false)(hi:i≤60∧j≤130)(hZ:90000≤Z):dW D s' d':=by
 have jx:jX s.l (bw d s.c (cg s.c.es ep s.l.next)) (gh ep pid pe seq n s.l.next) s'.l d':=hA.app
 have Bk:=hb.Cz
 have jS:=hb.size
 have wN:=hS.ep
 have j8:cF s.l.next:=by have:=hS.u;unfold cF;omega
 have kM:=hb.es.next (ep:=ep) (off:=s.l.next) wN j8 (by have:=hb.Fy;omega)
 obtain⟨hB,_,_⟩:=fp hb.cS hb.ok hb.nm kM (by omega) hb.eM
 have jY:=hb.last
 obtain⟨m1,m2⟩:=jx.eF (aP s.l.pre) fun u hu e=>cM (by omega) e.symm
 obtain⟨p1,p2⟩:=jx.eF (eY s.l.pre) fun u hu=>cK hu
 obtain⟨m3,m4⟩:=hB.eF (aP s.l.pre) gB.symm
 obtain⟨p3,p4⟩:=hB.eF (eY s.l.pre) jo
 have IA:bf s'.t.m=note (bf s.t.m) (gh ep pid pe seq n s.l.next):=hA.t
 have he:s'.c.es=cg s.c.es ep s.l.next:=hA.es
 have nK:=hb.ok.start
 have jT:(gh ep pid pe seq n s.l.next).en=s.l.next+n:=xJ ..
 have B7:=hS.n
 have hv:s'.l.fN=s.l.fN++[gh ep pid pe seq n s.l.next]:=by
  unfold Lx.fN
  rw[jx.all,jx.start,eE,w6 (by omega)]
 refine⟨?_,fun b j8=>?_,?_,h.keys,fun q=>?_,fun b j8=>?_,fun b sk=>?_⟩
 ·
  obtain⟨z,w,a1,a2,a3,a4⟩:=h.num
  refine⟨z,w,jx.start.trans a1,a2,a3,?_⟩
  rw[jx.pre,m1,m2,m3,m4];exact a4
 ·
  rw[jx.all]at j8
  rw[jx.start]
  rcases List.mem_append.1 j8 with j8|j8
  ·
   exact h.CI b j8
  ·
   rw[List.mem_singleton.1 j8];exact .inr nK.2.2
 ·
  rw[jx.pre,p1,p2,p3,p4];exact h.sM
 ·
  obtain⟨S,a1,a2,a3⟩:=h.t q
  refine⟨S,by rw[jx.start];exact a1,by rw[jx.start];exact a2,?_⟩
  rw[IA,qb hl,hv,vA,FQ,a3]
  show(if q=pid then _ else _)=_++(_++if pid=q then _ else _)
  by_cases e:q=pid
  ·
   rw[if_pos e,if_pos e.symm,List.append_assoc]
  ·
   rw[if_neg e,if_neg (Ne.symm e),List.append_nil]
 ·
  rw[jx.all]at j8
  rcases List.mem_append.1 j8 with j8|j8
  ·
   exact h.mr b j8
  ·
   rw[List.mem_singleton.1 j8];exact hS.mr h7
 ·
  rw[he]
  rw[hv]at sk
  have Nk:bg s.l.next s.c.es=s.c.es:=Bl hb.LF
  have Jr:∀e∈s.c.es,e.1≤ep:=fun e he=>by have:=hb.es.le_last e he;omega
  rcases List.mem_append.1 sk with sk|sk
  ·
   obtain⟨⟨e0,g1,g2,g3⟩,g4⟩:=h.ep b sk
   have oA:=(fP hb.ok (eH.1 sk).1).1
   unfold cg
   split
   ·
    rw[Nk]
    refine⟨⟨e0,List.mem_append_left _ g1,g2,g3⟩,fun e vH hle=>?_⟩
    rcases List.mem_append.1 vH with vH|vH
    ·
     exact g4 e vH hle
    ·
     rw[List.mem_singleton.1 vH]at hle;have:s.l.next≤b.base:=hle;omega
   ·
    exact⟨⟨e0,g1,g2,g3⟩,g4⟩
  ·
   rw[List.mem_singleton.1 sk]
   show(∃e∈cg s.c.es ep s.l.next,e.1=ep∧e.2≤s.l.next)∧∀e∈cg s.c.es ep s.l.next,e.2≤s.l.next→e.1≤ep
   unfold cg
   split
   ·
    refine⟨⟨(ep,s.l.next),List.mem_append_right _ (.head _),rfl,Int.le_refl _⟩,fun e vH _=>?_⟩
    rcases List.mem_append.1 vH with vH|vH
    ·
     rw[Nk]at vH;exact Jr e vH
    ·
     rw[List.mem_singleton.1 vH];exact Int.le_refl _
   ·
    rename_i cO
    refine⟨?_,fun e vH _=>Jr e vH⟩
    cases hg:s.c.es.getLast? with
    |none=>
     exfalso
     unfold cu at cO;rw[hg]at cO
     unfold cF at wN
     exact cO (by show(-1:Int)<ep;omega)
    |some x=>
     have hx:=List.mem_of_getLast? hg
     have h1:cu s.c.es=x.1:=by unfold cu;rw[hg];rfl
     exact⟨x,hx,by omega,by have:=hb.LF x hx;omega⟩
theorem oJ{off:Int}{es:List Ep}{e':Ep}(h:e'∈dm off es):∃e∈es,e'.1=e.1∧(e'.2=e.2∨e'.2=max e.2 off):=by
 unfold dm at h
 cases hd:es.drop (cE off es)with
 |nil=>rw[hd]at h;cases h
 |cons x r=>
  rw[hd]at h
  have hm:∀y∈x::r,y∈es:=fun y hy=>List.mem_of_mem_drop (hd▸hy)
  rcases List.mem_cons.1 h with rfl|h
  ·
   exact⟨x,hm x (.head _),rfl,.inr rfl⟩
  ·
   exact⟨e',hm e' (.tail _ h),rfl,.inl rfl⟩
theorem IW{off:Int}{es:List Ep}(he:bM es){e:Ep}(h:e∈es):(∃x∈es,e.1<x.1∧x.2≤off)∨∃e'∈dm off es,e'.1=e.1∧(e'.2=e.2∨e'.2=max e.2 off):=by
 rw[←List.take_append_drop (cE off es) es]at h
 rcases List.mem_append.1 h with h|h
 ·
  left
  obtain⟨k,hk⟩:=List.getElem?_of_mem h
  have Eb:=(List.getElem?_eq_some_iff.1 hk).1
  rw[List.length_take]at Eb
  rw[List.getElem?_take_of_lt (by omega)]at hk
  obtain⟨z,hz,e1⟩:=nY he (off+1)
  have hg:cE off es=z-1:=by unfold cE;rw[e1,List.length_take];omega
  have hx:es[z-1]?=some es[z-1]:=List.getElem?_eq_getElem (by omega)
  refine⟨es[z-1],List.mem_of_getElem? hx,?_,?_⟩
  ·
   obtain⟨h1,rfl⟩:=List.getElem?_eq_some_iff.1 hk
   exact(List.pairwise_iff_getElem.1 he.up k (z-1) h1 (by omega) (by omega)).1
  ·
   have hm:es[z-1]∈bg (off+1) es:=by
    rw[e1]
    exact List.mem_of_getElem? (i:=z-1) (by rw[List.getElem?_take_of_lt (by omega)];exact hx)
   have:=of_decide_eq_true (List.mem_filter.1 hm).2
   omega
 ·
  right
  unfold dm
  cases hd:es.drop (cE off es)with
  |nil=>rw[hd]at h;cases h
  |cons x r=>
   rw[hd]at h
   rcases List.mem_cons.1 h with rfl|h
   ·
    exact⟨_,.head _,rfl,.inr rfl⟩
   ·
    exact⟨e,.tail _ h,rfl,.inl rfl⟩
theorem xY{l:Lx}{d:Dk}(h:l.ok d):(l.ar.map fun s=>s.base.toNat).Nodup:=(vp h.link h.bX h.bC).imp fun h=>by omega
structure PI(s:St)(d:Dk)(off:Nat)(s':St)(e:Dk):Prop where
 del:jq s.l (gJ d s) off (max s.l.aJ off).toNat s'.l e
 K8:kK s.l (eY s.l.pre) d (gJ d s)
 all:∀b∈s'.l.all,b∈s.l.all
 next:s'.l.next=s.l.next
 ar:s'.l.ar.length≤s.l.ar.length
 full:Full s'.l e
 short:dI e
 own:mv s'.l e
 file:∀n,n≠aP s.l.pre→(∀u,u≤1000000000→n≠nameOf s.l.pre u)→e.get n=(gJ d s).get n∧e.file n=(gJ d s).file n
theorem jw{Z i j E s d}(h:bz Z i j E s d):(dH (bf s.t.m)).length≤304+840*i:=by
 have h1:=h.PB
 have h2:=h.N4
 have h3:=rj h.lf.tocC (by omega) (cx (bf s.t.m)).length
 rw[List.take_length]at h3
 have h4:(dH (bf s.t.m)).length=4+(iV (bf s.t.m)).length:=fh _
 have h5:(iV (bf s.t.m)).length≤gz (bf s.t.m):=h3
 omega
theorem xZ{Z i j E s d s' off e}(h:bz Z i j E s d)(hD:jq s.l (gJ d s) off (max s.l.aJ off).toNat s'.l e)(hi:i≤60∧j≤130)(hZ:180000≤Z∨(i≤5∧j≤5∧90000≤Z)):PI s d off s' e:=by
 have hk:=jw h
 have Bk:=h.Cz
 have jS:=h.size
 have hB:kK s.l (eY s.l.pre) d (gJ d s):=.put h.cS h.ok (og h.ok.pre).2.1 (fun u hu=>cK hu) (by dsimp only;omega) (Nat.le_refl _)
 have FT:∀n,n≠aP s.l.pre→(∀u,u≤1000000000→n≠nameOf s.l.pre u)→e.get n=(gJ d s).get n∧e.file n=(gJ d s).file n:=fun n h1 h2=>by
  have:=hD.eF n h1 fun t ht=>.inr fun e'=>by
   obtain⟨k1,k2,_⟩:=h.ok.gN t (List.mem_append_left _ ht)
   have:=k1.bC;have:=k1.ed
   exact h2 t.base.toNat (by omega) (e'.trans k2)
  exact⟨this,congrArg (fun o=>o.getD pF) this⟩
 have jv:∀t∈s'.l.ar,t∈s.l.ar:=fun t ht=>by
  rcases List.mem_append.1 ht with ht|ht
  ·
   exact List.mem_append_left _ (hD.sub t ht)
  ·
   rw[List.mem_singleton.1 ht,hD.ai];exact s.l.cJ
 refine⟨hD,hB,fun b hb=>?_,by show s'.l.ai.next=s.l.ai.next;rw[hD.ai],?_,fun t ht=>?_,hD.short hB.ok (hB.short h.short),hD.own (hB.own h.own),FT⟩
 ·
  obtain⟨t,ht,hb⟩:=List.mem_flatMap.1 hb
  exact List.mem_flatMap.2 ⟨t,jv t ht,hb⟩
 ·
  have:=ju _ (s.l.ar.map fun s=>s.base.toNat) (xY hD.ok) fun x hx=>by
   obtain⟨t,ht,rfl⟩:=List.mem_map.1 hx
   exact List.mem_map_of_mem (jv t ht)
  rwa[List.length_map,List.length_map]at this
 ·
  have jB:=hD.sub t ht
  have hg:e.get t.nm=(gJ d s).get t.nm:=hD.eF t.nm (xQ h.ok (List.mem_append_left _ jB)) fun x hx=>by
   by_cases QX:x∈s'.l.bX
   ·
    exact .inl QX
   ·
    refine .inr fun e'=>QX ?_
    have k1:=(h.ok.gN x (List.mem_append_left _ hx)).2.1
    have k2:=(h.ok.gN t (List.mem_append_left _ jB)).2.1
    have h3:=ci (k1.symm.trans (e'.symm.trans k2))
    obtain⟨p,hp⟩:=List.getElem?_of_mem (List.mem_append_left [s.l.ai] hx)
    obtain⟨q,hq⟩:=List.getElem?_of_mem (List.mem_append_left [s.l.ai] jB)
    have mo:=xY h.ok
    obtain⟨p1,p2⟩:=List.getElem?_eq_some_iff.1 hp
    obtain⟨q1,q2⟩:=List.getElem?_eq_some_iff.1 hq
    have MY:p=q:=by
     have SQ:(s.l.ar.map fun s=>s.base.toNat)[p]?=some x.base.toNat:=by rw[List.getElem?_map];unfold Lx.ar;rw[hp];rfl
     have SR:(s.l.ar.map fun s=>s.base.toNat)[q]?=some t.base.toNat:=by rw[List.getElem?_map];unfold Lx.ar;rw[hq];rfl
     obtain⟨p4,p5⟩:=List.getElem?_eq_some_iff.1 SQ
     obtain⟨q4,q5⟩:=List.getElem?_eq_some_iff.1 SR
     rcases Nat.lt_trichotomy p q with cO|cO|cO
     ·
      exact absurd (p5.trans (h3.trans q5.symm)) (List.pairwise_iff_getElem.1 mo p q p4 q4 cO)
     ·
      exact cO
     ·
      exact absurd (q5.trans (h3.symm.trans p5.symm)) (List.pairwise_iff_getElem.1 mo q p q4 p4 cO)
    subst MY
    rw[hp]at hq
    exact Option.some.inj hq▸ht
  have hf:e.file t.nm=(gJ d s).file t.nm:=congrArg (fun o=>o.getD pF) hg
  rw[hf]
  exact hB.full h.full t jB
theorem bz.del{Z i j E s d s' d' off}(h:bz Z i j E s d)(hE:-1≤E)(hA:Fw s d off s' d')(ho:∃b∈s.l.all,b.base=(off:Int))(hi:i≤60∧j≤130)(hZ:180000≤Z∨(i≤5∧j≤5∧90000≤Z)):bz Z i (j+1) E s' d':=by
 obtain⟨e,hD,rfl⟩:=hA.del
 have hX:=xZ h hD hi hZ
 have hk:=jw h
 have Bk:=h.Cz
 have jS:=h.size
 obtain⟨b0,mi,gE⟩:=ho
 have oA:=fP h.ok mi
 have IX:=h.ok.ai.1.eC
 have Gj:s.l.next=s.l.ai.next:=rfl
 have Nl:cF (off:Int):=⟨by omega,by omega⟩
 have kM:=h.es.del Nl
 have PJ:e.size=Z:=by rw[hD.size,hX.K8.size,jS]
 have Lp:=Dk.cf h.cS (eY s.l.pre) ⟨dH (bf s.t.m),(dH (bf s.t.m)).length⟩
 dsimp only at Lp
 have SU:(gJ d s).used+(d.file (eY s.l.pre)).b.length=d.used+(dH (bf s.t.m)).length:=Lp
 have UZ:=hD.used
 have N6:((gJ d s).file (eY s.l.pre)).b=dH (bf s.t.m):=by unfold gJ;rw[Dk.aV]
 obtain⟨N7,N8⟩:=hX.file (ek s.l.pre) gB fun u hu=>fK hu
 obtain⟨K9,La⟩:=hX.file (eY s.l.pre) w8 fun u hu=>cK hu
 obtain⟨QY,SV⟩:=hX.K8.eF (ek s.l.pre) jo.symm
 have Js:dw e s.c.nm s.c.es:=h.eM.same (by rw[h.nm,N8,QY]) (by rw[h.nm,N7,SV])
 have cR:s'.l.pre=s.l.pre:=hD.pre
 have Gl:e.used≤(e.file (ek s'.l.pre)).b.length+(e.file (eY s'.l.pre)).b.length+100*(i+(j+1)):=by
  rw[cR,N8,La,QY,N6];have:=h.used;omega
 obtain⟨hB,hH,hU⟩:=fp (es:=dm off s.c.es) hX.del.cS hX.del.ok (by rw[h.nm,cR]) kM (by omega) Js
 have LH:=li (s:=⟨s.sx,s'.l,s.c,s.t⟩) (es:=dm off s.c.es) hX.del.cS (by rw[cR];exact h.nm) Gl
 have jv:∀l:List Nt,∀x∈aY (cN off l)++ng off l,x∈l:=fun l x hx=>by
  rcases List.mem_append.1 hx with hx|hx
  ·
   exact(jQ (List.mem_of_mem_drop hx)).1
  ·
   exact(List.dropWhile_suffix _).subset hx
 refine⟨hB.cS,hB.ok,hB.own hX.own,hB.full hX.full,hB.short hX.short,cR.trans h.pre,by rw[hA.nm,h.nm,cR],by rw[hX.next];exact h.next,Nat.le_trans hX.ar h.ar,?_,by rw[hB.size,PJ],LH,?_,fun n hn=>?_,by rw[hA.es];exact kM,by rw[hA.es];exact Nat.le_trans (Bq _ _) h.Fy,fun x hx=>?_,?_,by rw[hA.nm,hA.es];exact hH,by rw[hA.t];exact h.lf.del _,fun p hp=>?_,fun p hp x hx=>?_⟩
 ·
  have h1:=si hD.ok.chain hD.ok.aT
  have h2:=ju (s'.l.all.map (·.base)) (s.l.all.map (·.base)) ((List.pairwise_map.2 (h1.imp fun h=>by omega))) fun x hx=>by
   obtain⟨b,hb,rfl⟩:=List.mem_map.1 hx
   exact List.mem_map_of_mem (hX.all b hb)
  rw[List.length_map,List.length_map]at h2
  exact Nat.le_trans h2 h.all
 ·
  rw[(hB.eF (eY s'.l.pre) jo).1,cR,La,N6];omega
 ·
  rw[cR]
  rcases l6 (s:=⟨s.sx,s'.l,s.c,s.t⟩) (by rw[cR];exact h.nm) hn with hn|hn
  ·
   exact .inl (by rw[←cR];exact hn)
  ·
   by_cases hx:∃u,u≤1000000000∧n=nameOf s.l.pre u
   ·
    exact .inr (.inr (.inr hx))
   ·
    by_cases hm:n=aP s.l.pre
    ·
     exact .inr (.inr (.inl hm))
    ·
     rw[(hX.file n hm fun u hu e=>hx ⟨u,hu,e⟩).1]at hn
     by_cases hp:n=eY s.l.pre
     ·
      exact .inr (.inl hp)
     ·
      rw[(hX.K8.eF n hp).2]at hn
      exact h.names n hn
 ·
  rw[hA.es]at hx
  obtain⟨x0,h1,_,h3⟩:=oJ hx
  have:=h.LF x0 h1
  rw[hX.next]
  rcases h3 with h3|h3<;>omega
 ·
  rw[hA.es]
  cases hg:(dm off s.c.es).getLast? with
  |none=>unfold cu;rw[hg];exact hE
  |some x=>
   obtain⟨x0,h1,h2,_⟩:=oJ (List.mem_of_getLast? hg)
   have:=h.es.le_last x0 h1
   have:=h.last
   have h5:cu (dm (off:Int) s.c.es)=x.1:=by unfold cu;rw[hg];rfl
   omega
 ·
  rw[hA.t]at hp
  obtain⟨q,hq,rfl⟩:=List.mem_map.1 hp
  exact h.keys q hq
 ·
  rw[hA.t]at hp
  obtain⟨q,hq,rfl⟩:=List.mem_map.1 hp
  rw[hX.next]
  exact h.Fz q hq x (jv _ x hx)
theorem sn{q:Int}{bs:List aQ}{x:Nt}(h:x∈vN q bs):∃b∈bs,b.pid=q∧x=jb b:=by
 obtain⟨b,hb,rfl⟩:=List.mem_map.1 h
 obtain⟨h1,h2⟩:=List.mem_filter.1 hb
 exact⟨b,h1,of_decide_eq_true h2,rfl⟩
theorem FU{bs:List aQ}{z:Int}(hc:bs.Pairwise fun a b=>a.base<b.base)(hs:∀b∈bs,b.en≤z∨z≤b.base)(hg:∀b∈bs,b.base<b.en):∃P,bs=P++bJ z bs∧(∀b∈P,b.en≤z)∧∀b∈bJ z bs,z≤b.base:=by
 induction bs with
 |nil=>exact⟨[],rfl,eG,eG⟩
 |cons b bs ih=>
  obtain⟨P,h1,h2,h3⟩:=ih (List.pairwise_cons.1 hc).2 (fun x hx=>hs x (.tail _ hx)) (fun x hx=>hg x (.tail _ hx))
  rcases hs b (.head _)with h|h
  ·
   refine⟨b::P,?_,fun x hx=>?_,?_⟩
   ·
    have:bJ z (b::bs)=bJ z bs:=by unfold bJ;rw[List.filter_cons_of_neg (by simpa using h)]
    rw[this,List.cons_append,←h1]
   ·
    rcases List.mem_cons.1 hx with rfl|hx
    ·
     exact h
    ·
     exact h2 x hx
   ·
    have:bJ z (b::bs)=bJ z bs:=by unfold bJ;rw[List.filter_cons_of_neg (by simpa using h)]
    rw[this];exact h3
  ·
   have cy:∀x∈b::bs,z<x.en∧z≤x.base:=fun x hx=>by
    have:=hg x hx
    rcases List.mem_cons.1 hx with rfl|hx
    ·
     omega
    ·
     have:=(List.pairwise_cons.1 hc).1 x hx;omega
   have e:bJ z (b::bs)=b::bs:=List.filter_eq_self.2 fun x hx=>decide_eq_true (cy x hx).1
   exact⟨[],by rw[e];rfl,eG,by rw[e];exact fun x hx=>(cy x hx).2⟩
theorem dW.FV{D:Tm}{s:St}{q:Int}{S:List Nt}(h:S<:+cN s.l.start (aA D q)):∀x∈S,x.off<s.l.start:=fun x hx=>(jQ (h.subset hx)).2
theorem dW.del{Z i j E D s d s' d' off}(hb:bz Z i j E s d)(h:dW D s d)(hA:Fw s d off s' d')(ho:∃b∈s.l.all,b.base=(off:Int))(hs:s.l.start≤(off:Int))(hi:i≤60∧j≤130)(hZ:180000≤Z∨(i≤5∧j≤5∧90000≤Z)):dW (cx (bf s.t.m)) s' d':=by
 obtain⟨e,hD,rfl⟩:=hA.del
 have hX:=xZ hb hD hi hZ
 have hk:=jw hb
 have Bk:=hb.Cz
 have jS:=hb.size
 obtain⟨b0,mi,gE⟩:=ho
 have oA:=fP hb.ok mi
 have IX:=hb.ok.ai.1.eC
 have Gj:s.l.next=s.l.ai.next:=rfl
 have vG:=hb.ok.aJ
 have Nl:cF (off:Int):=⟨by omega,by omega⟩
 have cR:s'.l.pre=s.l.pre:=hD.pre
 have FW:=hb.ok.chain
 have Bu:=hb.ok.aT
 have zP:=xX FW Bu mi
 rw[gE]at zP
 have FT:=Dk.aV d (eY s.l.pre) ⟨dH (bf s.t.m),(dH (bf s.t.m)).length⟩
 have N6:(gJ d s).file (eY s.l.pre)=⟨dH (bf s.t.m),(dH (bf s.t.m)).length⟩:=FT
 have SW:((gJ d s).get (eY s.l.pre)).isSome=true:=Dk.cB ..
 obtain⟨K9,La⟩:=hX.file (eY s.l.pre) w8 fun u hu=>cK hu
 have eF:∀n,n≠ek s.l.pre→(bw e s.c (dm off s.c.es)).file n=e.file n∧(bw e s.c (dm off s.c.es)).get n=e.get n:=fun n hn=>by
  unfold bw
  split
  ·
   exact⟨rfl,rfl⟩
  ·
   rw[hb.nm];exact Dk.aK _ _ hn
 have Nn:=hb.lf.rows
 have vC:s'.l.fN=bJ off s.l.all:=by
  show bJ s'.l.start s'.l.all=_
  rw[hD.start];exact hD.E3
 have QZ:bJ off s.l.all=bJ off s.l.fN:=by
  unfold Lx.fN bJ
  rw[List.filter_filter]
  refine List.filter_congr fun b _=>?_
  rw[←Bool.decide_and]
  exact decide_eq_decide.2 ⟨fun h=>⟨h,by omega⟩,fun h=>h.1⟩
 have Lp:s.l.fN.Pairwise fun a b=>a.base<b.base:=(si FW Bu).sublist List.filter_sublist
 obtain⟨P,p1,p2,p3⟩:=FU (z:=off) Lp (fun b hb=>zP b (eH.1 hb).1) fun b hb=>(Bu b (eH.1 hb).1).lt
 refine⟨⟨off,(max s.l.aJ off).toNat,hD.start,by omega,by omega,.inr ?_⟩,fun b j8=>by rw[hD.start];exact zP b (hX.all b j8),.inr ?_,fun p hp=>hb.keys p ((iE hb.lf.tocC).mem_iff.1 hp),fun q=>?_,fun b j8=>h.mr b (hX.all b j8),fun b sk=>?_⟩
 ·
  rw[cR,(eF _ gB.symm).1,(eF _ gB.symm).2]
  refine⟨?_,hD.num⟩
  have h1:=hD.num
  cases hg:(e.get (aP s.l.pre)).isSome with
  |true=>rfl
  |false=>
   rw[Dk.dJ hg]at h1
   have h2:=congrArg (fun f:Fl=>f.b) h1
   have h3:mt off (max s.l.aJ off).toNat=[]:=h2.symm
   unfold mt at h3
   simp at h3
 ·
  rw[cR,(eF _ jo).1,(eF _ jo).2,K9,La,N6]
  exact⟨SW,by rw[zh],Nn⟩
 ·
  obtain⟨S,a1,a2,a3⟩:=h.t q
  have hS:=dW.FV a1
  have e1:aA (bf s.t.m) q=(S++vN q P)++vN q (bJ off s.l.fN):=by
   have hv:vN q s.l.fN=vN q P++vN q (bJ off s.l.fN):=by rw[←vA,←p1]
   rw[a3,hv,List.append_assoc]
  have MS:∀x∈S++vN q P,x.off<(off:Int):=fun x hx=>by
   rcases List.mem_append.1 hx with hx|hx
   ·
    have:=hS x hx;omega
   ·
    obtain⟨b,hb,_,rfl⟩:=sn hx
    have h1:=p2 b hb
    have h2:=(Bu b (eH.1 (by rw[p1];exact List.mem_append_left _ hb)).1).lt
    show b.base<_;omega
  have NW:∀x∈vN q (bJ off s.l.fN),(off:Int)≤x.off:=fun x hx=>by
   obtain⟨b,hb,_,rfl⟩:=sn hx
   exact p3 b hb
  obtain⟨k1,k2⟩:=tW MS NW
  refine⟨aY (cN off (aA (bf s.t.m) q)),?_,fun dx=>?_,?_⟩
  ·
   rw[hD.start,ry hb.lf.tocC];exact List.drop_suffix _ _
  ·
   rw[hD.start,ry hb.lf.tocC]at dx
   have:=lg dx
   intro e0
   have h4:=congrArg List.length e0
   rw[fk]at h4
   simp only[List.length_nil]at h4;omega
  ·
   rw[hA.t,zO hb.lf.nodup,vC,QZ,e1,k1,k2]
 ·
  rw[vC,QZ]at sk
  have NO:=p3 b sk
  have SX:b∈s.l.fN:=(List.mem_filter.1 sk).1
  obtain⟨⟨e0,g1,g2,g3⟩,g4⟩:=h.ep b SX
  rw[hA.es]
  refine⟨?_,fun x hx QB=>?_⟩
  ·
   rcases IW hb.es (off:=off) g1 with⟨x,x1,x2,x3⟩|⟨x,x1,x2,x3⟩
   ·
    have:=g4 x x1 (by omega);omega
   ·
    exact⟨x,x1,by omega,by omega⟩
  ·
   obtain⟨x0,x1,x2,x3⟩:=oJ hx
   have:=g4 x0 x1 (by omega)
   omega
theorem CJ{Z i j E s d}(hb:bz Z i j E s d){k:Nat}{rest:List UInt8}:∀p∈pieces s.l k rest,∃t∈s.l.ar,p.1=t.base.toNat∧nameOf s.l.pre p.1=t.nm:=fun p hp=>by
 unfold pieces at hp
 rcases List.mem_append.1 hp with hp|hp
 ·
  obtain⟨t,ht,rfl⟩:=List.mem_map.1 hp
  exact⟨t,List.mem_append_left _ ht,rfl,((hb.ok.gN t (List.mem_append_left _ ht)).2.1).symm⟩
 ·
  rw[List.mem_singleton.1 hp]
  exact⟨s.l.ai,s.l.cJ,rfl,hb.ok.ai.2.1.symm⟩
theorem zQ{a b:Nm}{u:Nat}(h:nameOf a u=nameOf b u):a=b:=by
 unfold nameOf at h
 exact List.append_cancel_right (List.append_cancel_right (List.append_cancel_right h))
structure oY(s:St)(d:Dk)(l2:Lx)(e2:Dk):Prop where
 cS:e2.ok
 ok:l2.ok e2
 pre:l2.pre=s.l.pre
 start:l2.start=s.l.start
 all:∃r,s.l.all=l2.all++r
 next:l2.next≤s.l.next
 own:mv l2 e2
 full:Full l2 e2
 names:∀n,(e2.get n).isSome=true→(d.get n).isSome=true∨∃u,u≤1000000000∧n=nameOf s.l.pre u
 FX:∀n,(∀u,u≤1000000000→n≠nameOf s.l.pre u)→(e2.get n).isSome=(d.get n).isSome
 len:e2.fs.length≤d.fs.length+1
 size:e2.size=d.size
 used:e2.used≤d.used
 ar:l2.ar.length≤s.l.ar.length
 file:∀n,(∀u,u≤1000000000→n≠nameOf s.l.pre u)→(d.file n).safe=(d.file n).b.length→e2.file n=d.file n
 sync:gj l2 e2
theorem x6{Z i j E s d e l2 ss e2}{z w k:Nat}{rest:List UInt8}(hb:bz Z i j E s d)(hC:ii d e)(hk:k≤s.l.ai.bs.length)(hz:s.l.start=(z:Int))(hF:fO s.l.pre e (pieces s.l k rest) z w)(hO:l8 s.l.pre e (pieces s.l k rest) z w l2 ss e2):oY s d l2 e2:=by
 have hI:=hO.open_
 obtain⟨a1,a2,a3⟩:=rU hb.ok hO
 have oH:=hI.sigs
 rw[List.take_length,←hO.ar]at oH
 have PK:=@CJ _ _ _ _ _ _ hb k rest
 have ph:∀n,(e2.get n).isSome=(d.get n).isSome:=fun n=>by rw[hI.get,hC.get]
 have Lb:∀t∈l2.ar,∃p∈pieces s.l k rest,t.base=(p.1:Int)∧t.nm=nameOf s.l.pre p.1∧t.bs=p.2.1:=fun t ht=>by
  have:sig t∈l2.ar.map sig:=List.mem_map_of_mem ht
  rw[oH]at this
  obtain⟨p,hp,e'⟩:=List.mem_map.1 this
  exact⟨p,hp,(congrArg (·.1) e').symm,(congrArg (·.2.1) e').symm,(congrArg (·.2.2) e').symm⟩
 have cR:l2.pre=s.l.pre:=by
  obtain⟨p,hp,h1,h2,_⟩:=Lb l2.ai l2.cJ
  have h3:=hO.ok.ai.2.1
  rw[h2,h1]at h3
  exact(zQ (by simpa using h3)).symm
 have Gn:l2.ar.length=s.l.ar.length:=by
  have h1:=congrArg List.length oH
  have h2:=congrArg List.length (l9 s.l k rest)
  rw[List.length_map,List.length_map]at h1 h2
  rw[h1,h2]
 refine⟨hI.cS,hO.ok,cR,hO.start.trans hz.symm,?_,?_,fun u hu hg=>?_,fun t ht=>?_,fun n hn=>.inl (ph n▸hn),fun n _=>ph n,by rw[FM hb.cS hI.cS ph];exact Nat.le_succ _,by rw[hI.size,hC.size],by have:=hI.used;have:=hC.used;omega,by omega,fun n h1 h2=>?_,?_⟩
 ·
  refine⟨s.l.ai.bs.drop k,?_⟩
  rw[a1,List.append_assoc,List.take_append_drop]
  unfold Lx.all Lx.ar
  rw[List.flatMap_append];simp
 ·
  rw[a2]
  have h1:=hb.ok.ai.1
  have h2:=h1.chain.mono h1.aT (i:=k) (j:=s.l.ai.bs.length) hk
  rw[List.take_length]at h2
  exact h2
 ·
  rw[cR]at hg
  have h1:u∈bj s.l.pre (bk (e.fs.map (·.1))):=by
   rw[eo,dF,←er,←hI.get];exact⟨hu,hg⟩
  rw[hF.nF]at h1
  obtain⟨p,hp,e1⟩:=List.mem_map.1 h1
  have h2:zL s.l.pre p∈l2.ar.map sig:=by rw[oH];exact List.mem_map_of_mem hp
  obtain⟨t,ht,e'⟩:=List.mem_map.1 h2
  refine⟨t,ht,?_⟩
  have:t.base=(p.1:Int):=congrArg (·.1) e'
  omega
 ·
  obtain⟨p,hp,h1,h2,_⟩:=Lb t (List.mem_append_left _ ht)
  rw[h2,hI.IU p (by rw[List.take_length];exact hp)]
 ·
  rw[hI.left n fun p hp e'=>by
   rw[List.take_length]at hp
   obtain⟨t,ht,h3,h4⟩:=PK p hp
   have ho:=(hb.ok.gN t ht).1
   have:=ho.bC;have:=ho.ed
   exact h1 p.1 (by omega) e']
  exact ij (hC.file n) h2
 ·
  obtain⟨p,hp,h1,h2,_⟩:=Lb l2.ai l2.cJ
  unfold gj
  rw[h2,hI.IU p (by rw[List.take_length];exact hp)]
theorem dw.safe{d:Dk}{nm:Nm}{es:List Ep}(h:dw d nm es):(d.file nm).safe=(d.file nm).b.length:=by
 rcases h with⟨h,_⟩|⟨_,h⟩
 ·
  rw[Dk.dJ h];rfl
 ·
  rw[h]
theorem dW.notes{Z i j E D s d}(hb:bz Z i j E s d)(h:dW D s d)(hi:i≤60∧j≤130){bs:List aQ}(hs:bs.Sublist s.l.fN):ig (iK s.l.start D) bs∧gW (bs.foldl note (iK s.l.start D))∧∀q,aA (bs.foldl note (iK s.l.start D)) q=cN s.l.start (aA D q)++vN q bs:=by
 have hD:gW D:=by
  rcases h.sM with⟨_,rfl⟩|⟨_,_,h⟩
  ·
   exact .nil
  ·
   exact h.togW
 have hn:=sg hD.nodup s.l.start
 have nK:=hb.ok.start
 have lX:=hb.next
 have hl:=rZ bs (iK s.l.start D) (hD.cut _) (fun b vF=>h.mr b (eH.1 (hs.subset vF)).1) (fun q=>?_) fun q=>?_
 ·
  refine⟨hl.1,hl.2.1,fun q=>?_⟩
  rw[hl.2.2 q,hn]
 ·
  rw[hn]
  obtain⟨S,a1,a2,a3⟩:=h.t q
  have Ik:=hb.lf.qd q
  rw[a3]at Ik
  have jv:=K7 (q:=q) hs
  cases hg:(cN s.l.start (aA D q)).getLast? with
  |none=>exact Ik.sublist (jv.trans (List.sublist_append_right _ _))
  |some x=>
   have dx:cN s.l.start (aA D q)≠[]:=fun e=>by rw[e]at hg;cases hg
   have PL:=a2 dx
   obtain⟨pre,hp⟩:=a1
   have hS:S.getLast?=some x:=by
    rw[←hp,List.getLast?_append]at hg
    cases hq:S.getLast? with
    |none=>exact absurd (List.getLast?_eq_none_iff.1 hq) PL
    |some y=>rw[hq]at hg;exact hg
   obtain⟨S0,No⟩:=List.getLast?_eq_some_iff.1 hS
   show([x]++vN q bs).Pairwise gA
   refine Ik.sublist ?_
   rw[No,List.append_assoc]
   exact(((List.Sublist.refl [x]).append jv)).trans (List.sublist_append_right _ _)
 ·
  rw[hn]
  have h0:=zI (cN s.l.start (aA D q)) 0 s.l.start ((hD.qd q).sublist (List.takeWhile_sublist _)) (fun x hx=>⟨((hD.notes q).1 x (jQ hx).1).off.1,(jQ hx).2⟩) nK.1
  have h1:=hs.length_le
  have h2:s.l.fN.length≤s.l.all.length:=List.length_filter_le ..
  have h3:=hb.all
  omega
theorem Jt{D:Tm}{s:St}{d:Dk}(h:dW D s d):gW D∧D.length≤7∧gz D≤2800160:=by
 have hD:gW D:=by
  rcases h.sM with⟨_,rfl⟩|⟨_,_,h⟩
  ·
   exact .nil
  ·
   exact h.togW
 have h7:D.length≤7:=by
  have:=xL hD.nodup fun x hx=>by
   obtain⟨p,hp,rfl⟩:=List.mem_map.1 hx
   exact⟨(hD.pid p hp).1,h.keys p hp⟩
  rwa[List.length_map]at this
 exact⟨hD,h7,xM h7 fun p hp=>hD.len p hp⟩
theorem oK{Z i j E D s d l2 e2}(hb:bz Z i j E s d)(h:dW D s d)(hA:oY s d l2 e2)(hi:i≤60∧j≤130)(hZ:90000≤Z):Bg [112] s.c.es D l2 e2:=by
 obtain⟨r,hr⟩:=hA.all
 have Bk:=hb.Cz
 have jS:=hb.size
 have Gn:=hb.len
 have h2:=hA.used
 have SY:=hA.len
 obtain⟨hD,h7,Q0⟩:=Jt h
 have vC:s.l.fN=l2.fN++bJ s.l.start r:=by
  unfold Lx.fN;rw[hr,eE,hA.start]
 have jv:l2.fN.Sublist s.l.fN:=by rw[vC];exact List.sublist_append_left _ _
 have hP:vq e2 (eY [112]) D:=by
  rw[←hb.pre]
  rcases h.sM with⟨h1,h2⟩|⟨h1,h2,h3⟩
  ·
   exact .inl ⟨by rw[hA.FX _ fun u hu=>cK hu];exact h1,h2⟩
  ·
   refine .inr ⟨by rw[hA.FX _ fun u hu=>cK hu];exact h1,?_,h3,by omega,by omega⟩
   rw[hA.file _ (fun u hu=>cK hu) (by rw[h2]),h2]
 have hE:dw e2 (ek [112]) s.c.es:=by
  have h1:=hb.eM
  rw[hb.nm]at h1
  rw[←hb.pre]
  exact h1.same (hA.file _ (fun u hu=>fK hu) h1.safe) (hA.FX _ fun u hu=>fK hu)
 refine⟨hA.cS,hA.ok,hA.pre.trans hb.pre,?_,hb.es,hE,hP,by rw[hA.size];omega,by omega,fun b sk=>?_,?_⟩
 ·
  have:=hb.all;rw[hr,List.length_append]at this;omega
 ·
  obtain⟨⟨e0,g1,g2,g3⟩,_⟩:=h.ep b (jv.subset sk)
  have oA:=(fP hA.ok (eH.1 sk).1).1
  have hm:e0∈bg l2.next s.c.es:=List.mem_filter.2 ⟨g1,decide_eq_true (by omega)⟩
  have:=(hb.es.cut l2.next).le_last e0 hm
  omega
 ·
  rw[hA.start];exact(h.notes hb hi jv).1
theorem sr{Z i j E D s d s2 e2 d2}(hb:bz Z i j E s d)(h:dW D s d)(hE:-1≤E)(hA:oY s d s2.l e2)(hO:Bh [112] s.c.es D s2 e2 d2)(hi:i≤60∧j≤130)(hZ:90000≤Z):bz Z i (j+1) E s2 d2∧dW D s2 d2:=by
 have hF:=oK hb h hA hi hZ
 obtain⟨r,hr⟩:=hA.all
 have Bk:=hb.Cz
 have cR:=hA.pre
 have ph:s2.c.nm=ek s2.l.pre:=by rw[hO.nm,cR,hb.pre]
 have vC:s.l.fN=s2.l.fN++bJ s.l.start r:=by
  unfold Lx.fN;rw[hr,eE,hA.start]
 have jv:s2.l.fN.Sublist s.l.fN:=by rw[vC];exact List.sublist_append_left _ _
 obtain⟨n1,n2,n3⟩:=h.notes hb hi jv
 have ht:=hO.t
 rw[hA.start]at ht
 have Q2:d2=bw e2 ⟨s2.c.cb,ek s2.l.pre,s.c.es,none,0⟩ (bg s2.l.next s.c.es):=by rw[cR,hb.pre];exact hO.QL
 obtain⟨hB,hH,_⟩:=fp (c:=⟨s2.c.cb,ek s2.l.pre,s.c.es,none,0⟩) (es:=bg s2.l.next s.c.es) hA.cS hA.ok rfl (hb.es.cut _) (by rw[hA.size,hb.size];have:=hA.used;omega) (by rw[cR,hb.pre];exact hF.eM)
 have SZ:e2.file (ek s.l.pre)=d.file (ek s.l.pre):=hA.file _ (fun u hu=>fK hu) (by have:=hb.eM;rw[hb.nm]at this;exact this.safe)
 have S1:(d.file (eY s.l.pre)).safe=(d.file (eY s.l.pre)).b.length:=by
  rcases h.sM with⟨h1,_⟩|⟨_,h2,_⟩
  ·
   rw[Dk.dJ h1];rfl
  ·
   rw[h2]
 have PM:e2.file (eY s.l.pre)=d.file (eY s.l.pre):=hA.file _ (fun u hu=>cK hu) S1
 have Gl:e2.used≤(e2.file (ek s2.l.pre)).b.length+(e2.file (eY s2.l.pre)).b.length+100*(i+(j+1)):=by
  rw[cR,SZ,PM];have:=hb.used;have:=hA.used;omega
 have LH:=li (s:=⟨s2.sx,s2.l,⟨s2.c.cb,ek s2.l.pre,s.c.es,none,0⟩,s2.t⟩) (es:=bg s2.l.next s.c.es) hA.cS rfl Gl
 rw[←Q2]at hB hH
 have PN:d2.used≤(d2.file (ek s2.l.pre)).b.length+(d2.file (eY s2.l.pre)).b.length+100*(i+(j+1)):=by rw[Q2];exact LH
 obtain⟨hD,_,_⟩:=Jt h
 have Ld:∀p∈bf s2.t.m,p.2=cN s.l.start (aA D p.1)++vN p.1 s2.l.fN:=fun p hp=>by
  rw[←n3 p.1,←ht]
  exact(ri (by rw[ht];exact n2.nodup) hp).symm
 have Np:=hA.ok.start
 refine⟨⟨hB.cS,hB.ok,hB.own hA.own,hB.full hA.full,hB.short fun n hn=>(hA.names n hn).elim (hb.short n) fun⟨u,hu,e⟩=>by rw[e,dD (by omega),hb.pre];decide,cR.trans hb.pre,ph,by have:=hA.next;have:=hb.next;omega,Nat.le_trans hA.ar hb.ar,by have:=hb.all;rw[hr,List.length_append]at this;omega,by rw[hB.size,hA.size,hb.size],PN,?_,fun n hn=>?_,by rw[hO.es];exact hb.es.cut _,by rw[hO.es];exact Nat.le_trans (List.length_filter_le ..) hb.Fy,by rw[hO.es];exact fun e he=>of_decide_eq_true (List.mem_filter.1 he).2,by rw[hO.es];exact Bj hb.last hE hb.es,by rw[ph,hO.es];exact hH,by rw[ht];exact n2,fun p hp=>?_,fun p hp x hx=>?_⟩,⟨?_,fun b j8=>?_,?_,h.keys,fun q=>⟨cN s.l.start (aA D q),by rw[hA.start];exact List.suffix_refl _,fun dx=>by rw[hA.start]at dx;exact dx,by rw[ht,n3]⟩,fun b j8=>h.mr b (by rw[hr];exact List.mem_append_left _ j8),fun b sk=>?_⟩⟩
 ·
  rw[(hB.eF (eY s2.l.pre) jo).1,cR,PM];exact hb.LD
 ·
  rw[cR]
  by_cases hx:n=ek s.l.pre
  ·
   exact .inl hx
  ·
   rw[(hB.eF n (by rw[cR];exact hx)).2]at hn
   exact(hA.names n hn).elim (hb.names n) fun h=>.inr (.inr (.inr h))
 ·
  rw[ht]at hp
  rcases tV _ _ p hp with h1|⟨b,j8,e⟩
  ·
   obtain⟨q,hq,e⟩:=List.mem_map.1 h1
   obtain⟨x,hx,e2⟩:=List.mem_filterMap.1 hq
   split at e2
   ·
    cases e2
   ·
    cases e2
    have e':x.1=p.1:=e
    rw[←e'];exact h.keys x hx
  ·
   rw[←e];exact(h.mr b (eH.1 (jv.subset j8)).1).pid.2
 ·
  rw[Ld p hp]at hx
  rcases List.mem_append.1 hx with hx|hx
  ·
   have:=(jQ hx).2;rw[hA.start]at Np;omega
  ·
   obtain⟨b,j8,_,rfl⟩:=sn hx
   exact(fP hA.ok (eH.1 j8).1).1
 ·
  obtain⟨z,w,a1,a2,a3,a4⟩:=h.num
  refine⟨z,w,hA.start.trans a1,a2,a3,?_⟩
  rw[cR,(hB.eF (aP s.l.pre) (by rw[cR];exact gB.symm)).1,(hB.eF (aP s.l.pre) (by rw[cR];exact gB.symm)).2,hA.FX _ fun u hu e=>cM (by omega) e.symm]
  rcases a4 with⟨b1,b2,b3⟩|⟨b1,b2⟩
  ·
   exact .inl ⟨b1,b2,b3⟩
  ·
   exact .inr ⟨b1,by rw[hA.file _ (fun u hu e=>cM (by omega) e.symm) (by rw[b2]),b2]⟩
 ·
  rw[hA.start];exact h.CI b (by rw[hr];exact List.mem_append_left _ j8)
 ·
  rw[cR,(hB.eF (eY s.l.pre) (by rw[cR];exact jo)).1,(hB.eF (eY s.l.pre) (by rw[cR];exact jo)).2,hA.FX _ fun u hu=>cK hu,PM]
  exact h.sM
 ·
  obtain⟨⟨e0,g1,g2,g3⟩,g4⟩:=h.ep b (jv.subset sk)
  have oA:=(fP hA.ok (eH.1 sk).1).1
  rw[hO.es]
  exact⟨⟨e0,List.mem_filter.2 ⟨g1,decide_eq_true (by omega)⟩,g2,g3⟩,fun e he=>g4 e (List.mem_filter.1 he).1⟩
theorem dW.sync{Z i j E D s d}(hb:bz Z i j E s d)(h:dW D s d):dW D s (sync s.l d):=by
 have hS:=Bf hb.ok hb.cS
 have h1:=hb.ok.ai.1.bC
 have h2:=hb.ok.ai.1.ed
 have dx:∀n,(∀u,u≤1000000000→n≠nameOf s.l.pre u)→n≠s.l.ai.nm:=fun n hn e=>hn s.l.ai.base.toNat (by omega) (e.trans hb.ok.ai.2.1)
 obtain⟨m1,m2⟩:=hS.eF (aP s.l.pre) (dx _ fun u hu e=>cM (by omega) e.symm)
 obtain⟨p1,p2⟩:=hS.eF (eY s.l.pre) (dx _ fun u hu=>cK hu)
 refine⟨?_,h.CI,by rw[p1,p2];exact h.sM,h.keys,h.t,h.mr,h.ep⟩
 obtain⟨z,w,a1,a2,a3,a4⟩:=h.num
 exact⟨z,w,a1,a2,a3,by rw[m1,m2];exact a4⟩
theorem gj.same{l l':Lx}{d d':Dk}(h:gj l d)(hc:l'.ai=l.ai)(hf:d'.file l.ai.nm=d.file l.ai.nm):gj l' d':=by unfold gj at*;rw[hc,hf];exact h
theorem gj.del{Z i j E s d s' d' off}(hb:bz Z i j E s d)(h:gj s.l d)(hA:Fw s d off s' d')(hi:i≤60∧j≤130):gj s'.l d':=by
 obtain⟨e,hD,rfl⟩:=hA.del
 have h1:=hb.ok.ai.1.bC
 have h2:=hb.ok.ai.1.ed
 have dx:∀n,(∀u,u≤1000000000→n≠nameOf s.l.pre u)→s.l.ai.nm≠n:=fun n hn e=>hn s.l.ai.base.toNat (by omega) (e▸hb.ok.ai.2.1)
 have hE:s.l.ai.nm≠ek s.l.pre:=dx _ fun u hu=>fK hu
 have hP:s.l.ai.nm≠eY s.l.pre:=dx _ fun u hu=>cK hu
 have hM:s.l.ai.nm≠aP s.l.pre:=xQ hb.ok s.l.cJ
 have hg:e.get s.l.ai.nm=(gJ d s).get s.l.ai.nm:=hD.eF _ hM fun t ht=>.inr (hb.ok.kG ht).symm
 have hf:e.file s.l.ai.nm=(gJ d s).file s.l.ai.nm:=congrArg (fun o=>o.getD pF) hg
 refine h.same hD.ai ?_
 have hk:(bw e s.c (dm off s.c.es)).file s.l.ai.nm=e.file s.l.ai.nm:=by
  unfold bw
  split
  ·
   rfl
  ·
   rw[hb.nm];exact(Dk.aK _ _ hE).1
 rw[hk,hf]
 unfold gJ
 exact(Dk.aK _ _ hP).1
theorem dW.x7{D s d Z i j E}(hb:bz Z i j E s d)(h:dW D s d){off:Int}(h1:s.l.start≤off):s.l.start≤aC (a8 s.l) (ie off s.l.all)∧aC (a8 s.l) (ie off s.l.all)≤off:=by
 have hc:=hb.ok.chain
 have hg:=hb.ok.aT
 have nK:=hb.ok.start
 obtain⟨k,hk⟩:=vu (off:=off) hc hg
 refine⟨?_,rQ (by omega) fun b hb=>by simpa using(List.mem_filter.1 hb).2⟩
 rw[hk]
 by_cases Eb:k<s.l.all.length
 ·
  have hx:s.l.all[k]?=some s.l.all[k]:=List.getElem?_eq_getElem Eb
  have h2:=(hc.at hx).1
  have hm:=List.mem_of_getElem? hx
  rcases h.CI _ hm with h3|h3
  ·
   have jB:s.l.all[k]∈ie off s.l.all:=List.mem_filter.2 ⟨hm,decide_eq_true (by omega)⟩
   rw[hk]at jB
   obtain⟨p,hp⟩:=List.getElem?_of_mem jB
   have Q3:p<k:=by have:=(List.getElem?_eq_some_iff.1 hp).1;rw[List.length_take]at this;omega
   rw[List.getElem?_take_of_lt Q3]at hp
   have h4:=(hc.at hp).2
   have h5:=(hg _ (List.mem_of_getElem? hp)).lt
   have h6:=hc.mono hg (i:=p+1) (j:=k) Q3
   have h7:=(hc.at hp).1
   omega
  ·
   omega
 ·
  rw[List.take_of_length_le (by omega),hb.ok.aC];exact nK.2.2
theorem zR{Z i j E D s d e}(hb:bz Z i j E s d)(h:dW D s d)(hs:gj s.l d)(hC:ii d e)(hi:i≤60∧j≤130):∃z w rest,s.l.start=(z:Nat)∧Found s.l.pre e (pieces s.l s.l.ai.bs.length rest) z w:=by
 obtain⟨z,w,a1,a2,a3,a4⟩:=h.num
 have hc:=hb.ok.ai
 have Nq:=hb.ar
 obtain⟨k,rest,h1,h2,h3⟩:=xS (m:=s.l.ai.bs.length) (z:=z) (w:=w) hb.ok hb.cS hb.own hb.full hC (by omega) a1 ⟨a2,a3⟩ a4 ⟨Nat.le_refl _,by rw[List.take_length,←hc.2.2.2];exact Nat.le_of_eq hs.symm⟩ (by
  have nK:=hb.ok.start
  have hn:s.l.next=rT s.l s.l.ai.bs.length:=by unfold rT;rw[List.take_length];rfl
  rw[←hn];omega)
 have hk:k=s.l.ai.bs.length:=by omega
 subst hk
 exact⟨z,w,rest,a1,h3⟩
theorem CK(db mb:Nat){Z i j E D s d e}(most:Int)(hb:bz Z i j E s d)(h:dW D s d)(hs:gj s.l d)(hC:ii d e)(hi:i≤60∧j≤130)(h1:256≤most)(h2:most≤1000000)(FY:∀(L:List Piece) (z w:Nat),Found [112] e L z w→Cn Tryz.prog 32 [.pointer (some ⟨db,0,none⟩),aW [112],.int .i64 most] LV [an db (e.cells mb) 74,mp aW Fl.val mb e.fs] fun v G=>∃l ss e2,v=.tuple #[.pointer (some ⟨l.lb,0,none⟩),.int .i64 0]∧l8 [112] e L z w l ss e2∧G=[LG db l,an db (e2.cells mb) 74,mp aW Fl.val mb e2.fs]):Cn Tryz.prog 32 [.pointer (some ⟨db,0,none⟩),aW [112],.int .i64 most] LV [an db (e.cells mb) 74,mp aW Fl.val mb e.fs] fun v G=>∃l d',v=.tuple #[.pointer (some ⟨l.lb,0,none⟩),.int .i64 0]∧(oY s d l d'∧l.all=s.l.all∧l.next=s.l.next)∧G=[LG db l,an db (d'.cells mb) 74,mp aW Fl.val mb d'.fs]:=by
 obtain⟨z,w,rest,a1,hF⟩:=zR hb h hs hC hi
 rw[hb.pre]at hF
 refine(FY _ z w hF).mono fun v G hv=>?_
 obtain⟨l,ss,e2,hv,hO,hG⟩:=hv
 have PO:Found s.l.pre e (pieces s.l s.l.ai.bs.length rest) z w:=by rw[hb.pre];exact hF
 have N9:l8 s.l.pre e (pieces s.l s.l.ai.bs.length rest) z w l ss e2:=by rw[hb.pre];exact hO
 obtain⟨b1,b2,_⟩:=rU hb.ok N9
 exact⟨l,e2,hv,⟨x6 hb hC (Nat.le_refl _) a1 PO.x N9,by rw[b1,List.take_length];unfold Lx.all Lx.ar;rw[List.flatMap_append];simp,by rw[b2];unfold rT;rw[List.take_length];rfl⟩,hG⟩
def n0:Nt:=⟨0,0,1,0⟩
def n1:Nt:=⟨0,1,1,1⟩
theorem IY:note [] (gh 2 7 0 0 1 0)=[(7,[n0])]∧note [(7,[n0])] (gh 2 7 0 1 1 1)=[(7,[n0,n1])]∧note (iK 1 [(7,[n0,n1])]) (gh 2 7 0 1 1 1)=[(7,[n0,n1])]∧iK 1 [(7,[n0,n1])]=[(7,[n0])]:=⟨by decide,by decide,by decide,by decide⟩
theorem asks:ask [(7,[n0,n1])] 7 0 0 1=(0,0)∧ask [(7,[n0])] 7 0 1 1=(-1,0)∧late (aA [(7,[n0])] 7) (gh 2 7 0 1 1 1)=false∧late (aA [] 7) (gh 2 7 0 0 1 0)=false:=⟨by decide,by decide,by decide,by decide⟩
theorem FZ(p:Int×List Nt)(h:cC [p]):cx [p]=[p]:=List.perm_singleton.1 (iE h)
theorem Bv{Z i j E s d q e off}(h:bz Z i j E s d)(hT:tJ s.l d off q e):∃r,s.l.all=q.all++r∧q.next≤s.l.next∧∀b∈r,q.next≤b.base:=by
 have hc:=h.ok.chain
 have hg:=h.ok.aT
 obtain⟨k,hk⟩:=vu (off:=off) hc hg
 have ha:q.all=s.l.all.take k:=hT.all.trans hk
 have hn:q.next=aC (a8 s.l) (s.l.all.take k):=by rw[←hT.ok.aC,hT.base,ha]
 refine⟨s.l.all.drop k,by rw[ha,List.take_append_drop],?_,fun b hb=>?_⟩
 ·
  rw[hn,←h.ok.aC]
  by_cases Eb:k≤s.l.all.length
  ·
   have:=hc.mono hg (i:=k) (j:=s.l.all.length) Eb
   rwa[List.take_length]at this
  ·
   rw[List.take_of_length_le (by omega)];exact Int.le_refl _
 ·
  obtain⟨p,hp⟩:=List.getElem?_of_mem hb
  rw[List.getElem?_drop]at hp
  rw[hn,(hc.at hp).1]
  exact hc.mono hg (i:=k) (j:=k+p) (by omega)
theorem tX{z:Int}{t:Tm}{p:Int×List Nt}(h:p∈iK z t):∃q∈t,p.1=q.1∧p.2=cN z q.2:=by
 obtain⟨q,hq,e⟩:=List.mem_filterMap.1 h
 split at e
 ·
  cases e
 ·
  cases e;exact⟨q,hq,rfl,rfl⟩
theorem bz.cut{Z i j E s d s' d' off}(h:bz Z i j E s d)(hE:-1≤E)(hC:KP s d off s' d')(hi:i≤60∧j≤130)(hZ:90000≤Z):bz Z i (j+1) E s' d':=by
 obtain⟨e,hT,rfl⟩:=hC.cut
 obtain⟨r,hr,lX,Q4⟩:=Bv h hT
 have Bk:=h.Cz
 have jS:=h.size
 have h1:=hT.used
 have h2:=hT.size
 have cR:s'.l.pre=s.l.pre:=hT.pre
 obtain⟨N7,N8⟩:=hT.eF (ek s.l.pre) fun u hu=>fK hu
 obtain⟨K9,La⟩:=hT.eF (eY s.l.pre) fun u hu=>cK hu
 have Js:dw e s.c.nm s.c.es:=h.eM.same (by rw[h.nm,N7]) (by rw[h.nm,N8])
 have kM:=h.es.cut s'.l.next
 obtain⟨hB,hH,_⟩:=fp (es:=bg s'.l.next s.c.es) hT.cS hT.ok (by rw[h.nm,cR]) kM (by omega) Js
 have Gl:e.used≤(e.file (ek s'.l.pre)).b.length+(e.file (eY s'.l.pre)).b.length+100*(i+(j+1)):=by
  rw[cR,N7,K9];have:=h.used;omega
 have LH:=li (s:=⟨s.sx,s'.l,s.c,s.t⟩) (es:=bg s'.l.next s.c.es) hT.cS (by rw[cR];exact h.nm) Gl
 refine⟨hB.cS,hB.ok,hB.own (hT.own h.own),hB.full (hT.full h.full),hB.short fun n hn=>h.short n (hT.names n hn),cR.trans h.pre,by rw[hC.nm,h.nm,cR],by have:=h.next;omega,Nat.le_trans hT.num h.ar,by have:=h.all;rw[hr,List.length_append]at this;omega,by rw[hB.size,h2,jS],LH,by rw[(hB.eF (eY s'.l.pre) jo).1,cR,K9];exact h.LD,fun n hn=>?_,by rw[hC.es];exact kM,by rw[hC.es];exact Nat.le_trans (List.length_filter_le ..) h.Fy,by rw[hC.es];exact fun x hx=>of_decide_eq_true (List.mem_filter.1 hx).2,by rw[hC.es];exact Bj h.last hE h.es,by rw[hC.nm,hC.es];exact hH,by rw[hC.t];exact h.lf.cut _,fun p hp=>?_,fun p hp x hx=>?_⟩
 ·
  rw[cR]
  rcases l6 (s:=⟨s.sx,s'.l,s.c,s.t⟩) (by rw[cR];exact h.nm) hn with hn|hn
  ·
   exact .inl (by rw[←cR];exact hn)
  ·
   exact h.names n (hT.names n hn)
 ·
  rw[hC.t]at hp
  obtain⟨q,hq,e1,_⟩:=tX hp
  rw[e1];exact h.keys q hq
 ·
  rw[hC.t]at hp
  obtain⟨q,hq,_,e2⟩:=tX hp
  rw[e2]at hx
  exact(jQ hx).2
theorem dW.cut{Z i j E D s d s' d' off}(hb:bz Z i j E s d)(h:dW D s d)(hC:KP s d off s' d')(hi:i≤60∧j≤130)(hZ:90000≤Z):dW D s' d':=by
 obtain⟨e,hT,rfl⟩:=hC.cut
 obtain⟨r,hr,lX,Q4⟩:=Bv hb hT
 have cR:s'.l.pre=s.l.pre:=hT.pre
 have nK:=hT.start
 have Np:=hT.ok.start
 obtain⟨S2,S3⟩:=hT.eF (aP s.l.pre) fun u hu e=>cM (by omega) e.symm
 obtain⟨K9,La⟩:=hT.eF (eY s.l.pre) fun u hu=>cK hu
 have eF:∀n,n≠ek s.l.pre→(bw e s.c (bg s'.l.next s.c.es)).file n=e.file n∧(bw e s.c (bg s'.l.next s.c.es)).get n=e.get n:=fun n hn=>by
  unfold bw
  split
  ·
   exact⟨rfl,rfl⟩
  ·
   rw[hb.nm];exact Dk.aK _ _ hn
 have vC:s.l.fN=s'.l.fN++bJ s.l.start r:=by
  unfold Lx.fN;rw[hr,eE,nK]
 have jv:s'.l.fN.Sublist s.l.fN:=by rw[vC];exact List.sublist_append_left _ _
 have cy:∀b∈s'.l.all,b∈s.l.all:=fun b vF=>by rw[hr];exact List.mem_append_left _ vF
 refine⟨?_,fun b j8=>by rw[nK];exact h.CI b (cy b j8),?_,h.keys,fun q=>?_,fun b j8=>h.mr b (cy b j8),fun b sk=>?_⟩
 ·
  obtain⟨z,w,a1,a2,a3,a4⟩:=h.num
  refine⟨z,w,nK.trans a1,a2,a3,?_⟩
  rw[cR,(eF _ gB.symm).1,(eF _ gB.symm).2,S2,S3];exact a4
 ·
  rw[cR,(eF _ jo).1,(eF _ jo).2,K9,La];exact h.sM
 ·
  obtain⟨S,a1,a2,a3⟩:=h.t q
  refine⟨S,by rw[nK];exact a1,by rw[nK];exact a2,?_⟩
  have hS:=dW.FV a1
  rw[hC.t,sg hb.lf.nodup,a3,vC,vA,←List.append_assoc]
  refine(tW (fun x hx=>?_) fun x hx=>?_).1
  ·
   rcases List.mem_append.1 hx with hx|hx
   ·
    have:=hS x hx;omega
   ·
    obtain⟨b,vF,_,rfl⟩:=sn hx
    exact(fP hT.ok (eH.1 vF).1).1
  ·
   obtain⟨b,vF,_,rfl⟩:=sn hx
   exact Q4 b (List.mem_filter.1 vF).1
 ·
  obtain⟨⟨e0,g1,g2,g3⟩,g4⟩:=h.ep b (jv.subset sk)
  have oA:=(fP hT.ok (eH.1 sk).1).1
  rw[hC.es]
  exact⟨⟨e0,List.mem_filter.2 ⟨g1,decide_eq_true (by omega)⟩,g2,g3⟩,fun x hx=>g4 x (List.mem_filter.1 hx).1⟩
structure vD(pre:Nm)(d:Dk)(z w:Nat)(l:Lx)(e:Dk):Prop where
 ok:l.ok e
 cS:e.ok
 xI:l.pre=pre
 start:l.start=(z:Int)
 bX:l.bX=[]
 bs:l.ai.bs=[]
 base:l.ai.base=(z:Int)
 own:mv l e
 names:∀n,(e.get n).isSome=true→(d.get n).isSome=true∨n=nameOf pre z
 eF:∀n,(∀u,u≤1000000000→n≠nameOf pre u)→e.file n=d.file n∧(e.get n).isSome=(d.get n).isSome
 size:e.size=d.size
 used:e.used≤d.used
 sync:(e.file l.ai.nm).safe=(e.file l.ai.nm).b.length
theorem su{pre:Nm}{n:Nm}:∀{l:List Nat} {d:Dk},(∀x∈l,n≠nameOf pre x)→(bO pre l d).file n=d.file n∧(bO pre l d).get n=d.get n
 |[],_,_=>⟨rfl,rfl⟩
 |x::l,d,h=>by
  obtain⟨h1,h2⟩:=su (l:=l) (d:=d.del (nameOf pre x)) fun y hy=>h y (.tail _ hy)
  obtain⟨h3,h4⟩:=Dk.cL d (h x (.head _))
  exact⟨h1.trans h3,h2.trans h4⟩
theorem oZ{pre:Nm}:∀{l:List Nat} {d:Dk},d.ok→(bO pre l d).ok∧(bO pre l d).used≤d.used∧(bO pre l d).size=d.size
 |[],_,h=>⟨h,Nat.le_refl _,rfl⟩
 |x::l,d,h=>by
  obtain⟨h1,h2,h3⟩:=oZ (l:=l) (Dk.uD h (nameOf pre x))
  have:=Dk.kv h (nameOf pre x)
  exact⟨h1,Nat.le_trans h2 (by omega),h3⟩
theorem mc{pre:Nm}{n:Nm}:∀{l:List Nat} {d:Dk},((bO pre l d).get n).isSome=true→(d.get n).isSome=true
 |[],_,h=>h
 |x::l,d,h=>by
  have h1:=mc (l:=l) (d:=d.del (nameOf pre x)) h
  rw[Dk.kX]at h1
  split at h1
  ·
   cases h1
  ·
   exact h1
theorem tY{pre:Nm}{d e:Dk}{L:List Piece}{z w:Nat}{ss:List Sx}(hF:fO pre d L z w)(hO:eu pre d L L.length ss e)(hd:d.ok)(hn:d.fs.length<255):((e.fs.map (·.1)).Perm (d.fs.map (·.1))∧e.fs.length=d.fs.length)∧bj pre (bk (e.fs.map (·.1)))=L.map (·.1)∧(∀b∈L.map (·.1),b≤1000000000)∧(∀b∈L.map (·.1),(e.get (nameOf pre b)).isSome=true)∧(bO pre (L.map (·.1)) e).fs.length<256∧((bO pre (L.map (·.1)) e).get (nameOf pre z)).isSome=false:=by
 have jB:∀u,u∈L.map (·.1)↔u≤1000000000∧(e.get (nameOf pre u)).isSome=true:=fun u=>by
  rw[←hF.nF,eo,dF,←er,hO.get]
 have Jm:(e.fs.map (·.1)).Perm (d.fs.map (·.1)):=(List.perm_ext_iff_of_nodup hO.cS.nodup hd.nodup).2 fun n=>by rw[←er,←er,hO.get n]
 have Ct:bj pre (bk (e.fs.map (·.1)))=L.map (·.1):=by
  rw[←hF.nF]
  refine Fk ((iH (k8 _) (fM hO.cS.nodup))) ((iH (k8 _) (fM hd.nodup))) fun x=>?_
  rw[eo,eo,dF,dF,Jm.mem_iff]
 have hl:e.fs.length=d.fs.length:=by have:=Jm.length_eq;rwa[List.length_map,List.length_map]at this
 refine⟨⟨Jm,hl⟩,Ct,fun b hb=>((jB b).1 hb).1,fun b hb=>((jB b).1 hb).2,by have:=rN (pre:=pre) (l:=L.map (·.1)) (d:=e);omega,?_⟩
 have hz:=hF.zw
 by_cases hm:z∈L.map (·.1)
 ·
  rw[kJ hm];rfl
 ·
  rw[jO fun x hx e'=>hm (by rw[ci e'];exact hx)]
  cases hg:(e.get (nameOf pre z)).isSome with
  |false=>rfl
  |true=>exact absurd ((jB z).2 ⟨by omega,hg⟩) hm
theorem IZ{pre:Nm}{d e:Dk}{L:List Piece}{z w:Nat}{ss:List Sx}(hF:fO pre d L z w)(hO:eu pre d L L.length ss e)(hd:d.ok)(hn:d.fs.length<255)(hp:oe pre){most:Int}(h1:256≤most)(h2:most≤1000000)(lb sb:Nat){sm:List Nat}(iJ:Ix sm 0)(aa:Option Addr)(ac:Nat)(ia:Option Addr)(ic:Nat)(la:Option Addr)(lc:Nat):vD pre d z w (Lx.mk lb pre most z z [] (Sx.mk sb (nameOf pre z) (z:Int) [] sm aa ac ia ic) la lc) ((bO pre (L.map (·.1)) e).put (nameOf pre z) ⟨flat [],(flat []).length⟩):=by
 obtain⟨_,b1,b2,b3,b4,b5⟩:=tY hF hO hd hn
 have hz:=hF.zw
 obtain⟨k1,k2,k3⟩:=oZ (pre:=pre) (l:=L.map (·.1)) hO.cS
 have Pr:(flat []).length=0:=rfl
 have Bk:=Dk.cf k1 (nameOf pre z) ⟨flat [],(flat []).length⟩
 rw[Dk.dJ b5]at Bk
 have S4:((bO pre (L.map (·.1)) e).put (nameOf pre z) ⟨flat [],(flat []).length⟩).used=(bO pre (L.map (·.1)) e).used:=by
  have h0:pF.b.length=0:=rfl
  dsimp only at Bk;omega
 have U0:=hO.used
 have Lf:∀n,(∀u,u≤1000000000→n≠nameOf pre u)→((bO pre (L.map (·.1)) e).put (nameOf pre z) ⟨flat [],(flat []).length⟩).file n=e.file n∧((bO pre (L.map (·.1)) e).put (nameOf pre z) ⟨flat [],(flat []).length⟩).get n=e.get n:=fun n Gp=>by
  obtain⟨m1,m2⟩:=Dk.aK (bO pre (L.map (·.1)) e) ⟨flat [],(flat []).length⟩ (Gp z (by omega))
  obtain⟨m3,m4⟩:=su (l:=L.map (·.1)) (d:=e) fun x hx=>Gp x (b2 x hx)
  exact⟨m1.trans m3,m2.trans m4⟩
 refine⟨⟨hp,fun s hs=>?_,⟨rfl,trivial⟩,fun s hs=>(by cases hs),⟨by show(0:Int)≤z;omega,Int.le_refl _,Int.le_refl _⟩,⟨Int.le_refl _,Int.le_refl _⟩,⟨h1,h2⟩,by show 1≤100000;decide⟩,Dk.dN k1 (by dsimp only;have:=k1.used;omega) (Nat.le_refl _),rfl,rfl,rfl,rfl,rfl,fun u hu hg=>?_,fun n Gp=>?_,fun n Gp=>?_,k3.trans hO.size,by omega,by show(Dk.file _ (nameOf pre z)).safe=(Dk.file _ (nameOf pre z)).b.length;rw[Dk.aV]⟩
 ·
  rw[List.mem_singleton.1 hs]
  exact⟨⟨by show(0:Int)≤z;omega,by show(z:Int)≤_;omega,trivial,fun b hb=>(by cases hb),Nat.zero_le _,iJ,Nat.zero_le _⟩,by show nameOf pre z=nameOf pre ((z:Int)).toNat;rw[Int.toNat_natCast],Dk.cB _ _ _,by show(Dk.file _ (nameOf pre z)).b=_;rw[Dk.aV]⟩
 ·
  refine⟨_,.head _,?_⟩
  show((z:Int)).toNat=u
  rw[Int.toNat_natCast]
  by_cases hx:nameOf pre u=nameOf pre z
  ·
   exact(ci hx).symm
  ·
   exfalso
   have Cs:(((bO pre (L.map (·.1)) e).put (nameOf pre z) ⟨flat [],(flat []).length⟩).get (nameOf pre u)).isSome=true:=hg
   rw[(Dk.aK _ _ hx).2]at Cs
   have h5:=mc Cs
   have hm:u∈L.map (·.1):=by
    rw[←b1,eo,dF,←er];exact⟨hu,h5⟩
   rw[kJ hm]at Cs;cases Cs
 ·
  by_cases hx:n=nameOf pre z
  ·
   exact .inr hx
  ·
   left
   rw[(Dk.aK _ _ hx).2]at Gp
   rw[←hO.get];exact mc Gp
 ·
  obtain⟨m1,m2⟩:=Lf n Gp
  refine⟨m1.trans (hO.left n fun p NV e'=>?_),by rw[m2,hO.get]⟩
  rw[List.take_length]at NV
  exact Gp p.1 (b2 p.1 (List.mem_map_of_mem NV)) e'
end Go.Proofs.YtoglbebcdjdkiaaGreatDoor