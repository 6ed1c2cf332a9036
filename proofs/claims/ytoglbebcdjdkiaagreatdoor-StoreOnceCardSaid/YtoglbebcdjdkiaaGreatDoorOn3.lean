/- Part 3 of a claim's texts: rules for the machine's steps, and steps through functions of the program, under the conditions that each theorem states. -/
import Derived.Test.YtoglbebcdjdkiaaGreatDoorProg
import Derived.Lib.IndexMore
import Derived.Shelf.Strings.Builder1
import Derived.Test.YtoglbebcdjdkiaaGreatDoorOn2
set_option linter.unusedVariables false
set_option maxRecDepth 20000
set_option maxHeartbeats 8000000
namespace Go.Proofs.YtoglbebcdjdkiaaGreatDoor
open Go Go.Sp
theorem Be{b:aR}(hb:b.aT):Value.tuple #[.string (str (dA b).1),.int .i64 (dA b).2]=.tuple #[.string (str (enc b)),.int .i64 0]:=by unfold enc;rw[fh hb.right]
theorem tJ(db mb:Nat)(d:Dk)(s:Sx)(b:aR)(a:Option Addr)(c:Nat)(hd:d.ok)(hs:s.ok)(hb:b.aT)(hn:b.base=s.next)(hl:s.bs.length<4096)(ph:eS s.nm)(hx:(d.get s.nm).isSome=true)(hf:(d.file s.nm).b=flat s.bs)(hr:d.used+(enc b).length≤d.size):Cn Tryz.prog 126 [.pointer (some ⟨s.b,0,none⟩),.agg (b.cells a c).toArray] (aB a (b.aU.flatMap Rec.cells)) [an db (d.cells mb) 74,mp aY Fl.val mb d.fs,an s.b (s.cells db) 110,arr 112 4 s.aa s.ac s.rows,arr 3 1 s.ia s.ic (s.sm.flatMap fJ)] fun v G=>v=.int .i64 0∧∃sm aa ac ia ic,Ix sm (s.bs.length+1)∧s.bs.length+1≤ac∧G=[an db ((d.put s.nm ⟨(d.file s.nm).b++enc b,(d.file s.nm).safe⟩).cells mb) 74,mp aY Fl.val mb (d.put s.nm ⟨(d.file s.nm).b++enc b,(d.file s.nm).safe⟩).fs]++[an s.b ((Sx.mk s.b s.nm s.base (s.bs++[b]) sm aa ac ia ic).cells db) 110,arr 112 4 aa ac (Sx.mk s.b s.nm s.base (s.bs++[b]) sm aa ac ia ic).rows,arr 3 1 ia ic (sm.flatMap fJ)]:=by
 refine .en Tryz.func126 fun R k=>?_
 have mh:=hb.base
 have gL:=hb.en
 have lp:=hb.uH
 have yt:=hb.lt
 have xD:=hb.uI
 have yo:=hs.kA
 have QR:(d.file s.nm).b.length=(flat s.bs).length:=by rw[hf]
 refine .ax fds 2 ?_
 refine .ef (.box (l:=b.cells a c) rfl rfl (ay.of rfl)) ?_
 rintro _ _ ⟨b3,rfl,rfl⟩
 refine .ax fds 4 ?_
 refine .rd (.jy bh aM rfl .p0 rfl) ?_
 refine .fn rfl rfl .nil ((af.pick .p6 (k.mono fun _ h=>h))) (wT b a c hb.fits) (fun v G1 hq=>?_)
 obtain⟨rfl,rfl⟩:=hq
 simp only[ae]
 refine .al 11 (.tuple #[.string (str (enc b)),.int .i64 0]) rfl (Be hb) ?_
 refine .aH fds 16 ?_
 refine .dr [1] [an b3 (b.cells a c) 41] ?_
 refine .aq fds [0] ?_
 refine .re 1 rfl (.ld aj rfl .p0 rfl) .q0 ?_
 refine .aq fds [2] ?_
 refine .eg 3 rfl (.fn rfl rfl .nil ((af.an .p3).and ((af.arr .p4).and (af.arr .p5))) (bY db s hs)) ?_
 rintro v _ ⟨G1,hq,rfl⟩
 obtain⟨rfl,rfl⟩:=hq
 simp only[ae]
 refine⟨.inr ⟨_,.q0⟩,?_⟩
 refine .aq fds [4] ?_
 refine .al 23 (.bool false) rfl (congrArg Value.bool (by rw[decide_eq_true hn];rfl)) ?_
 refine .aq fds [5] ?_
 refine .dn ?_
 refine .ax fds 3 ?_
 refine .rd (.jy bh aM rfl .p0 rfl) ?_
 refine .fn rfl rfl .nil ah (vi b a c (by omega) (by omega) (by omega)) (fun v G1 hq=>?_)
 obtain⟨rfl,rfl⟩:=hq
 simp only[ae]
 refine .rd (.gt rfl rfl) ?_
 refine .al 27 (.bool false) rfl (aE (by omega)) ?_
 refine .ax fds 8 ?_
 refine .rd (.ld dz rfl .p3 rfl) ?_
 refine .rd (.bK rfl rfl Tryz.underlying108 rfl) ?_
 refine .rd (.ge rfl rfl) ?_
 refine .al 34 (.bool false) rfl (aE (by omega)) ?_
 refine .ax fds 8 ?_
 refine .fn rfl rfl .pu ((af.an .p1).and ((af.arr .p2).and (af.arr .p3))) (nv db mb d s) (fun v G1 hq=>?_)
 obtain⟨rfl,rfl⟩:=hq
 simp only[ag,ae]
 refine .aH fds 4 ?_
 refine .dr [3,7] [an s.b (s.cells db) 110] ?_
 refine .aq fds [0] ?_
 refine .aq fds [1] ?_
 refine .aq fds [2] ?_
 refine .re 3 rfl (.ld di rfl .p0 rfl) .q3 ?_
 refine .aq fds [4] ?_
 refine .aq fds [5] ?_
 refine .aq fds [6] ?_
 refine .re 7 rfl (.ld aS rfl .p0 rfl) .q3 ?_
 refine .aq fds [8] ?_
 refine .eg 9 rfl (.fn rfl rfl .cV ah (tC db mb d s.nm (enc b) hd ph (.inl hx) hr)) ?_
 rintro v _ ⟨G1,hq,rfl⟩
 obtain⟨rfl,rfl⟩:=hq
 simp only[ag,ae]
 refine aA ?_
 refine .aq fds [10] ?_
 refine .dn ?_
 refine .go fds 8 ?_
 refine .dr [2,3] [an b3 (b.cells a c) 41] ?_
 refine .aq fds [0] ?_
 refine .aq fds [1] ?_
 refine .re 2 rfl (.ld aj rfl .p0 rfl) .q2 ?_
 refine .re 3 rfl (.jy bh aM rfl .p0 rfl) .q2 ?_
 refine .aq fds [5] ?_
 refine .aq fds [6] ?_
 refine .aq fds [7] ?_
 refine .rq 8 rfl (.ey rfl rfl Tryz.underlying9 rfl) ?_
 refine .rq 9 rfl (.add rfl rfl (by omega) (by omega)) ?_
 refine .eg 4 rfl (.fn rfl rfl .nil ah (vi b a c (by omega) (by omega) (by omega))) ?_
 rintro v _ ⟨G1,hq,rfl⟩
 obtain⟨rfl,rfl⟩:=hq
 simp only[ae]
 refine⟨.inr ⟨_,.q2⟩,?_⟩
 refine .rq 10 rfl (.build rfl (Ay _ _ _ _)) ?_
 refine .al 70 (.agg (pg s b).cells.toArray) rfl (by rw[QR];rfl) ?_
 refine .eg 11 rfl (.fn rfl rfl .GO ah (EW db s b hs hb hn hl)) ?_
 rintro v _ ⟨G1,hq,rfl⟩
 obtain⟨sm,aa,ac,ia,ic,iM,qQ,rfl⟩:=hq
 simp only[ag,ae]
 refine aA ?_
 refine .dn ?_
 refine .go fds 4 ?_
 refine .aF Tryz.func126 (.t1 rfl) (.cons .p3 (.cons .p3 (.cons .p0 (.cons .p0 (.cons .p0 (.cons .p1 .nil)))))) ?_
 exact⟨[_,_,_,_,_],⟨rfl,sm,aa,ac,ia,ic,iM,qQ,rfl⟩,rfl⟩
theorem oE(l:Lx):l.au.Perm (l.ai::l.bX):=by unfold Lx.au;exact List.perm_append_comm
theorem IJ{s:Sx}(h:s.ok)(hf:0<(flat s.bs).length):s.base<s.next:=by
 by_cases h0:0<s.bs.length
 ·
  obtain⟨b,hb,he⟩:=Sx.last h0
  rw[←he];exact kV h (List.mem_of_getElem? hb)
 ·
  have:s.bs=[]:=List.eq_nil_of_length_eq_zero (by omega)
  rw[this]at hf;exact absurd hf (by decide)
theorem Bf(l:Lx):l.au.flatMap sp=(l.au.map (·.b)).flatMap yu:=by rw[List.flatMap_map];rfl
theorem IK(db mb:Nat)(d:Dk)(l:Lx)(b:aR)(a:Option Addr)(c:Nat)(hd:d.ok)(hl:l.ok d)(hb:b.aT)(oB:b.base=l.next)(y4:l.ai.bs.length<4096)(Qp:l.next-l.ai.base<4096)(fw:d.used+(enc b).length≤d.size)(KJ:d.fs.length<255)(KK:((d.put l.ai.nm ⟨(d.file l.ai.nm).b,(d.file l.ai.nm).b.length⟩).file (nameOf l.pre l.next.toNat)).b=[])(Pr:(d.put l.ai.nm ⟨(d.file l.ai.nm).b,(d.file l.ai.nm).b.length⟩).fs.length<256):Cn Tryz.prog 80 [.pointer (some ⟨l.lb,0,none⟩),.agg (b.cells a c).toArray] (fun w=>LV w∧aB a (b.aU.flatMap Rec.cells) w) [LG db l,an db (d.cells mb) 74,mp aY Fl.val mb d.fs] fun v G=>v=.int .i64 0∧((¬l.most≤((d.file l.ai.nm).b.length:Int)∧∃sm aa ac ia ic,Ix sm (l.ai.bs.length+1)∧l.ai.bs.length+1≤ac∧G=[LG db (l.grow b sm aa ac ia ic),an db ((d.put l.ai.nm ⟨(d.file l.ai.nm).b++enc b,(d.file l.ai.nm).safe⟩).cells mb) 74,mp aY Fl.val mb (d.put l.ai.nm ⟨(d.file l.ai.nm).b++enc b,(d.file l.ai.nm).safe⟩).fs])∨(l.most≤((d.file l.ai.nm).b.length:Int)∧∃sb sm aa ac ia ic qa qc,Ix sm 1∧1≤ac∧G=[LG db (l.roll sb b sm aa ac ia ic qa qc),an db ((((d.put l.ai.nm ⟨(d.file l.ai.nm).b,(d.file l.ai.nm).b.length⟩).put (nameOf l.pre l.next.toNat) ⟨flat [],(flat []).length⟩).put (nameOf l.pre l.next.toNat) ⟨(((d.put l.ai.nm ⟨(d.file l.ai.nm).b,(d.file l.ai.nm).b.length⟩).put (nameOf l.pre l.next.toNat) ⟨flat [],(flat []).length⟩).file (nameOf l.pre l.next.toNat)).b++enc b,(((d.put l.ai.nm ⟨(d.file l.ai.nm).b,(d.file l.ai.nm).b.length⟩).put (nameOf l.pre l.next.toNat) ⟨flat [],(flat []).length⟩).file (nameOf l.pre l.next.toNat)).safe⟩).cells mb) 74,mp aY Fl.val mb (((d.put l.ai.nm ⟨(d.file l.ai.nm).b,(d.file l.ai.nm).b.length⟩).put (nameOf l.pre l.next.toNat) ⟨flat [],(flat []).length⟩).put (nameOf l.pre l.next.toNat) ⟨(((d.put l.ai.nm ⟨(d.file l.ai.nm).b,(d.file l.ai.nm).b.length⟩).put (nameOf l.pre l.next.toNat) ⟨flat [],(flat []).length⟩).file (nameOf l.pre l.next.toNat)).b++enc b,(((d.put l.ai.nm ⟨(d.file l.ai.nm).b,(d.file l.ai.nm).b.length⟩).put (nameOf l.pre l.next.toNat) ⟨flat [],(flat []).length⟩).file (nameOf l.pre l.next.toNat)).safe⟩).fs])):=by
 refine .en Tryz.func80 fun R k=>?_
 obtain⟨iJ,IL,QS,Nc⟩:=hl.gP l.ai l.cF
 have mh:=hb.base
 have gL:=hb.en
 have lp:=hb.uH
 have yt:=hb.lt
 have lD:=iJ.eC
 have Qj:=iJ.kU
 have QR:(d.file l.ai.nm).b.length=(flat l.ai.bs).length:=by rw[Nc]
 have A0:=hl.pre.len
 have Sb:=hl.most
 refine .unpack (L:=[an l.lb (l.cells db) 57,arr 54 1 l.la l.lc (l.au.flatMap sp),cD (SG db) l.au]) .p0 ?_
 simp only[ag,ae]
 refine .mF (f:=SG db) (x:=l.ai) (m:=l.bX) .p2 (oE l) ?_
 refine .unpack (L:=[an l.ai.b (l.ai.cells db) 110,arr 112 4 l.ai.aa l.ai.ac l.ai.rows,arr 3 1 l.ai.ia l.ai.ic (l.ai.sm.flatMap fJ)]) .p0 ?_
 simp only[ag,ae]
 refine .ax fds 2 ?_
 refine .ef (.box (l:=b.cells a c) rfl rfl (ay.of rfl)) ?_
 rintro _ _ ⟨b3,rfl,rfl⟩
 refine .aH fds 4 ?_
 refine .dr [1,5] [an b3 (b.cells a c) 41,an l.lb (l.cells db) 57] ?_
 refine .aq fds [0] ?_
 refine .re 1 rfl (.ld aj rfl .p0 rfl) .JS ?_
 refine .aq fds [2] ?_
 refine .aq fds [3] ?_
 refine .aq fds [4] ?_
 refine .re 5 rfl (.ld aO rfl .p1 rfl) .JS ?_
 refine .eg 6 rfl (.fn rfl rfl .nil ((af.an .p1).and ((af.arr .p2).and (af.arr .p3))) (bY db l.ai iJ)) ?_
 rintro v _ ⟨G1,hq,rfl⟩
 obtain⟨rfl,rfl⟩:=hq
 simp only[ae]
 refine⟨.inr ⟨_,.JS⟩,?_⟩
 refine .aq fds [7] ?_
 refine .al 16 (.bool false) rfl (congrArg Value.bool (by rw[decide_eq_true (show b.base=l.ai.next from oB)];rfl)) ?_
 refine .dn ?_
 refine .ax fds 5 ?_
 refine .rd (.jy bh aM rfl .p0 rfl) ?_
 refine .fn rfl rfl .nil ((af.pick .p9 (k.mono fun _ h=>h.2))) (wT b a c hb.fits) (fun v G1 hq=>?_)
 obtain⟨rfl,rfl⟩:=hq
 simp only[ae]
 refine .al 19 (.tuple #[.string (str (enc b)),.int .i64 0]) rfl (Be hb) ?_
 refine .ax fds 16 ?_
 by_cases rf:l.most≤((d.file l.ai.nm).b.length:Int)
 ·
  have M0:l.ai.base<l.ai.next:=IJ iJ (by omega)
  refine .rd (.jy bh aM rfl .p0 rfl) ?_
  refine .fn rfl rfl .nil ah (vj b a c (by omega) (by omega) (by omega)) (fun v G1 hq=>?_)
  obtain⟨rfl,rfl⟩:=hq
  simp only[ae]
  refine .rd (.gt rfl rfl) ?_
  refine .al 27 (.bool false) rfl (aE (by omega)) ?_
  refine .aH fds 5 ?_
  refine .dr [3,8,14,19] [an l.lb (l.cells db) 57] ?_
  refine .aq fds [0] ?_
  refine .aq fds [1] ?_
  refine .aq fds [2] ?_
  refine .re 3 rfl (.ld aO rfl .p0 rfl) .q5 ?_
  refine .aq fds [5] ?_
  refine .aq fds [6] ?_
  refine .aq fds [7] ?_
  refine .re 8 rfl (.ld aj rfl .p0 rfl) .q5 ?_
  refine .eg 4 rfl (.fn rfl rfl (.cons .p7 (.cons .p7 .nil)) ((af.an .p1).and ((af.arr .p2).and (af.arr .p3))) (nv db mb d l.ai)) ?_
  rintro v _ ⟨G1,hq,rfl⟩
  obtain⟨rfl,rfl⟩:=hq
  simp only[ag,ae]
  refine⟨.inr ⟨_,.q7⟩,?_⟩
  refine .aq fds [9] ?_
  refine .al 37 (.bool true) rfl (bS rf) ?_
  refine .aq fds [10,11,12,13,14,15,16,17,18,19,20,21,22] ?_
  refine .aq fds [23] ?_
  refine .aq fds [24] ?_
  refine .dn ?_
  refine .seq ?_
  refine .dr [5,10] [an l.lb (l.cells db) 57] ?_
  refine .aq fds [0] ?_
  refine .aq fds [1] ?_
  refine .aq fds [2] ?_
  refine .aq fds [3] ?_
  refine .aq fds [4] ?_
  refine .si 5 (t:=53) rfl rfl rfl rfl (by kernel_rfl) (by kernel_rfl) (by kernel_rfl) (.ld aO rfl .p0 rfl) .q7 ?_
  refine .aq fds [7] ?_
  refine .aq fds [8] ?_
  refine .aq fds [9] ?_
  refine .si 10 (t:=53) rfl rfl rfl rfl (by kernel_rfl) (by kernel_rfl) (by kernel_rfl) (.ld aO rfl .p0 rfl) .q7 ?_
  refine .GC 6 (t:=53) (by kernel_rfl) rfl rfl rfl (.fn rfl rfl .nil ((af.an .p3).and ((af.arr .p4).and (af.arr .p5))) (bY db l.ai iJ)) ?_
  rintro v _ ⟨G1,hq,rfl⟩
  obtain⟨rfl,rfl⟩:=hq
  simp only[ae]
  refine⟨.inr ⟨_,.q7⟩,?_⟩
  refine .GC 11 (t:=53) (by kernel_rfl) rfl rfl rfl (.fn rfl rfl .nil ((af.an .p3).and ((af.arr .p4).and (af.arr .p5))) (kW db l.ai)) ?_
  rintro v _ ⟨G1,hq,rfl⟩
  obtain⟨rfl,rfl⟩:=hq
  simp only[ae]
  refine aA ?_
  refine .aq fds [12] ?_
  refine .al 64 (.bool true) rfl (bS M0) ?_
  refine .aq fds [13] ?_
  refine .dn ?_
  refine .go fds 2 ?_
  refine .dr [3,8,14,18] [an l.lb (l.cells db) 57] ?_
  refine .aq fds [0] ?_
  refine .aq fds [1] ?_
  refine .aq fds [2] ?_
  refine .re 3 rfl (.ld aO rfl .p0 rfl) .q7 ?_
  refine .aq fds [5] ?_
  refine .aq fds [6] ?_
  refine .aq fds [7] ?_
  refine .re 8 rfl (.ld aj rfl .p0 rfl) .q7 ?_
  refine .eg 4 rfl (.fn rfl rfl .cV ((af.an .p1).and ((af.arr .p2).and (af.arr .p3))) (nv db mb d l.ai)) ?_
  rintro v _ ⟨G1,hq,rfl⟩
  obtain⟨rfl,rfl⟩:=hq
  simp only[ag,ae]
  refine⟨.inr ⟨_,.q7⟩,?_⟩
  refine .aq fds [9] ?_
  refine .al 75 (.bool true) rfl (bS rf) ?_
  refine .aq fds [10,11,12,13,14,15,16,17,18,19,20,21,22] ?_
  refine .aq fds [23] ?_
  refine .dn ?_
  refine .ax fds 6 ?_
  refine .rd (.ld aO rfl .p7 rfl) ?_
  refine .fn rfl rfl .cV ((af.an .p1).and ((af.arr .p2).and (af.arr .p3))) (rz db mb d l.ai hd QS) (fun v G1 hq=>?_)
  obtain⟨rfl,rfl⟩:=hq
  simp only[ag,ae]
  refine .ax fds 7 ?_
  refine .rd (.ld aO rfl .p7 rfl) ?_
  refine .fn rfl rfl .nil ((af.an .p3).and ((af.arr .p4).and (af.arr .p5))) (bY db l.ai iJ) (fun v G1 hq=>?_)
  obtain⟨rfl,rfl⟩:=hq
  simp only[ae]
  refine .pack (L:=[an l.ai.b (l.ai.cells db) 110,arr 112 4 l.ai.aa l.ai.ac l.ai.rows,arr 3 1 l.ai.ia l.ai.ic (l.ai.sm.flatMap fJ)]) .GO ?_
  refine .close (X:=cD (SG db) l.au) .Lw (fun h H=>iI (bX:=l.bX) (s:=l.ai) H) ?_
  have AI:(d.put l.ai.nm ⟨(d.file l.ai.nm).b,(d.file l.ai.nm).b.length⟩).ok:=Dk.dO hd (by show _+(d.file l.ai.nm).b.length≤_;have:=hd.used;omega) (Nat.le_refl _)
  refine .perm .iE ?_
  refine .ca (arr 54 1 l.la l.lc ((l.au.map (·.b)).flatMap yu)) (by rw[Bf]) ?_
  refine .perm .iE ?_
  refine .ca (an l.lb (a6 (some ⟨l.ai.b,0,none⟩) db l.pre l.most l.start l.aJ l.la (l.au.map (·.b)).length l.lc) 57) (by rw[List.length_map];unfold Lx.au;rw[List.length_append];rfl) ?_
  refine .al 100 (.int .i64 ((l.next.toNat:Nat):Int)) rfl (congrArg (Value.int .i64) (by show l.ai.next=((l.ai.next.toNat:Nat):Int);have:=iJ.bD;omega)) ?_
  refine .fn rfl rfl .DC ((af.pick .p2 (k.mono fun _ h=>h.1))) (vl l.lb db mb (d.put l.ai.nm ⟨(d.file l.ai.nm).b,(d.file l.ai.nm).b.length⟩) (some ⟨l.ai.b,0,none⟩) l.pre l.most l.start l.aJ l.la l.lc (l.au.map (·.b)) l.next.toNat [] [] AI hl.pre (by show l.ai.next.toNat≤_;omega) (.inr Pr) KK (.inl rfl) trivial (fun _ h=>by cases h) (by decide) (by rw[List.length_map];have:=hl.len;omega)) (fun v G1 hq=>?_)
  obtain⟨sb,sm,aa,ac,ia,ic,qa,qc,rfl,iM,qQ,rfl⟩:=hq
  simp only[ag,ae]
  refine .aH fds 10 ?_
  have Gj:((l.next.toNat:Nat):Int)=l.next:=by show((l.ai.next.toNat:Nat):Int)=l.ai.next;have:=iJ.bD;omega
  have Ac:l.next=l.ai.next:=rfl
  have DS:((d.put l.ai.nm ⟨(d.file l.ai.nm).b,(d.file l.ai.nm).b.length⟩).put (nameOf l.pre l.next.toNat) ⟨flat [],(flat []).length⟩).ok:=Dk.dO AI (Nat.le_trans (by have:=Dk.cc hd l.ai.nm ⟨(d.file l.ai.nm).b,(d.file l.ai.nm).b.length⟩;exact AI.used) (Nat.le_add_right _ _)) (Nat.le_refl _)
  have Lz:(Sx.mk sb (nameOf l.pre l.next.toNat) ((l.next.toNat:Nat):Int) [] sm aa ac ia ic).ok:=⟨by show(0:Int)≤((l.next.toNat:Nat):Int);omega,by show((l.next.toNat:Nat):Int)≤_;omega,trivial,fun _ h=>(by cases h),Nat.zero_le _,iM,Nat.zero_le _⟩
  have Ps:b.base=(Sx.mk sb (nameOf l.pre l.next.toNat) ((l.next.toNat:Nat):Int) [] sm aa ac ia ic).next:=by rw[oB,←Gj];rfl
  have Pt:((d.put l.ai.nm ⟨(d.file l.ai.nm).b,(d.file l.ai.nm).b.length⟩).put (nameOf l.pre l.next.toNat) ⟨flat [],(flat []).length⟩).used+(enc b).length≤((d.put l.ai.nm ⟨(d.file l.ai.nm).b,(d.file l.ai.nm).b.length⟩).put (nameOf l.pre l.next.toNat) ⟨flat [],(flat []).length⟩).size:=by
   have h1:=Dk.cc hd l.ai.nm ⟨(d.file l.ai.nm).b,(d.file l.ai.nm).b.length⟩
   have h2:=Dk.cc AI (nameOf l.pre l.next.toNat) ⟨flat [],(flat []).length⟩
   have h3:(flat ([]:List aR)).length=0:=rfl
   show _≤d.size
   dsimp only at h1 h2
   omega
  refine .dr [3,4] [an l.lb (a6 (some ⟨sb,0,none⟩) db l.pre l.most l.start l.aJ qa (l.au.map (·.b)++[sb]).length qc) 57,an b3 (b.cells a c) 41] ?_
  refine .aq fds [0] ?_
  refine .aq fds [1] ?_
  refine .aq fds [2] ?_
  refine .re 3 rfl (.ld aO rfl .p0 rfl) (.cons .p0 (.cons .p7 .nil)) ?_
  refine .re 4 rfl (.jy bh aM rfl .p1 rfl) (.cons .p0 (.cons .p7 .nil)) ?_
  refine .eg 5 rfl (.fn rfl rfl (.cons .p2 (.cons .p2 (.cons .p2 (.cons .p2 (.cons .p2 .nil))))) ((af.pick .p4 (k.mono fun _ h=>h.2))) (tJ db mb ((d.put l.ai.nm ⟨(d.file l.ai.nm).b,(d.file l.ai.nm).b.length⟩).put (nameOf l.pre l.next.toNat) ⟨flat [],(flat []).length⟩) (Sx.mk sb (nameOf l.pre l.next.toNat) ((l.next.toNat:Nat):Int) [] sm aa ac ia ic) b a c DS Lz hb Ps (by show 0<4096;omega) (jM hl.pre (by show l.ai.next.toNat<10^10;omega)) (Dk.cB _ _ _) (by rw[Dk.aW]) Pt)) ?_
  rintro v _ ⟨G1,hq,rfl⟩
  obtain⟨rfl,tm,ta,tc,ua,uc,Pu,KC,rfl⟩:=hq
  simp only[ag,ae]
  refine aA ?_
  refine .aq fds [6] ?_
  refine .dn ?_
  refine .pack (L:=[an (Sx.mk sb (nameOf l.pre l.next.toNat) ((l.next.toNat:Nat):Int) ([]++[b]) tm ta tc ua uc).b ((Sx.mk sb (nameOf l.pre l.next.toNat) ((l.next.toNat:Nat):Int) ([]++[b]) tm ta tc ua uc).cells db) 110,arr 112 4 ta tc (Sx.mk sb (nameOf l.pre l.next.toNat) ((l.next.toNat:Nat):Int) ([]++[b]) tm ta tc ua uc).rows,arr 3 1 ua uc (tm.flatMap fJ)]) (.cons .p2 (.cons .p2 (.cons .p2 .nil))) ?_
  refine .close (X:=cD (SG db) (l.roll sb b tm ta tc ua uc qa qc).au) .JS (fun h H=>iI (bX:=l.au) (s:=(l.roll sb b tm ta tc ua uc qa qc).ai) H) ?_
  refine .perm .mJ ?_
  refine .ca (arr 54 1 qa qc ((l.roll sb b tm ta tc ua uc qa qc).au.flatMap sp)) (by rw[Bf];show _=arr 54 1 qa qc (((l.au++[_]).map fun s:Sx=>s.b).flatMap yu);rw[List.map_append];rfl) ?_
  refine .perm .mJ ?_
  refine .ca (an l.lb ((l.roll sb b tm ta tc ua uc qa qc).cells db) 57) (by rw[List.length_append,List.length_map];rfl) ?_
  refine .pack (L:=[an l.lb ((l.roll sb b tm ta tc ua uc qa qc).cells db) 57,arr 54 1 qa qc ((l.roll sb b tm ta tc ua uc qa qc).au.flatMap sp),cD (SG db) (l.roll sb b tm ta tc ua uc qa qc).au]) .ez ?_
  refine .aF Tryz.func80 (.t1 rfl) .kp ?_
  exact⟨[_,_,_],⟨rfl,.inr ⟨rf,sb,tm,ta,tc,ua,uc,qa,qc,Pu,KC,rfl⟩⟩,rfl⟩
 ·
  refine .rd (.jy bh aM rfl .p0 rfl) ?_
  refine .fn rfl rfl .nil ah (vj b a c (by omega) (by omega) (by omega)) (fun v G1 hq=>?_)
  obtain⟨rfl,rfl⟩:=hq
  simp only[ae]
  refine .rd (.gt rfl rfl) ?_
  refine .al 27 (.bool false) rfl (aE (by omega)) ?_
  refine .aH fds 5 ?_
  refine .dr [3,8,14,19] [an l.lb (l.cells db) 57] ?_
  refine .aq fds [0] ?_
  refine .aq fds [1] ?_
  refine .aq fds [2] ?_
  refine .re 3 rfl (.ld aO rfl .p0 rfl) .q5 ?_
  refine .aq fds [5] ?_
  refine .aq fds [6] ?_
  refine .aq fds [7] ?_
  refine .re 8 rfl (.ld aj rfl .p0 rfl) .q5 ?_
  refine .eg 4 rfl (.fn rfl rfl (.cons .p7 (.cons .p7 .nil)) ((af.an .p1).and ((af.arr .p2).and (af.arr .p3))) (nv db mb d l.ai)) ?_
  rintro v _ ⟨G1,hq,rfl⟩
  obtain⟨rfl,rfl⟩:=hq
  simp only[ag,ae]
  refine⟨.inr ⟨_,.q7⟩,?_⟩
  refine .aq fds [9] ?_
  refine .al 37 (.bool false) rfl (aE rf) ?_
  refine .aq fds [10] ?_
  refine .aq fds [11] ?_
  refine .aq fds [12] ?_
  refine .aq fds [13] ?_
  refine .si 14 (t:=38) rfl rfl rfl rfl (by kernel_rfl) (by kernel_rfl) (by kernel_rfl) (.ld aO rfl .p0 rfl) .q7 ?_
  refine .aq fds [16] ?_
  refine .aq fds [17] ?_
  refine .aq fds [18] ?_
  refine .si 19 (t:=38) rfl rfl rfl rfl (by kernel_rfl) (by kernel_rfl) (by kernel_rfl) (.ld aO rfl .p0 rfl) .q7 ?_
  refine .GC 15 (t:=38) (by kernel_rfl) rfl rfl rfl (.fn rfl rfl .nil ((af.an .p3).and ((af.arr .p4).and (af.arr .p5))) (bY db l.ai iJ)) ?_
  rintro v _ ⟨G1,hq,rfl⟩
  obtain⟨rfl,rfl⟩:=hq
  simp only[ae]
  refine⟨.inr ⟨_,.q7⟩,?_⟩
  refine .GC 20 (t:=38) (by kernel_rfl) rfl rfl rfl (.fn rfl rfl .nil ((af.an .p3).and ((af.arr .p4).and (af.arr .p5))) (kW db l.ai)) ?_
  rintro v _ ⟨G1,hq,rfl⟩
  obtain⟨rfl,rfl⟩:=hq
  simp only[ae]
  refine aA ?_
  refine .sL 21 (t:=38) rfl rfl rfl (by kernel_rfl) (by kernel_rfl) (by kernel_rfl) (Reads.pure (.sub rfl rfl (by omega) (by omega))) ?_
  refine .aq fds [22] ?_
  refine .al 50 (.bool false) rfl (aE (by show¬_;have:l.next=l.ai.next:=rfl;omega)) ?_
  refine .aq fds [23] ?_
  refine .aq fds [24] ?_
  refine .dn ?_
  refine .seq ?_
  refine .dr [5,10] [an l.lb (l.cells db) 57] ?_
  refine .aq fds [0] ?_
  refine .aq fds [1,2,3,4,5,6,7,8,9,10,11,12] ?_
  refine .aq fds [13] ?_
  refine .dn ?_
  refine .go fds 3 ?_
  refine .dr [3,4] [an l.lb (l.cells db) 57,an b3 (b.cells a c) 41] ?_
  refine .aq fds [0] ?_
  refine .aq fds [1] ?_
  refine .aq fds [2] ?_
  refine .re 3 rfl (.ld aO rfl .p0 rfl) (.cons .p7 (.cons .p2 .nil)) ?_
  refine .re 4 rfl (.jy bh aM rfl .p1 rfl) (.cons .p7 (.cons .p2 .nil)) ?_
  refine .eg 5 rfl (.fn rfl rfl (.cons .p0 (.cons .p0 (.cons .p1 (.cons .p1 (.cons .p1 .nil))))) ((af.pick .p4 (k.mono fun _ h=>h.2))) (tJ db mb d l.ai b a c hd iJ hb oB y4 (by rw[IL];exact jM hl.pre (by have:=iJ.ei;have:=iJ.bD;omega)) QS Nc fw)) ?_
  rintro v _ ⟨G1,hq,rfl⟩
  obtain⟨rfl,tm,ta,tc,ua,uc,Pu,KC,rfl⟩:=hq
  simp only[ag,ae]
  refine aA ?_
  refine .aq fds [6] ?_
  refine .dn ?_
  refine .pack (L:=[an (Sx.mk l.ai.b l.ai.nm l.ai.base (l.ai.bs++[b]) tm ta tc ua uc).b ((Sx.mk l.ai.b l.ai.nm l.ai.base (l.ai.bs++[b]) tm ta tc ua uc).cells db) 110,arr 112 4 ta tc (Sx.mk l.ai.b l.ai.nm l.ai.base (l.ai.bs++[b]) tm ta tc ua uc).rows,arr 3 1 ua uc (tm.flatMap fJ)]) (.cons .p2 (.cons .p2 (.cons .p2 .nil))) ?_
  refine .close (X:=cD (SG db) (l.grow b tm ta tc ua uc).au) .Lw (fun h H=>iI (bX:=l.bX) (s:=(l.grow b tm ta tc ua uc).ai) H) ?_
  refine .perm .iE ?_
  refine .ca (arr 54 1 l.la l.lc ((l.grow b tm ta tc ua uc).au.flatMap sp)) (by rw[Ib]) ?_
  refine .perm .iE ?_
  refine .ca (an l.lb ((l.grow b tm ta tc ua uc).cells db) 57) (rfl) ?_
  refine .pack (L:=[an l.lb ((l.grow b tm ta tc ua uc).cells db) 57,arr 54 1 l.la l.lc ((l.grow b tm ta tc ua uc).au.flatMap sp),cD (SG db) (l.grow b tm ta tc ua uc).au]) .ez ?_
  refine .aF Tryz.func80 (.t1 rfl) .kp ?_
  exact⟨[_,_,_],⟨rfl,.inl ⟨rf,tm,ta,tc,ua,uc,Pu,KC,rfl⟩⟩,rfl⟩
def KM(db mb:Nat)(d:Dk)(l:Lx)(b:aR)(G:List ak):Prop:=(¬l.most≤((d.file l.ai.nm).b.length:Int)∧∃sm aa ac ia ic,Ix sm (l.ai.bs.length+1)∧l.ai.bs.length+1≤ac∧G=[LG db (l.grow b sm aa ac ia ic),an db ((d.put l.ai.nm ⟨(d.file l.ai.nm).b++enc b,(d.file l.ai.nm).safe⟩).cells mb) 74,mp aY Fl.val mb (d.put l.ai.nm ⟨(d.file l.ai.nm).b++enc b,(d.file l.ai.nm).safe⟩).fs])∨(l.most≤((d.file l.ai.nm).b.length:Int)∧∃sb sm aa ac ia ic qa qc,Ix sm 1∧1≤ac∧G=[LG db (l.roll sb b sm aa ac ia ic qa qc),an db ((((d.put l.ai.nm ⟨(d.file l.ai.nm).b,(d.file l.ai.nm).b.length⟩).put (nameOf l.pre l.next.toNat) ⟨flat [],(flat []).length⟩).put (nameOf l.pre l.next.toNat) ⟨(((d.put l.ai.nm ⟨(d.file l.ai.nm).b,(d.file l.ai.nm).b.length⟩).put (nameOf l.pre l.next.toNat) ⟨flat [],(flat []).length⟩).file (nameOf l.pre l.next.toNat)).b++enc b,(((d.put l.ai.nm ⟨(d.file l.ai.nm).b,(d.file l.ai.nm).b.length⟩).put (nameOf l.pre l.next.toNat) ⟨flat [],(flat []).length⟩).file (nameOf l.pre l.next.toNat)).safe⟩).cells mb) 74,mp aY Fl.val mb (((d.put l.ai.nm ⟨(d.file l.ai.nm).b,(d.file l.ai.nm).b.length⟩).put (nameOf l.pre l.next.toNat) ⟨flat [],(flat []).length⟩).put (nameOf l.pre l.next.toNat) ⟨(((d.put l.ai.nm ⟨(d.file l.ai.nm).b,(d.file l.ai.nm).b.length⟩).put (nameOf l.pre l.next.toNat) ⟨flat [],(flat []).length⟩).file (nameOf l.pre l.next.toNat)).b++enc b,(((d.put l.ai.nm ⟨(d.file l.ai.nm).b,(d.file l.ai.nm).b.length⟩).put (nameOf l.pre l.next.toNat) ⟨flat [],(flat []).length⟩).file (nameOf l.pre l.next.toNat)).safe⟩).fs])
def sb(n:Nat)(u:Int):aR:={KI n with base:=u}
theorem kZ(n:Nat)(u:Int):(sb n u).aU.length=n:=List.length_replicate ..
theorem Nd(n:Nat)(u:Int):(sb n u).en=u+n:=by unfold aR.en;rw[kZ];rfl
theorem oF{n:Nat}{u:Int}{r:Rec}(h:r∈(sb n u).aU):r=nD:=List.eq_of_mem_replicate h
theorem Bg{n:Nat}{u:Int}(hn:n≤64)(h0:0≤u)(h1:u≤1000000000):(sb n u).fits:=by
 refine⟨⟨by show _≤u;omega,by show u≤_;omega⟩,⟨by show _≤(1:Int);decide,by show(1:Int)≤_;decide⟩,⟨by show _≤(0:Int);decide,by show(0:Int)≤_;decide⟩,⟨by show _≤(0:Int);decide,by show(0:Int)≤_;decide⟩,⟨by show _≤(0:Int);decide,by show(0:Int)≤_;decide⟩,fun r hr=>?_,fun r hr=>?_,fun r hr=>?_,by rw[kZ];omega⟩
 ·
  rw[oF hr];exact⟨by decide,by decide⟩
 ·
  rw[oF hr];decide
 ·
  rw[oF hr];decide
theorem Jq:(bW nD).length=8:=by
 unfold bW nD aG
 rw[show AE 0=0 from rfl,show AE ((([]:List UInt8).length:Nat):Int)=0 from rfl,show AE ((([118,97,108,117,101]:List UInt8).length:Nat):Int)=10 from rfl,fY (by decide),fY (by decide)]
 rfl
theorem Bh{n:Nat}{u:Int}(hn:n≤64)(h0:0≤u)(h1:u≤1000000000):(body (sb n u)).length≤60+n*8:=by
 have h2:=pz (Bg hn h0 h1) 6
 rw[show(j0 (sb n u)).take 6=j0 (sb n u)from rfl]at h2
 have h3:=eX (f:=bW) (k:=8) (sb n u).aU fun r hr=>by rw[oF hr,Jq];exact Nat.le_refl _
 rw[kZ]at h3
 rw[qF,List.length_append];omega
theorem Fo{n:Nat}{u:Int}(N5:1≤n)(hn:n≤64)(h0:0≤u)(h1:u≤100000000):right (sb n u)=0:=by
 have hb:=Bh hn h0 (show u≤1000000000 by omega)
 rw[kw (b:=sb n u) _ (fun r hr=>by rw[oF hr];exact⟨by decide,by decide⟩),if_neg (by rw[kZ];omega),if_neg,if_neg,if_neg (by omega)]
 ·
  rw[kZ];show¬(_<u∨_<(0:Int));omega
 ·
  intro h
  obtain⟨r,hr,h2⟩:=List.any_eq_true.1 h
  rw[oF hr]at h2;exact absurd h2 (by decide)
 ·
  unfold aR.off
  rw[kZ]
  show¬(u<0∨¬((0:Int)≤1∧(1:Int)≤1000000000)∨¬((0:Int)≤0∧(0:Int)≤1000000000)∨¬((0:Int)≤0∧(0:Int)≤1000000000)∨¬((0:Int)≤0∧(0:Int)≤1000000000)∨((0:Int)=0∧((0:Int)≠0∨(0:Int)≠0))∨n=0)
  omega
theorem IM{n:Nat}{u:Int}(N5:1≤n)(hn:n≤64)(h0:0≤u)(h1:u≤100000000):(sb n u).aT:=⟨Fo N5 hn h0 h1,Bg hn h0 (by omega),by rw[Nd];omega⟩
theorem Pv{n:Nat}{u:Int}(N5:1≤n)(hn:n≤64)(h0:0≤u)(h1:u≤100000000):(enc (sb n u)).length≤68+n*8:=by
 rw[(IM N5 hn h0 h1).pG];have:=Bh hn h0 (show u≤1000000000 by omega);omega
structure jW(l:Lx)(d:Dk)(b:aR)(l':Lx)(d':Dk):Prop where
 ok:l'.ok d'
 cR:d'.ok
 lb:l'.lb=l.lb
 pre:l'.pre=l.pre
 most:l'.most=l.most
 start:l'.start=l.start
 aJ:l'.aJ=l.aJ
 all:l'.all=l.all++[b]
 base:a8 l'=a8 l
 next:l'.next=b.en
 size:d'.size=d.size
 used:d'.used=d.used+(enc b).length
 len:d'.fs.length≤d.fs.length+1
 own:mr l' d'
 full:Full l d→Full l' d'
 eF:∀n,(∀u,u≤1000000000→n≠nameOf l.pre u)→d'.file n=d.file n∧d'.get n=d.get n
 QT:(¬l.most≤((d.file l.ai.nm).b.length:Int)∧l'.bX=l.bX∧l'.ai.bs=l.ai.bs++[b]∧l'.ai.base=l.ai.base∧l'.ai.nm=l.ai.nm∧(d'.file l'.ai.nm).safe=(d.file l.ai.nm).safe)∨(l.most≤((d.file l.ai.nm).b.length:Int)∧l'.bX=l.au∧l'.ai.bs=[b]∧l'.ai.base=l.next∧(d'.file l'.ai.nm).safe=0)
theorem Cv{l:Lx}{d:Dk}(h:l.ok d):(l.ai.bs.length:Int)≤l.next-l.ai.base:=by
 have key:∀(bs:List aR) (n:Int),bT n bs→(∀b∈bs,b.aT)→(bs.length:Int)≤aC n bs-n:=by
  intro bs
  induction bs with
  |nil=>intro n _ _;show(0:Int)≤n-n;omega
  |cons b bs ih=>
   intro n hc hg
   have h1:=ih b.en hc.2 fun x hx=>hg x (.tail _ hx)
   have h2:=(hg b (.head _)).lt
   have h3:b.base=n:=hc.1
   rw[List.length_cons]
   show((bs.length+1:Nat):Int)≤aC b.en bs-n
   omega
 exact key _ _ h.ai.1.chain h.ai.1.aT
theorem xG{l:Lx}{d:Dk}(hl:l.ok d)(ho:mr l d)(f:Fl)(hf:f.b=(d.file l.ai.nm).b):((d.put l.ai.nm f).file (nameOf l.pre l.next.toNat)).b=[]:=by
 obtain⟨h1,h2,h3,h4⟩:=hl.ai
 have mh:=h1.bD
 have yj:=h1.kU
 have hle:=h1.eC
 have Gj:l.next=l.ai.next:=rfl
 have tK:∀s∈l.au,s.base.toNat=l.next.toNat→l.ai.bs=[]:=fun s hs e=>by
  rcases List.mem_append.1 hs with hs|hs
  ·
   have:=hl.lt.2 s hs;have:=(hl.bX s hs).1.bD;omega
  ·
   rw[List.mem_singleton.1 hs]at e
   by_cases dx:l.ai.bs=[]
   ·
    exact dx
   ·
    have:=ie h1 dx;omega
 by_cases hn:nameOf l.pre l.next.toNat=l.ai.nm
 ·
  rw[hn,Dk.aW,hf,h4]
  rw[h2]at hn
  rw[tK l.ai l.cF (ci hn).symm];rfl
 ·
  rw[(Dk.aK _ _ hn).1]
  cases hg:(d.get (nameOf l.pre l.next.toNat)).isSome with
  |false=>rw[Dk.dK hg];rfl
  |true=>
   obtain⟨s,hs,e⟩:=ho _ (by omega) hg
   rw[←e,←(hl.gP s hs).2.1,(hl.gP s hs).2.2.2]
   have hc:=tK s hs e
   rcases List.mem_append.1 hs with hi|hi
   ·
    have:=hl.lt.2 s hi;have:=(hl.bX s hi).1.bD;omega
   ·
    rw[List.mem_singleton.1 hi,hc];rfl
theorem jW.of{db mb:Nat}{d:Dk}{l:Lx}{b:aR}{G:List ak}(hd:d.ok)(hl:l.ok d)(ho:mr l d)(hb:b.aT)(hn:b.base=l.next)(y4:l.ai.bs.length<4096)(hlen:l.au.length<100000)(fw:d.used+(enc b).length≤d.size)(h:KM db mb d l b G):∃l' d',jW l d b l' d'∧G=[LG db l',an db (d'.cells mb) 74,mp aY Fl.val mb d'.fs]:=by
 obtain⟨c1,c2,c3,c4⟩:=hl.ai
 have LC:=Dk.nX hd l.ai.nm
 have hle:=c1.eC
 have yj:=c1.kU
 have mh:=c1.bD
 have Gj:l.next=l.ai.next:=rfl
 rcases h with⟨hm,sm,aa,ac,ia,ic,iM,qQ,rfl⟩|⟨hm,sb,sm,aa,ac,ia,ic,qa,qc,iM,qQ,rfl⟩
 ·
  refine⟨l.grow b sm aa ac ia ic,d.put l.ai.nm ⟨(d.file l.ai.nm).b++enc b,(d.file l.ai.nm).safe⟩,?_,rfl⟩
  have hu:=Dk.cc hd l.ai.nm ⟨(d.file l.ai.nm).b++enc b,(d.file l.ai.nm).safe⟩
  dsimp only at hu
  rw[List.length_append]at hu
  refine⟨Ic hl hb hn y4 iM qQ,Dk.dO hd (by dsimp only;rw[List.length_append];omega) (by dsimp only;rw[List.length_append];omega),rfl,rfl,rfl,rfl,rfl,EH ..,om ..,ol ..,rfl,by omega,gE _ _ _,fun u hu hg=>?_,fun hf s hs=>?_,fun n hn=>Dk.aK _ _ fun e=>hn l.ai.base.toNat (by omega) (e.trans c2),.inl ⟨hm,rfl,rfl,rfl,rfl,by show((d.put l.ai.nm _).file l.ai.nm).safe=_;rw[Dk.aW]⟩⟩
  ·
   have Ct:(d.get (nameOf l.pre u)).isSome=true:=by
    by_cases hx:nameOf l.pre u=l.ai.nm
    ·
     rw[hx];exact c3
    ·
     rw[←(Dk.aK d _ hx).2];exact hg
   obtain⟨s,hs,e⟩:=ho u hu Ct
   rcases List.mem_append.1 hs with hs|hs
   ·
    exact⟨s,List.mem_append_left _ hs,e⟩
   ·
    rw[List.mem_singleton.1 hs]at e
    exact⟨_,List.mem_append_right _ (.head _),e⟩
  ·
   rw[(Dk.aK d _ (hl.kD hs)).1];exact hf s hs
 ·
  generalize Lt:(⟨(d.file l.ai.nm).b,(d.file l.ai.nm).b.length⟩:Fl)=f1
  have AI:(d.put l.ai.nm f1).ok:=by rw[←Lt];exact Dk.dO hd (by dsimp only;have:=hd.used;omega) (Nat.le_refl _)
  have gL:f1.b=(d.file l.ai.nm).b:=by rw[←Lt]
  have N6:=Dk.cc hd l.ai.nm f1
  rw[gL]at N6
  have qm:=xG hl ho f1 gL
  have Gl:=Dk.cc AI (nameOf l.pre l.next.toNat) ⟨flat [],(flat []).length⟩
  rw[qm,List.length_nil]at Gl
  have DS:((d.put l.ai.nm f1).put (nameOf l.pre l.next.toNat) ⟨flat [],(flat []).length⟩).ok:=Dk.dO AI (by have:=AI.used;show _+0≤_;omega) (Nat.le_refl _)
  generalize LF:(d.put l.ai.nm f1).put (nameOf l.pre l.next.toNat) ⟨flat [],(flat []).length⟩=d2 at*
  have Lu:d2.file (nameOf l.pre l.next.toNat)=⟨flat [],(flat []).length⟩:=by rw[←LF,Dk.aW]
  have Mt:d2.size=d.size:=by rw[←LF];rfl
  rw[Lu]
  have Pw:=Dk.cc DS (nameOf l.pre l.next.toNat) ⟨flat []++enc b,(flat []).length⟩
  rw[Lu]at Pw
  have hz:(flat []).length=0:=rfl
  dsimp only at Pw Gl
  rw[List.length_append]at Pw
  have KK:∀s∈l.au,s.nm≠nameOf l.pre l.next.toNat:=fun s hs e=>by
   have dx:l.ai.bs≠[]:=fun e=>by rw[c4,e]at hm;have:=hl.most;omega
   have M0:=ie c1 dx
   obtain⟨k1,k2,_,_⟩:=hl.gP s hs
   rw[k2]at e
   have:=ci e
   have:=k1.bD
   rcases List.mem_append.1 hs with hs|hs
   ·
    have:=hl.lt.2 s hs;omega
   ·
    have M1:=List.mem_singleton.1 hs;subst M1;omega
  have eF:∀n,n≠nameOf l.pre l.next.toNat→(d2.put (nameOf l.pre l.next.toNat) ⟨flat []++enc b,(flat []).length⟩).file n=(d.put l.ai.nm f1).file n∧(d2.put (nameOf l.pre l.next.toNat) ⟨flat []++enc b,(flat []).length⟩).get n=(d.put l.ai.nm f1).get n:=fun n dx=>by
   obtain⟨a1,a2⟩:=Dk.aK d2 ⟨flat []++enc b,(flat []).length⟩ dx
   obtain⟨b1,b2⟩:=Dk.aK (d.put l.ai.nm f1) ⟨flat [],(flat []).length⟩ dx
   rw[LF]at b1 b2
   exact⟨a1.trans b1,a2.trans b2⟩
  refine⟨l.roll sb b sm aa ac ia ic qa qc,d2.put (nameOf l.pre l.next.toNat) ⟨flat []++enc b,(flat []).length⟩,?_,rfl⟩
  refine⟨Ie hl hb hn hm hlen iM qQ rfl LF.symm rfl gL rfl,Dk.dO DS (by dsimp only;rw[List.length_append,Mt];omega) (Nat.zero_le _),rfl,rfl,rfl,rfl,rfl,EI ..,ot ..,oq ..,Mt,by omega,?_,fun u hu hg=>?_,fun hf s hs=>?_,fun n hn=>?_,.inr ⟨hm,rfl,rfl,by show((l.next.toNat:Nat):Int)=l.next;omega,by show((d2.put _ _).file (nameOf l.pre l.next.toNat)).safe=0;rw[Dk.aW];rfl⟩⟩
  ·
   have e1:(d2.put (nameOf l.pre l.next.toNat) ⟨flat []++enc b,(flat []).length⟩).fs.length=d2.fs.length:=gF (by rw[←LF];exact Dk.cB _ _ _)
   have e2:(d.put l.ai.nm f1).fs.length=d.fs.length:=gF c3
   have e3:d2.fs.length≤(d.put l.ai.nm f1).fs.length+1:=by rw[←LF];exact gE _ _ _
   omega
  ·
   by_cases hx:nameOf l.pre u=nameOf l.pre l.next.toNat
   ·
    refine⟨(l.roll sb b sm aa ac ia ic qa qc).ai,(l.roll sb b sm aa ac ia ic qa qc).cF,?_⟩
    show((l.next.toNat:Nat):Int).toNat=u
    rw[Int.toNat_natCast];exact(ci hx).symm
   ·
    have Sq:((d.put l.ai.nm f1).get (nameOf l.pre u)).isSome=true:=by rw[←(eF _ hx).2];exact hg
    have Ct:(d.get (nameOf l.pre u)).isSome=true:=by
     by_cases hy:nameOf l.pre u=l.ai.nm
     ·
      rw[hy];exact c3
     ·
      rw[←(Dk.aK d f1 hy).2];exact Sq
    obtain⟨s,hs,e⟩:=ho u hu Ct
    exact⟨s,List.mem_append_left _ hs,e⟩
  ·
   rw[(eF s.nm (KK s hs)).1]
   rcases List.mem_append.1 hs with hi|hi
   ·
    rw[(Dk.aK d f1 (hl.kD hi)).1];exact hf s hi
   ·
    rw[List.mem_singleton.1 hi,Dk.aW,←Lt]
  ·
   obtain⟨a1,a2⟩:=eF n (hn _ (by omega))
   obtain⟨b1,b2⟩:=Dk.aK d f1 (show n≠l.ai.nm from fun e=>hn l.ai.base.toNat (by omega) (e.trans c2))
   exact⟨a1.trans b1,a2.trans b2⟩
theorem Fp(db mb:Nat)(d:Dk)(l:Lx)(b:aR)(a:Option Addr)(c:Nat)(hd:d.ok)(hl:l.ok d)(ho:mr l d)(hb:b.aT)(oB:b.base=l.next)(hn:l.next<4096)(fw:d.used+(enc b).length≤d.size)(KJ:d.fs.length<255)(hlen:l.au.length<100000):Cn Tryz.prog 80 [.pointer (some ⟨l.lb,0,none⟩),.agg (b.cells a c).toArray] (fun w=>LV w∧aB a (b.aU.flatMap Rec.cells) w) [LG db l,an db (d.cells mb) 74,mp aY Fl.val mb d.fs] fun v G=>∃l' d',v=.int .i64 0∧jW l d b l' d'∧G=[LG db l',an db (d'.cells mb) 74,mp aY Fl.val mb d'.fs]:=by
 have Da:=Cv hl
 have mh:=hl.ai.1.bD
 refine(IK db mb d l b a c hd hl hb oB (by omega) (by omega) fw KJ (xG hl ho _ rfl) ?_).mono fun v G h=>?_
 ·
  have:(d.put l.ai.nm ⟨(d.file l.ai.nm).b,(d.file l.ai.nm).b.length⟩).fs.length=d.fs.length:=gF hl.ai.2.2.1
  omega
 ·
  obtain⟨hv,h⟩:=h
  obtain⟨l',d',h1,h2⟩:=jW.of hd hl ho hb oB (by omega) hlen fw h
  exact⟨l',d',hv,h1,h2⟩
def pR(s:Sx)(off:Int)(i:Nat):Bool:=decide (off<((s.bs[s.sm.getD i 0]?).map (·.base)).getD 0)
theorem xH{s:Sx}{off:Int}{i j:Nat}{b:aR}(hj:s.sm[i]?=some j)(hb:s.bs[j]?=some b):pR s off i=decide (off<b.base):=by
 unfold pR;rw[List.getD_eq_getElem?_getD,hj];show decide (off<((s.bs[j]?).map (·.base)).getD 0)=_;rw[hb];rfl
theorem Sx.IN{s:Sx}(h:s.ok){i:Nat}(hi:i<s.sm.length):∃j b,s.sm[i]?=some j∧s.bs[j]?=some b:=by
 have hl:=h.ix.lt s.sm[i] (List.getElem_mem hi)
 exact⟨_,_,List.getElem?_eq_getElem hi,List.getElem?_eq_getElem hl⟩
theorem IP{s:Sx}(h:s.ok){off:Int}(a b:Nat)(D1:a≤b)(hb:b<s.sm.length)(hp:pR s off a=true):pR s off b=true:=by
 obtain⟨j,x,h1,h2⟩:=Sx.IN h (i:=a) (by omega)
 obtain⟨j',y,h3,h4⟩:=Sx.IN h hb
 rw[xH h1 h2]at hp;rw[xH h3 h4]
 have hj:j≤j':=by
  rcases Nat.lt_or_eq_of_le D1 with cP|rfl
  ·
   have:=List.pairwise_iff_getElem.1 h.ix.up a b (by omega) hb cP
   rw[List.getElem?_eq_getElem (by omega)]at h1 h3
   cases h1;cases h3;omega
  ·
   rw[h1]at h3;cases h3;exact Nat.le_refl _
 have:=Sx.BX h h2 h4 hj
 exact decide_eq_true (by have:=of_decide_eq_true hp;omega)
theorem Nf{db bx tD:Nat}{s:Sx}{z:Int}(h:s.ok)(i:Nat)(hi:i<s.sm.length):Cn Tryz.prog 84 [.int .i64 (i:Nat),.pointer (some ⟨bx,0,none⟩),.pointer (some ⟨tD,0,none⟩)] (fun w=>aN bx 0 [.pointer (some ⟨s.b,0,none⟩)] w∧aN tD 0 [.int .i64 z] w∧iV db s w) [] fun v G=>v=.bool (pR s z i)∧G=[]:=by
 obtain⟨j,b,h1,h2⟩:=Sx.IN h hi
 rw[xH h1 h2]
 exact ES db bx tD i j s z b h (by have:=Sx.AM h;have:=h.len;omega) h1 h2
theorem Cw{s:Sx}(h:s.ok){off most:Int}(h0:s.base≤off)(hp:∀q,0≤q→q<s.sm.length→pR s off q=true):aH off most 0 [] s.bs=[]:=by
 by_cases hn:0<s.bs.length
 ·
  have h1:=h.ix.zero hn
  have h2:=List.getElem?_eq_some_iff.1 h1
  have h3:=hp 0 (Nat.le_refl _) h2.1
  obtain⟨b,hb⟩:∃b,s.bs[0]?=some b:=⟨_,List.getElem?_eq_getElem hn⟩
  rw[xH h1 hb]at h3
  have h4:=Sx.uK h hb
  have h5:aC s.base (s.bs.take 0)=s.base:=rfl
  have:=of_decide_eq_true h3;omega
 ·
  have:s.bs=[]:=List.eq_nil_of_length_eq_zero (by omega)
  rw[this];rfl
theorem tL{b:aR}(hb:b.aT)(a:Option Addr)(c:Nat):Value.tuple #[.agg ((aX (enc b)).1.cells a c).toArray,.int .i64 (aX (enc b)).2.1,.int .i64 (aX (enc b)).2.2]=.tuple #[.agg (b.cells a c).toArray,.int .i64 ((enc b).length:Int),.int .i64 0]:=by
 have:=lR hb.fits hb.right []
 rw[List.append_nil]at this
 unfold enc;rw[this]
theorem tM{b:aR}(hb:b.aT):(aX (enc b)).1.aU=b.aU:=by
 have:=lR hb.fits hb.right []
 rw[List.append_nil]at this
 unfold enc;rw[this]
theorem rF(db mb:Nat)(d:Dk)(s:Sx)(off most:Int)(hs:s.ok)(hx:(d.get s.nm).isSome=true)(hf:(d.file s.nm).b=flat s.bs)(ho:i64 off):Cn Tryz.prog 47 [.pointer (some ⟨s.b,0,none⟩),.int .i64 off,.int .i64 most] (iV db s) [an db (d.cells mb) 74,mp aY Fl.val mb d.fs] fun v G=>∃(bl:List lg) (ra:Option Addr) (rc:Nat),bl.map (·.1)=gW s off most∧v=.slice ra bl.length rc∧G=[an db (d.cells mb) 74,mp aY Fl.val mb d.fs,arr 41 6 ra rc (bl.flatMap mY),bM (qP bl)]:=by
 refine .en Tryz.func47 fun R k=>?_
 have hl:=hs.len
 have oS:=Sx.AM hs
 have iC:=hs.cap
 have yo:=hs.kA
 have mh:=hs.bD
 obtain⟨Px,CR⟩:=ho
 refine .ax fds 2 ?_
 refine .ef (.box (l:=[.pointer (some ⟨s.b,0,none⟩)]) rfl rfl (ay.of rfl)) ?_
 rintro _ _ ⟨b3,rfl,rfl⟩
 refine .ef (.box (l:=[.int .i64 off]) rfl rfl (ay.of rfl)) ?_
 rintro _ _ ⟨b4,rfl,rfl⟩
 refine .aH fds 4 ?_
 refine .dr [0,1,4] [an b3 [.pointer (some ⟨s.b,0,none⟩)] 54,an b4 [.int .i64 off] 3,R] ?_
 refine .re 0 rfl (.ld aj rfl .p1 rfl) (.cons .p1 (.cons .p0 (.cons .p2 .nil))) ?_
 refine .re 1 rfl (.ld aO rfl .p0 rfl) (.cons .p1 (.cons .p0 (.cons .p2 .nil))) ?_
 refine .aq fds [2] ?_
 refine .aq fds [3] ?_
 refine .re 4 rfl (.load aj rfl (af.one (i:=2) (af.pick .p2 (k.mono fun _ h=>h.1)) rfl)) (.cons .p1 (.cons .p0 (.cons .p2 .nil))) ?_
 refine .aq fds [5] ?_
 refine .dn ?_
 refine .aL rfl (fun c1=>?_) (fun c1=>?_)
 ·
  refine .go fds 4 ?_
  refine .cn 41 6 none ?_
  refine .lq (qP []) (qP.nil) ?_
  refine .aF Tryz.func47 (.t1 rfl) (.cons .p4 (.cons .p4 (.cons .p1 (.cons .p0 (.cons .p2 .nil))))) ?_
  exact⟨[_,_,_,_],⟨[],none,0,(if_pos c1).symm,rfl,rfl⟩,rfl⟩
 ·
  refine .go fds 2 ?_
  refine .dr [0,3,4,7] [an b3 [.pointer (some ⟨s.b,0,none⟩)] 54,R] ?_
  refine .re 0 rfl (.ld aO rfl .p0 rfl) .Mx ?_
  refine .aq fds [1] ?_
  refine .aq fds [2] ?_
  refine .re 3 rfl (.load di rfl (af.one (i:=0) (af.pick .p1 (k.mono fun _ h=>h.1)) rfl)) .Mx ?_
  refine .re 4 rfl (.ld aO rfl .p0 rfl) .Mx ?_
  refine .aq fds [5] ?_
  refine .aq fds [6] ?_
  refine .re 7 rfl (.load aS rfl (af.one (i:=1) (af.pick .p1 (k.mono fun _ h=>h.1)) rfl)) .Mx ?_
  refine .eg 8 rfl (.fn rfl rfl .GM ah (jN db mb d s.nm)) ?_
  rintro v _ ⟨G1,hq,rfl⟩
  obtain⟨rfl,rfl⟩:=hq
  simp only[ag,ae]
  refine aA ?_
  refine .al 32 (.tuple #[.string (str (flat s.bs)),.int .i64 0]) rfl (by rw[hf,if_pos hx]) ?_
  refine .aq fds [9] ?_
  refine .aq fds [10] ?_
  refine .aq fds [11] ?_
  refine .aq fds [12] ?_
  refine .aq fds [13] ?_
  refine .dn ?_
  refine .ax fds 2 ?_
  refine .rd (.ld aO rfl .p3 rfl) ?_
  refine .go fds 2 ?_
  refine .rd (.load iT rfl (af.one (i:=4) (af.pick .p4 (k.mono fun _ h=>h.1)) rfl)) ?_
  refine .rd (.bK rfl rfl Tryz.underlying31 rfl) ?_
  refine .rd (.makeFunc (cs:=[.pointer (some ⟨b3,0,none⟩),.pointer (some ⟨b4,0,none⟩)]) rfl rfl) ?_
  refine .fn rfl rfl .nil ((af.an .p3).and ((af.an .p2).and (af.pick .p4 k))) (oA s.sm.length (by omega) (pR s off) (IP hs) (fun w=>aN b3 0 [.pointer (some ⟨s.b,0,none⟩)] w∧aN b4 0 [.int .i64 off] w∧iV db s w) 84 #[.pointer (some ⟨b3,0,none⟩),.pointer (some ⟨b4,0,none⟩)] (Nf hs)) (fun v G1 hq=>?_)
  obtain⟨z,hz,Ea,AS,rfl,rfl⟩:=hq
  simp only[ae]
  refine .rd (.sub rfl rfl (by omega) (by omega)) ?_
  refine .aH fds 8 ?_
  refine .aL rfl (fun c5=>?_) (fun c5=>?_)
  ·
   refine .go fds 4 ?_
   refine .cn 41 6 none ?_
   refine .lq (qP []) (qP.nil) ?_
   refine .aF Tryz.func47 (.t1 rfl) (.cons .p2 (.cons .p2 (.cons .p1 (.cons .p0 (.cons .p2 .nil))))) ?_
   exact⟨[_,_,_,_],⟨[],none,0,((if_neg c1).trans (Cw hs (by omega) fun q _ hq=>AS q (by omega) hq)).symm,rfl,rfl⟩,rfl⟩
  ·
   refine .go fds 2 ?_
   have Py:0<z:=by omega
   obtain⟨j,y,hj,hy⟩:=Sx.IN hs (i:=z-1) (by omega)
   have Sr:y.base≤off:=by have:=Ea (z-1) (by omega);rw[xH hj hy]at this;have:=of_decide_eq_false this;omega
   have Ae:=(List.getElem?_eq_some_iff.1 hy).1
   have Ng:=Sx.skip hs hy Sr most
   refine .tell (φ:=∃b o,s.aa=some ⟨b,o,none⟩) (af.pick .p4 (k.mono fun _ h=>aB.addr h.2.1 (by rw[Sx.eP];omega))) (fun hh=>?_)
   obtain⟨b9,o9,h9⟩:=hh
   refine .tell (φ:=∃b o,s.ia=some ⟨b,o,none⟩) (af.pick .p4 (k.mono fun _ h=>aB.addr h.2.2 (by rw[Sx.pJ];omega))) (fun hh=>?_)
   obtain⟨b8,o8,h8⟩:=hh
   refine .go fds 9 ?_
   refine .dr [0,3,4,7,10] [an b3 [.pointer (some ⟨s.b,0,none⟩)] 54,R] ?_
   refine .re 0 rfl (.ld aO rfl .p0 rfl) .vL ?_
   refine .aq fds [1] ?_
   refine .aq fds [2] ?_
   refine .re 3 rfl (.load dz rfl (af.one (i:=3) (af.pick .p1 (k.mono fun _ h=>h.1)) rfl)) .vL ?_
   refine .re 4 rfl (.ld aO rfl .p0 rfl) .vL ?_
   refine .aq fds [5] ?_
   refine .aq fds [6] ?_
   refine .re 7 rfl (.load iT rfl (af.one (i:=4) (af.pick .p1 (k.mono fun _ h=>h.1)) rfl)) .vL ?_
   refine .aq fds [8] ?_
   refine .al 53 (.int .i64 ((z-1:Nat))) rfl (congrArg (Value.int .i64) (by omega)) ?_
   refine .rq 9 rfl (.indexAddr (b:=b8) (o:=o8) Tryz.underlying31 bQ (by show some (Value.slice (s.ia) _ _)=_;rw[h8]) rfl (by omega) (by omega)) ?_
   refine .re 10 rfl (.load aj rfl (af.one (i:=0) (af.elem (f:=fJ) dS (by decide) (af.pick .p1 (k.mono fun _ h=>h8▸h.2.2)) (hj)) rfl)) .vL ?_
   refine .rq 11 rfl (.slice (l:=j) (h:=s.bs.length) (m:=s.ac) Tryz.underlying108 eV rfl rfl ⟨rfl,rfl⟩ ⟨_,rfl⟩ (by omega) (by omega) (by omega)) ?_
   refine .al 56 (.slice (some ⟨b9,o9+j*4,none⟩) (s.bs.length-j) (s.ac-j)) rfl (by rw[if_neg (by omega),h9];simp[cA]) ?_
   refine .rq 12 rfl (.bK rfl rfl Tryz.underlying108 rfl) ?_
   refine .aq fds [13] ?_
   refine .dn ?_
   refine .cn 41 6 none ?_
   refine .lq (qP []) (qP.nil) ?_
   refine .block ?_
   refine .loop (σ:=Nat×Int×List lg×Option Addr×Nat) (fun⟨i,sum,bl,ra,rc⟩=>j+i≤s.bs.length∧aH off most sum (bl.map (·.1)) (s.bs.drop (j+i))=aH off most 0 [] s.bs∧bl.length≤i∧0≤sum∧sum≤((flat (s.bs.take (j+i))).length:Int)) (fun⟨i,sum,bl,ra,rc⟩=>s.bs.length-i) (fun⟨i,sum,bl,ra,rc⟩=>[(2,.int .i64 most),(4,.pointer (some ⟨b4,0,none⟩)),(7,.string (str (flat s.bs))),(56,.slice (some ⟨b9,o9+j*4,none⟩) (s.bs.length-j) (s.ac-j)),(57,.int .i64 ((s.bs.length-j:Nat):Int)),(10,.slice ra bl.length rc),(11,.int .i64 sum),(58,.int .i64 (i:Nat))]) (fun⟨i,sum,bl,ra,rc⟩=>[an b4 [.int .i64 off] 3,arr 41 6 ra rc (bl.flatMap mY),bM (qP bl),an db (d.cells mb) 74,mp aY Fl.val mb d.fs,R]) (0,0,[],none,0) ⟨by omega,Ng,Nat.le_refl _,Int.le_refl _,by omega⟩ .r8 (.cons .p4 (.cons .p1 (.cons .p0 (.cons .p0 (.cons .p0 (.cons .p1 .nil)))))) (fun s' hI ih=>?_)
   obtain⟨i,sum,bl,ra,rc⟩:=s'
   dsimp only at hI ih⊢
   obtain⟨fU,hg,Nh,Ab,Df⟩:=hI
   refine .go fds 5 ?_
   refine .aL rfl (fun KN=>?_) (fun KN=>?_)
   ·
    refine .go fds 4 ?_
    obtain⟨b,hb⟩:∃b,s.bs[j+i]?=some b:=⟨_,List.getElem?_eq_getElem (by omega)⟩
    have vI:s.bs.drop (j+i)=b::s.bs.drop (j+(i+1)):=by obtain⟨h1,h2⟩:=List.getElem?_eq_some_iff.1 hb;rw[←h2];exact List.drop_eq_getElem_cons h1
    have yq:=hs.aT b (List.mem_of_getElem? hb)
    have Sm:=wK hb
    have yn:=yq.uI
    have C2:(flat (s.bs.take (j+(i+1)))).length=(flat (s.bs.take (j+i))).length+(enc b).length:=BY hb
    refine .region ?_
    refine .rd (.indexAddr (b:=b9) (o:=o9+j*4) Tryz.underlying108 eV rfl rfl (by omega) (by omega)) ?_
    refine .al 60 (.pointer (some ⟨b9,o9+(j+i)*4,none⟩)) rfl (congrArg (fun n=>Value.pointer (some ⟨b9,n,none⟩)) (by rw[Int.toNat_natCast];omega)) ?_
    refine .rd (.fS uz eV rfl rfl (af.elem (f:=One.cells) One.bV (by decide) (af.pick .p5 (k.mono fun _ h=>h9▸h.2.1)) (nV hb))) ?_
    refine .ef (.alloc mO rfl (ay.of rfl)) ?_
    rintro _ _ ⟨Ss,rfl,rfl⟩
    refine .cU (.storeAll eV rfl rfl (by rfl) .p0 rfl (ay.of rfl)) ?_
    rintro _ _ rfl
    refine .nil ?_
    refine .ca (an Ss (One.mk b.base b.en (flat (s.bs.take (j+i))).length ((flat (s.bs.take (j+i))).length+(enc b).length)).cells 112) (rfl) ?_
    refine .ax fds 4 ?_
    refine .rd (.ld aj rfl .p0 rfl) ?_
    refine .rd (.ld aj rfl .p1 rfl) ?_
    refine .aH fds 2 ?_
    refine .aL rfl (fun c12=>?_) (fun c12=>?_)
    ·
     refine .ax fds 2 ?_
     refine .rd (.add rfl rfl (by omega) (by omega)) ?_
     refine .aH fds 2 ?_
     have Gq:j+(i+1)≤s.bs.length∧aH off most (sum) ((bl).map (·.1)) (s.bs.drop (j+(i+1)))=aH off most 0 [] s.bs∧(bl).length≤i+1∧0≤sum∧sum≤((flat (s.bs.take (j+(i+1)))).length:Int):=⟨by omega,by rw[←hg,vI,iF,if_pos (show b.en≤off from c12)],by omega,Ab,by omega⟩
     exact(ih (i+1,sum,bl,ra,rc) Gq (by show s.bs.length-(i+1)<s.bs.length-i;omega)).to (.cons rfl (.cons rfl (.cons rfl (.cons rfl (.cons rfl (.cons (by first|rfl|(show _=some (Value.slice _ (List.length _) _);rw[List.length_append];rfl)) .r2)))))) (.cons .p1 (.cons .p1 (.cons .p1 (.cons .p1 (.cons .p1 (.cons .p1 .nil))))))
    ·
     have Dz:¬b.en≤off:=c12
     refine .ax fds 5 ?_
     refine .rd (.ld aj rfl .p0 rfl) ?_
     refine .al 68 (.int .i64 (((flat (s.bs.take (j+i))).length+(enc b).length:Nat):Int)) rfl (rfl) ?_
     refine .rd (.fieldAddr G9 rfl) ?_
     refine .rd (.ld aj rfl .p0 rfl) ?_
     refine .al 70 (.int .i64 ((flat (s.bs.take (j+i))).length:Int)) rfl (rfl) ?_
     refine .rd (.sub rfl rfl (by omega) (by omega)) ?_
     refine .rd (.add rfl rfl (by omega) (by omega)) ?_
     refine .al 72 (.int .i64 (sum+(enc b).length)) rfl (congrArg (Value.int .i64) (by omega)) ?_
     refine .ax fds 6 ?_
     refine .rd (.bK rfl rfl Tryz.underlying47 rfl) ?_
     refine .go fds 2 ?_
     refine .split (t:=76) rfl (fun g14=>?_) (fun g14=>?_)
     ·
      replace g14:=of_decide_eq_true g14
      refine .aH fds 5 ?_
      refine .aL rfl (fun Su=>?_) (fun Su=>?_)
      ·
       have Ni:0<(bl.map (·.1)).length∧most<sum+((enc b).length:Int):=by rw[List.length_map];omega
       refine .go fds 6 ?_
       refine .aF Tryz.func47 (.t1 rfl) (.cons .p4 (.cons .p4 (.cons .p2 (.cons .p2 (.cons .p2 .nil))))) ?_
       exact⟨[_,_,_,_],⟨bl,ra,rc,((by rw[←hg,vI,iF,if_neg Dz,if_pos Ni]:aH off most 0 [] s.bs=bl.map (·.1)).symm.trans (if_neg c1).symm),rfl,rfl⟩,rfl⟩
      ·
       refine .go fds 2 ?_
       have Ni:¬(0<(bl.map (·.1)).length∧most<sum+((enc b).length:Int)):=by rw[List.length_map];omega
       refine .ax fds 3 ?_
       refine .rd (.ld aj rfl .p0 rfl) ?_
       refine .rd (.fieldAddr AB rfl) ?_
       refine .rd (.ld aj rfl .p0 rfl) ?_
       refine .rd (.cJ (l:=flat s.bs) (a:=(flat (s.bs.take (j+i))).length) (h:=(flat (s.bs.take (j+i))).length+(enc b).length) Tryz.underlying9 rfl ⟨_,rfl⟩ ⟨_,rfl⟩ (by omega) (by omega)) ?_
       refine .al 87 (.string (str (enc b))) rfl (by rw[Nat.add_sub_cancel_left,wG hb]) ?_
       refine .fn rfl rfl .nil ah (ig (enc b) (by omega)) (fun v G1 hq=>?_)
       obtain⟨ba,bc,rfl,rfl⟩:=hq
       simp only[ag,ae]
       refine .al 88 (.tuple #[.agg (b.cells ba bc).toArray,.int .i64 ((enc b).length:Int),.int .i64 0]) rfl (tL yq ba bc) ?_
       refine .ca (arr 99 3 ba bc (b.aU.flatMap Rec.cells)) (by rw[tM yq]) ?_
       refine .settle .p0 (gl.arr) ?_
       refine .go fds 4 ?_
       refine .ef (.alloc cX rfl (ay.of rfl)) ?_
       rintro _ _ ⟨Ka,rfl,rfl⟩
       refine .cU (.storeAll aM rfl rfl (by rfl) .p0 rfl (ay.of rfl)) ?_
       rintro _ _ rfl
       refine .ax fds 5 ?_
       refine .rd (.jy bh aM rfl .p0 rfl) ?_
       refine .ef (.cq (cs:=b.cells ba bc) Tryz.underlying47 cX (by decide) rfl rfl rfl (ay.of rfl)) ?_
       rintro _ _ ⟨bo,rfl,rfl⟩
       refine .ef (.append rfl rfl Tryz.underlying47 cX rfl (ay.of rfl) (by decide) (by decide) rfl rfl .p5 (n:=bl.length) (m:=1) (ar cz _) (.dN .p0 Tryz.underlying47 rfl (by decide)) (by omega)) ?_
       rintro _ _ ⟨qa,qc,rfl,qn,rfl⟩
       refine .aH fds 2 ?_
       refine .ca (arr 41 6 qa qc ((bl++[(b,ba,bc)]).flatMap mY)) (by rw[List.flatMap_append];simp[mY]) ?_
       refine .uq (qP (bl++[(b,ba,bc)])) (.cons .p6 (.cons .p3 .nil)) (fun w h1 h2=>h1.snoc h2) ?_
       refine .ax fds 2 ?_
       refine .rd (.add rfl rfl (by omega) (by omega)) ?_
       refine .aH fds 2 ?_
       have Gq:j+(i+1)≤s.bs.length∧aH off most (sum+((enc b).length:Int)) ((bl++[(b,ba,bc)]).map (·.1)) (s.bs.drop (j+(i+1)))=aH off most 0 [] s.bs∧(bl++[(b,ba,bc)]).length≤i+1∧0≤sum+((enc b).length:Int)∧sum+((enc b).length:Int)≤((flat (s.bs.take (j+(i+1)))).length:Int):=⟨by omega,by rw[←hg,vI,iF,if_neg Dz,if_neg Ni,List.map_append];rfl,by rw[List.length_append];exact Nat.succ_le_succ Nh,by omega,by omega⟩
       exact(ih (i+1,sum+((enc b).length:Int),bl++[(b,ba,bc)],qa,qc) Gq (by show s.bs.length-(i+1)<s.bs.length-i;omega)).to (.cons rfl (.cons rfl (.cons rfl (.cons rfl (.cons rfl (.cons (by first|rfl|(show _=some (Value.slice _ (List.length _) _);rw[List.length_append];rfl)) .r2)))))) (.cons .p5 (.cons .p1 (.cons .p0 (.cons .p3 (.cons .p3 (.cons .p3 .nil))))))
     ·
      replace g14:=of_decide_eq_false g14
      refine .aH fds 8 ?_
      have Ni:¬(0<(bl.map (·.1)).length∧most<sum+((enc b).length:Int)):=by rw[List.length_map];omega
      refine .ax fds 3 ?_
      refine .rd (.ld aj rfl .p0 rfl) ?_
      refine .rd (.fieldAddr AB rfl) ?_
      refine .rd (.ld aj rfl .p0 rfl) ?_
      refine .rd (.cJ (l:=flat s.bs) (a:=(flat (s.bs.take (j+i))).length) (h:=(flat (s.bs.take (j+i))).length+(enc b).length) Tryz.underlying9 rfl ⟨_,rfl⟩ ⟨_,rfl⟩ (by omega) (by omega)) ?_
      refine .al 87 (.string (str (enc b))) rfl (by rw[Nat.add_sub_cancel_left,wG hb]) ?_
      refine .fn rfl rfl .nil ah (ig (enc b) (by omega)) (fun v G1 hq=>?_)
      obtain⟨ba,bc,rfl,rfl⟩:=hq
      simp only[ag,ae]
      refine .al 88 (.tuple #[.agg (b.cells ba bc).toArray,.int .i64 ((enc b).length:Int),.int .i64 0]) rfl (tL yq ba bc) ?_
      refine .ca (arr 99 3 ba bc (b.aU.flatMap Rec.cells)) (by rw[tM yq]) ?_
      refine .settle .p0 (gl.arr) ?_
      refine .go fds 4 ?_
      refine .ef (.alloc cX rfl (ay.of rfl)) ?_
      rintro _ _ ⟨Ka,rfl,rfl⟩
      refine .cU (.storeAll aM rfl rfl (by rfl) .p0 rfl (ay.of rfl)) ?_
      rintro _ _ rfl
      refine .ax fds 5 ?_
      refine .rd (.jy bh aM rfl .p0 rfl) ?_
      refine .ef (.cq (cs:=b.cells ba bc) Tryz.underlying47 cX (by decide) rfl rfl rfl (ay.of rfl)) ?_
      rintro _ _ ⟨bo,rfl,rfl⟩
      refine .ef (.append rfl rfl Tryz.underlying47 cX rfl (ay.of rfl) (by decide) (by decide) rfl rfl .p5 (n:=bl.length) (m:=1) (ar cz _) (.dN .p0 Tryz.underlying47 rfl (by decide)) (by omega)) ?_
      rintro _ _ ⟨qa,qc,rfl,qn,rfl⟩
      refine .aH fds 2 ?_
      refine .ca (arr 41 6 qa qc ((bl++[(b,ba,bc)]).flatMap mY)) (by rw[List.flatMap_append];simp[mY]) ?_
      refine .uq (qP (bl++[(b,ba,bc)])) (.cons .p6 (.cons .p3 .nil)) (fun w h1 h2=>h1.snoc h2) ?_
      refine .ax fds 2 ?_
      refine .rd (.add rfl rfl (by omega) (by omega)) ?_
      refine .aH fds 2 ?_
      have Gq:j+(i+1)≤s.bs.length∧aH off most (sum+((enc b).length:Int)) ((bl++[(b,ba,bc)]).map (·.1)) (s.bs.drop (j+(i+1)))=aH off most 0 [] s.bs∧(bl++[(b,ba,bc)]).length≤i+1∧0≤sum+((enc b).length:Int)∧sum+((enc b).length:Int)≤((flat (s.bs.take (j+(i+1)))).length:Int):=⟨by omega,by rw[←hg,vI,iF,if_neg Dz,if_neg Ni,List.map_append];rfl,by rw[List.length_append];exact Nat.succ_le_succ Nh,by omega,by omega⟩
      exact(ih (i+1,sum+((enc b).length:Int),bl++[(b,ba,bc)],qa,qc) Gq (by show s.bs.length-(i+1)<s.bs.length-i;omega)).to (.cons rfl (.cons rfl (.cons rfl (.cons rfl (.cons rfl (.cons (by first|rfl|(show _=some (Value.slice _ (List.length _) _);rw[List.length_append];rfl)) .r2)))))) (.cons .p5 (.cons .p1 (.cons .p0 (.cons .p3 (.cons .p3 (.cons .p3 .nil))))))
   ·
    refine .go fds 6 ?_
    refine .aF Tryz.func47 (.t1 rfl) (.cons .p3 (.cons .p3 (.cons .p1 (.cons .p1 (.cons .p1 .nil))))) ?_
    exact⟨[_,_,_,_],⟨bl,ra,rc,((by rw[←hg,List.drop_eq_nil_of_le (by omega)];rfl:aH off most 0 [] s.bs=bl.map (·.1)).symm.trans (if_neg c1).symm),rfl,rfl⟩,rfl⟩
theorem zC{s:Sx}(hs:s.ok){b:aR}{C:List aR}(h:b∈s.bs∨(b∈C∧∀x∈s.bs,x.en≤b.base))(hb:s.base≤b.base){xl:List lg}(hx:xl.map (·.1)=gW s b.base 0)(h0:xl.length=0):b∈C:=by
 rcases h with hc|⟨hc,_⟩
 ·
  have h1:=congrArg List.length hx
  rw[List.length_map,ow hs hc hb]at h1
  simp at h1;omega
 ·
  exact hc
theorem Fq(db mb:Nat)(d:Dk)(l:Lx)(b:aR)(hl:l.ok d)(hb:b∈l.all):Cn Tryz.prog 89 [.pointer (some ⟨l.lb,0,none⟩),.int .i64 b.base] (tu db l) [an db (d.cells mb) 74,mp aY Fl.val mb d.fs] fun v G=>v=.bool true∧G=[an db (d.cells mb) 74,mp aY Fl.val mb d.fs]:=by
 refine .en Tryz.func89 fun R k=>?_
 have Am:=hl.len
 have Pz:=hl.aT b hb
 have mh:=Pz.base
 have gL:=Pz.en
 have lp:=Pz.lt
 refine .ax fds 11 ?_
 refine .rd (.load aO rfl (af.one (i:=0) (af.pick .p2 (k.mono fun _ h=>h.1)) rfl)) ?_
 refine .fn rfl rfl .nil (af.pick .p2 (k.mono fun _ h=>h.2.2 _ l.cF)) (bY db l.ai hl.ai.1) (fun v G1 hq=>?_)
 obtain⟨rfl,rfl⟩:=hq
 simp only[ae]
 refine .aH fds 2 ?_
 refine .aL rfl (fun c1=>?_) (fun c1=>?_)
 ·
  refine .go fds 4 ?_
  refine .aF Tryz.func89 (.t1 rfl) .ez ?_
  exact⟨[_,_],⟨rfl,rfl⟩,rfl⟩
 ·
  refine .ax fds 7 ?_
  refine .rd (.load cY rfl (af.one (i:=6) (af.pick .p2 (k.mono fun _ h=>h.1)) rfl)) ?_
  refine .rd (.bK rfl rfl Tryz.underlying55 rfl) ?_
  refine .aH fds 2 ?_
  have oS:l.au.length=l.bX.length+1:=by unfold Lx.au;simp
  refine .al 19 (.int .i64 (l.au.length:Nat)) rfl (by rw[oS]) ?_
  refine .block ?_
  refine .loop (σ:=Nat) (fun i=>i≤l.au.length∧b∈(l.au.drop i).flatMap (fun s:Sx=>s.bs)) (fun i=>l.au.length-i) (fun i=>[(0,.pointer (some ⟨l.lb,0,none⟩)),(1,.int .i64 b.base),(18,.slice l.la (l.bX.length+1) l.lc),(19,.int .i64 (l.au.length:Nat)),(20,.int .i64 (i:Nat))]) (fun i=>[an db (d.cells mb) 74,mp aY Fl.val mb d.fs,R]) 0 ⟨Nat.zero_le _,hb⟩ .r5 .ez (fun i hI ih=>?_)
  obtain⟨jc,Nh⟩:=hI
  refine .go fds 5 ?_
  refine .aL rfl (fun c4=>?_) (fun c4=>?_)
  ·
   refine .go fds 4 ?_
   obtain⟨s,hs⟩:∃s,l.au[i]?=some s:=⟨_,List.getElem?_eq_getElem (by omega)⟩
   have CS:=List.mem_of_getElem? hs
   obtain⟨oG,Lz,PA,LC⟩:=hl.gP s CS
   obtain⟨PB,tK⟩:=xh hl hs Nh
   refine .tell (φ:=∃b o,l.la=some ⟨b,o,none⟩) (af.pick .p2 (k.mono fun _ h=>aB.addr h.2.1 (by rw[ar dP];omega))) (fun hh=>?_)
   obtain⟨b9,o9,h9⟩:=hh
   refine .region ?_
   refine .rd (.indexAddr (b:=b9) (o:=o9) Tryz.underlying55 dR (by show some (Value.slice (l.la) _ _)=_;rw[h9]) rfl (by omega) (by omega)) ?_
   refine .rd (.load aO rfl (af.one (i:=0) (af.elem (f:=sp) dP (by decide) (af.pick .p2 (k.mono fun _ h=>h9▸h.2.1)) hs) rfl)) ?_
   refine .ax fds 6 ?_
   refine .fn rfl rfl .cV (af.pick .p0 (k.mono fun _ h=>h.2.2 s CS)) (rF db mb d s b.base 0 oG PA LC ⟨by omega,by omega⟩) (fun v G1 hq=>?_)
   obtain⟨xl,xa,xc,Bc,rfl,rfl⟩:=hq
   simp only[ag,ae]
   refine .aH fds 2 ?_
   have KO:xl.length≤1:=by
    have h1:=congrArg List.length Bc
    rw[List.length_map]at h1
    rcases tK with hc|⟨_,hc⟩
    ·
     rw[ow oG hc PB]at h1;exact Nat.le_of_eq h1
    ·
     rw[xj oG hc]at h1;exact Nat.le_trans (Nat.le_of_eq h1) (Nat.zero_le 1)
   refine .ax fds 3 ?_
   refine .rd (.bK rfl rfl Tryz.underlying47 rfl) ?_
   refine .aH fds 2 ?_
   refine .aL rfl (fun c7=>?_) (fun c7=>?_)
   ·
    refine .seq ?_
    obtain⟨y,hy⟩:∃y,xl[0]?=some y:=⟨_,List.getElem?_eq_getElem (by omega)⟩
    have PC:y.1=b:=by
     have h1:=congrArg (fun l=>l[0]?) Bc
     simp only[List.getElem?_map,hy,Option.map_some]at h1
     rcases tK with hc|⟨_,hc⟩
     ·
      rw[ow oG hc PB]at h1;exact Option.some.inj h1
     ·
      rw[xj oG hc]at h1;cases h1
    refine .tell (φ:=∃b o,xa=some ⟨b,o,none⟩) ((af.arr .p2).mono fun _ h=>aB.addr h (by rw[ar cz];omega)) (fun hh=>?_)
    obtain⟨b8,o8,h8⟩:=hh
    refine .ax fds 2 ?_
    refine .rd (.indexAddr (b:=b8) (o:=o8) Tryz.underlying47 aM (by show some (Value.slice (xa) _ _)=_;rw[h8]) rfl (by omega) (by omega)) ?_
    refine .rd (.fieldAddr kP rfl) ?_
    refine .rd (.load aj rfl (af.one (i:=0) (af.elem (f:=mY) cz (by decide) ((af.arr .p2).mono fun _ h=>h8▸h) hy) rfl)) ?_
    refine .aH fds 4 ?_
    refine .aF Tryz.func89 (.t1 rfl) .BQ ?_
    exact⟨[_,_],⟨congrArg Value.bool (decide_eq_true (by show y.1.base=b.base;rw[PC])),rfl⟩,rfl⟩
   ·
    refine .ax fds 3 ?_
    refine .rd (.add rfl rfl (by omega) (by omega)) ?_
    refine .aH fds 2 ?_
    have vI:b∈(l.au.drop (i+1)).flatMap (fun s:Sx=>s.bs):=zC oG tK PB Bc (by omega)
    exact(ih (i+1) ⟨by omega,vI⟩ (by show l.au.length-(i+1)<l.au.length-i;omega)).to .r5 .BQ
  ·
   refine .go fds 5 ?_
   exact absurd Nh (by rw[List.drop_eq_nil_of_le (by omega)];intro h;cases h)
theorem xI(db mb:Nat)(d:Dk)(l:Lx)(hl:l.ok d):Cn Tryz.prog 89 [.pointer (some ⟨l.lb,0,none⟩),.int .i64 l.next] (tu db l) [an db (d.cells mb) 74,mp aY Fl.val mb d.fs] fun v G=>v=.bool true∧G=[an db (d.cells mb) 74,mp aY Fl.val mb d.fs]:=by
 refine .en Tryz.func89 fun R k=>?_
 refine .ax fds 11 ?_
 refine .rd (.load aO rfl (af.one (i:=0) (af.pick .p2 (k.mono fun _ h=>h.1)) rfl)) ?_
 refine .fn rfl rfl .nil (af.pick .p2 (k.mono fun _ h=>h.2.2 _ l.cF)) (bY db l.ai hl.ai.1) (fun v G1 hq=>?_)
 obtain⟨rfl,rfl⟩:=hq
 simp only[ae]
 refine .rd (.NN rfl rfl) ?_
 refine .al 14 (.bool true) rfl (bS rfl) ?_
 refine .aH fds 6 ?_
 refine .aF Tryz.func89 (.t1 rfl) .ez ?_
 exact⟨[_,_],⟨rfl,rfl⟩,rfl⟩
theorem KP(db mb:Nat)(d:Dk)(l:Lx)(off:Int)(hl:l.ok d)(h:off=l.next∨∃b∈l.all,b.base=off):Cn Tryz.prog 89 [.pointer (some ⟨l.lb,0,none⟩),.int .i64 off] (tu db l) [an db (d.cells mb) 74,mp aY Fl.val mb d.fs] fun v G=>v=.bool true∧G=[an db (d.cells mb) 74,mp aY Fl.val mb d.fs]:=by
 rcases h with rfl|⟨b,hb,rfl⟩
 ·
  exact xI db mb d l hl
 ·
  exact Fq db mb d l b hl hb
theorem af.zD{Γ aI:List ak}{e s:Nat}{a:Option Addr}{c:Nat}{cs:List Value}(p:bE (arr e s a c cs) Γ aI):af Γ fun _=>cs.length≤c*s:=fun _ _ h=>(h.map fun _=>p.bj).jA.1
theorem IQ{e s:Nat}{a:Option Addr}{c:Nat}{cs:List Value}{h:Hp}(H:arr e s a c cs h):cs.length≤c*s:=by
 rcases H with⟨_,h3⟩|⟨b,pre,post,e1,e2,e3⟩
 ·
  subst h3;exact Nat.zero_le _
 ·
  omega
theorem Ft{e s:Nat}{a:Option Addr}{c:Nat}{cs:List Value}{h k:Hp}(hl:Hp.le h k)(H:arr e s a c cs h):arr e s a c cs k:=by
 rcases H with h1|⟨b,pre,post,e1,e2,e3⟩
 ·
  exact .inl h1
 ·
  exact .inr ⟨b,pre,post,e1,e2,ke hl e3⟩
theorem zE{q:Lx}{x:Sx}{r:List Sx}{db:Nat}{la:Option Addr}(hx:q.bX=x::r):a6 (some ⟨q.ai.b,0,none⟩) db q.pre q.most q.start q.aJ la q.bX.length (q.lc-1)=(q.less la).cells db:=by
 unfold Lx.cells Lx.less;rw[hx];rfl
theorem Fu{q:Lx}{x:Sx}{r:List Sx}{b o:Nat}(hx:q.bX=x::r)(h9:q.la=some ⟨b,o,none⟩){h:Hp}(H:bj [arr 54 1 q.la q.lc (q.au.flatMap sp)] h):arr 54 1 (q.less (some ⟨b,o+1,none⟩)).la (q.less (some ⟨b,o+1,none⟩)).lc ((q.less (some ⟨b,o+1,none⟩)).au.flatMap sp) h:=by
 obtain⟨h1,_,_,hle,_,H1,_⟩:=H
 rw[h9,dM hx (some ⟨b,o+1,none⟩),List.flatMap_cons]at H1
 have hc:q.lc=(q.lc-1)+1:=by
  have:=IQ H1
  rw[List.length_append,dP]at this;omega
 rw[hc]at H1
 exact Ft hle (EK H1)
theorem Cy(db mb:Nat)(d:Dk)(l:Lx)(off:Nat)(hd:d.ok)(hl:l.ok d)(h1:l.start≤(off:Int))(hp:(off:Int)=l.next∨∃b∈l.all,b.base=(off:Int))(h2:(off:Int)≤l.next)(hr:(d.get (aP l.pre)).isSome=true∨d.fs.length<256)(hs:d.used+22≤d.size):Cn Tryz.prog 53 [.pointer (some ⟨l.lb,0,none⟩),.int .i64 (off:Int)] LV [LG db l,an db (d.cells mb) 74,mp aY Fl.val mb d.fs] fun v G=>∃q e,v=.int .i64 0∧jp l d off (max l.aJ off).toNat q e∧G=[LG db q,an db (e.cells mb) 74,mp aY Fl.val mb e.fs]:=by
 refine .en Tryz.func53 fun R k=>?_
 have nL:=hl.start
 have vJ:=hl.aJ
 have IL:=hl.ai.1.eC
 have Gj:l.next=l.ai.next:=rfl
 refine .unpack (L:=[an l.lb (l.cells db) 57,arr 54 1 l.la l.lc (l.au.flatMap sp),cD (SG db) l.au]) .p0 ?_
 simp only[ag,ae]
 refine .ax fds 11 ?_
 refine .rd (.ld aj rfl .p0 rfl) ?_
 refine .rd (.lt rfl rfl) ?_
 refine .al 11 (.bool false) rfl (aE (by omega)) ?_
 refine .go fds 3 ?_
 refine .on (t:=12) rfl rfl ?_
 refine .fn rfl rfl .vL ((af.an .p0).and ((af.arr .p1).and (af.lE .p2))) (KP db mb d l (off:Int) hl hp) (fun v G1 hq=>?_)
 obtain⟨rfl,rfl⟩:=hq
 simp only[ag,ae]
 refine .ax fds 13 ?_
 refine .rd (.ld aj rfl .p2 rfl) ?_
 refine .rd (.move rfl) ?_
 refine .rd (.max2 rfl rfl rfl) ?_
 refine .al 25 (.int .i64 ((max l.aJ off).toNat:Nat)) rfl (congrArg (Value.int .i64) (by omega)) ?_
 refine .fn rfl rfl .DA (af.pick .p2 k) (IC l.lb db mb d (some ⟨l.ai.b,0,none⟩) l.pre l.most l.start l.aJ l.la (l.bX.length+1) l.lc off (max l.aJ off).toNat (by omega) (by omega) hd hl.pre hr hs) (fun v G1 hq=>?_)
 obtain⟨rfl,rfl⟩:=hq
 simp only[ag,ae]
 refine .aH fds 7 ?_
 have hD:jp l d off (max l.aJ off).toNat ({l with start:=(off:Int),aJ:=(((max l.aJ off).toNat:Nat):Int)}:Lx) (d.put (aP l.pre) ⟨mt off (max l.aJ off).toNat,(mt off (max l.aJ off).toNat).length⟩):=.begin hl hd h1 (by omega) (by omega) (by omega) (by omega) hs
 refine .ca (an ({l with start:=(off:Int),aJ:=(((max l.aJ off).toNat:Nat):Int)}:Lx).lb (({l with start:=(off:Int),aJ:=(((max l.aJ off).toNat:Nat):Int)}:Lx).cells db) 57) (rfl) ?_
 refine .perm .ux ?_
 refine .ca (arr 54 1 ({l with start:=(off:Int),aJ:=(((max l.aJ off).toNat:Nat):Int)}:Lx).la ({l with start:=(off:Int),aJ:=(((max l.aJ off).toNat:Nat):Int)}:Lx).lc (({l with start:=(off:Int),aJ:=(((max l.aJ off).toNat:Nat):Int)}:Lx).au.flatMap sp)) (rfl) ?_
 refine .perm .mH ?_
 refine .ca (cD (SG db) ({l with start:=(off:Int),aJ:=(((max l.aJ off).toNat:Nat):Int)}:Lx).au) (rfl) ?_
 refine .go fds 4 ?_
 refine .loop (σ:=Lx×Dk) (fun⟨q,e⟩=>jp l d off (max l.aJ off).toNat q e) (fun⟨q,e⟩=>q.bX.length) (fun⟨q,e⟩=>[(0,.pointer (some ⟨q.lb,0,none⟩)),(1,.int .i64 (off:Nat))]) (fun⟨q,e⟩=>[an q.lb (q.cells db) 57,arr 54 1 q.la q.lc (q.au.flatMap sp),cD (SG db) q.au,an db (e.cells mb) 74,mp aY Fl.val mb e.fs,R]) (({l with start:=(off:Int),aJ:=(((max l.aJ off).toNat:Nat):Int)}:Lx),(d.put (aP l.pre) ⟨mt off (max l.aJ off).toNat,(mt off (max l.aJ off).toNat).length⟩)) hD .r2 (.cons .p2 (.cons .p1 (.cons .p0 (.cons .p0 (.cons .p0 (.cons .p0 .nil)))))) (fun s' hI ih=>?_)
 obtain⟨q,e⟩:=s'
 dsimp only at hI ih⊢
 have hD:=hI
 have Cs:=hD.ok.len
 have wY:q.au.length=q.bX.length+1:=by unfold Lx.au;simp
 refine .ax fds 6 ?_
 refine .rd (.ld cY rfl .p0 rfl) ?_
 refine .rd (.bK rfl rfl Tryz.underlying55 rfl) ?_
 refine .go fds 2 ?_
 refine .split (t:=36) rfl (fun zF=>?_) (fun zF=>?_)
 ·
  replace zF:=of_decide_eq_true zF
  obtain⟨x,r,hx⟩:∃x r,q.bX=x::r:=by
   cases h:q.bX with
   |nil=>rw[h]at zF;exact absurd zF (by decide)
   |cons x r=>exact⟨x,r,rfl⟩
  have Cq:(q.less none).bX=r:=by unfold Lx.less;rw[hx];rfl
  have Jn:q.au=x::(r++[q.ai]):=by unfold Lx.au;rw[hx];rfl
  have xf:x∈q.au:=by rw[Jn];exact .head _
  obtain⟨KQ,PD,M5,UM⟩:=hD.ok.gP x xf
  have AR:q.au[0]?=some x:=by rw[Jn];rfl
  have Sv:=KQ.bD
  have Sw:=KQ.ei
  refine .tell (φ:=∃b o,q.la=some ⟨b,o,none⟩) ((af.arr .p1).mono fun _ h=>aB.addr h (by rw[ar dP];omega)) (fun hh=>?_)
  obtain⟨b9,o9,h9⟩:=hh
  refine .tell (af.zD .p1) (fun hh=>?_)
  have iC:q.bX.length+1≤q.lc:=by rw[ar dP,wY]at hh;omega
  clear hh
  have QU:q.bX.length=r.length+1:=by rw[hx];rfl
  refine .go fds 3 ?_
  refine .on (t:=36) rfl rfl ?_
  refine .rd (.ld cY rfl .p0 rfl) ?_
  refine .on (t:=36) rfl rfl ?_
  refine .rd (.indexAddr (b:=b9) (o:=o9) Tryz.underlying55 dR (by show some (Value.slice (q.la) _ _)=_;rw[h9]) rfl (by omega) (by omega)) ?_
  refine .on (t:=36) rfl rfl ?_
  refine .rd (.load aO rfl (af.one (i:=0) (af.elem (f:=sp) dP (by decide) ((af.arr .p1).mono fun _ h=>h9▸h) AR) rfl)) ?_
  refine .on (t:=36) rfl rfl ?_
  refine .fn rfl rfl .nil ((af.lE .p2).mono fun _ h=>h x xf) (bY db x KQ) (fun v G1 hq=>?_)
  obtain⟨rfl,rfl⟩:=hq
  simp only[ae]
  refine .aH fds 4 ?_
  refine .aL rfl (fun c6=>?_) (fun c6=>?_)
  ·
   have hle:x.next≤(off:Int):=c6
   refine .go fds 3 ?_
   refine .dr [3,8,10] [an q.lb (q.cells db) 57,arr 54 1 q.la q.lc (q.au.flatMap sp)] ?_
   refine .aq fds [0] ?_
   refine .aq fds [1] ?_
   refine .aq fds [2] ?_
   refine .re 3 rfl (.ld di rfl .p0 rfl) .cV ?_
   refine .aq fds [4] ?_
   refine .aq fds [5] ?_
   refine .aq fds [6] ?_
   refine .aq fds [7] ?_
   refine .re 8 rfl (.ld cY rfl .p0 rfl) .cV ?_
   refine .rq 9 rfl (.indexAddr (b:=b9) (o:=o9) Tryz.underlying55 dR (by show some (Value.slice (q.la) _ _)=_;rw[h9]) rfl (by omega) (by omega)) ?_
   refine .re 10 rfl (.load aO rfl (af.one (i:=0) (af.elem (f:=sp) dP (by decide) ((af.arr .p1).mono fun _ h=>h9▸h) AR) rfl)) .cV ?_
   refine .eg 11 rfl (.fn rfl rfl .nil ((af.lE .p2).mono fun _ h=>h x xf) (kW db x)) ?_
   rintro v _ ⟨G1,hq,rfl⟩
   obtain⟨rfl,rfl⟩:=hq
   simp only[ae]
   refine⟨.inr ⟨_,.cV⟩,?_⟩
   refine .al 58 (.int .i64 (x.base.toNat:Nat)) rfl (congrArg (Value.int .i64) (by omega)) ?_
   refine .eg 12 rfl (.fn rfl rfl .nil ((af.an .p0).and (af.pick .p5 k)) (pU q.lb db (some ⟨q.ai.b,0,none⟩) q.pre q.most q.start q.aJ q.la (q.bX.length+1) q.lc x.base.toNat (by omega) hD.ok.pre.len)) ?_
   rintro v _ ⟨G1,hq,rfl⟩
   obtain⟨rfl,rfl⟩:=hq
   simp only[ae]
   refine⟨.inr ⟨_,.cV⟩,?_⟩
   refine .al 59 (.string (str x.nm)) rfl (by rw[PD];rfl) ?_
   refine .eg 13 rfl (.fn rfl rfl .vL ah (oz db mb e x.nm hD.cR M5)) ?_
   rintro v _ ⟨G1,hq,rfl⟩
   obtain⟨rfl,rfl⟩:=hq
   simp only[ag,ae]
   refine aA ?_
   refine .dn ?_
   refine .ax fds 5 ?_
   refine .rd (.ld cY rfl .p2 rfl) ?_
   refine .rd (.slice (l:=1) (h:=q.bX.length+1) (m:=q.lc) Tryz.underlying55 dR rfl rfl ⟨rfl,rfl⟩ ⟨_,rfl⟩ (by omega) (by omega) (by omega)) ?_
   refine .al 66 (.slice (some ⟨b9,o9+1,none⟩) q.bX.length (q.lc-1)) rfl (by rw[if_neg (by omega),h9];rfl) ?_
   refine .go fds 2 ?_
   refine .cU (.store mQ rfl rfl .p2 rfl aQ) ?_
   rintro _ _ rfl
   refine .nil ?_
   refine .mF (f:=SG db) (x:=x) (m:=(q.less (some ⟨b9,o9+1,none⟩)).au) .p4 (by rw[dM hx (some ⟨b9,o9+1,none⟩)]) ?_
   refine .perm .mK ?_
   refine .ca (an (q.less (some ⟨b9,o9+1,none⟩)).lb ((q.less (some ⟨b9,o9+1,none⟩)).cells db) 57) (congrArg (fun z=>an q.lb z 57) (zE (db:=db) (la:=some ⟨b9,o9+1,none⟩) hx)) ?_
   refine .close (X:=arr 54 1 (q.less (some ⟨b9,o9+1,none⟩)).la (q.less (some ⟨b9,o9+1,none⟩)).lc ((q.less (some ⟨b9,o9+1,none⟩)).au.flatMap sp)) .q5 (fun h H=>Fu hx h9 H) ?_
   refine .inBlock ?_
   exact(ih (q.less (some ⟨b9,o9+1,none⟩),e.del x.nm) (hD.step hx hle _) (by show(q.bX.tail).length<q.bX.length;rw[hx];exact Nat.lt_succ_self _)).to .r2 (.cons .p1 (.cons .p0 (.cons .p1 (.cons .p1 (.cons .p1 (.cons .p1 .nil))))))
  ·
   refine .go fds 5 ?_
   refine .pack (L:=[an q.lb (q.cells db) 57,arr 54 1 q.la q.lc (q.au.flatMap sp),cD (SG db) q.au]) .ez ?_
   refine .aF Tryz.func53 (.t1 rfl) .fx ?_
   exact⟨[_,_,_],⟨q,e,rfl,hD,rfl⟩,rfl⟩
 ·
  replace zF:=of_decide_eq_false zF
  refine .aH fds 17 ?_
  refine .pack (L:=[an q.lb (q.cells db) 57,arr 54 1 q.la q.lc (q.au.flatMap sp),cD (SG db) q.au]) .ez ?_
  refine .aF Tryz.func53 (.t1 rfl) .fx ?_
  exact⟨[_,_,_],⟨q,e,rfl,hD,rfl⟩,rfl⟩
theorem pn.Bi{l q:Lx}{d e:Dk}{off:Int}(h:pn l d off q e)(hc:q.bX=[]∨q.ai.base<off)(h1:l.start≤off)(h2:a8 l≤l.start):q.ai.base≤off:=by
 rcases hc with hc|hc
 ·
  have:a8 q=q.ai.base:=by unfold a8 Lx.au;rw[hc];rfl
  have:=h.base
  omega
 ·
  omega
theorem rG{l q:Lx}{d e:Dk}{off:Int}(h:pn l d off q e)(wY:q.au.length=q.bX.length+1){z db:Nat}{sm:List Nat}{n:Int}:an l.lb (a6 (some ⟨q.ai.b,0,none⟩) db l.pre l.most l.start n l.la q.au.length l.lc) 57=an (l.dy q z sm n).lb ((l.dy q z sm n).cells db) 57:=by
 rw[wY,←h.lb,←h.pre,←h.most,←h.start];rfl
theorem xJ{l q:Lx}{t:List Sx}(ht:l.au=q.au++t){z:Nat}{sm:List Nat}{n:Int}{h:Hp}(H:bj [arr 54 1 l.la l.lc (l.au.flatMap sp)] h):arr 54 1 l.la l.lc ((l.dy q z sm n).au.flatMap sp) h:=by
 obtain⟨h1,_,_,hle,_,H1,_⟩:=H
 have e:(l.dy q z sm n).au.flatMap sp=q.au.flatMap sp:=by
  unfold Lx.au Lx.dy;rw[List.flatMap_append,List.flatMap_append];rfl
 rw[e]
 rw[ht,List.flatMap_append]at H1
 exact Ft hle (arr.shrink H1)
theorem IR(db mb:Nat)(d:Dk)(l:Lx)(off:Int)(hd:d.ok)(hl:l.ok d)(h1:l.start≤off)(h2:off≤l.next)(yj:l.start≤aC (a8 l) (ii off l.all)):Cn Tryz.prog 50 [.pointer (some ⟨l.lb,0,none⟩),.int .i64 off] LV [LG db l,an db (d.cells mb) 74,mp aY Fl.val mb d.fs] fun v G=>∃q e,v=.int .i64 0∧tH l d off q e∧G=[LG db q,an db (e.cells mb) 74,mp aY Fl.val mb e.fs]:=by
 refine .en Tryz.func50 fun R k=>?_
 have nL:=hl.start
 have vJ:=hl.aJ
 have IL:=hl.ai.1.eC
 have Gj:l.next=l.ai.next:=rfl
 have Am:=hl.len
 have Sy:l.au.length=l.bX.length+1:=by unfold Lx.au;simp
 have Sz:pn l d off {l with aJ:=l.start} d:=.begin hl hd h2
 refine .unpack (L:=[an l.lb (l.cells db) 57,arr 54 1 l.la l.lc (l.au.flatMap sp),cD (SG db) l.au]) .p0 ?_
 simp only[ag,ae]
 refine .perm (.cons .p2 (.cons .p0 (.cons .p0 (.cons .p0 (.cons .p0 (.cons .p0 .nil)))))) ?_
 refine .ca (cD (SG db) ({l with aJ:=l.start}:Lx).au) (rfl) ?_
 refine .ax fds 11 ?_
 refine .rd (.ld aj rfl .p1 rfl) ?_
 refine .rd (.lt rfl rfl) ?_
 refine .al 11 (.bool false) rfl (aE (by omega)) ?_
 refine .go fds 5 ?_
 refine .on (t:=12) rfl rfl ?_
 refine .rd (.ld aO rfl .p1 rfl) ?_
 refine .on (t:=12) rfl rfl ?_
 refine .fn rfl rfl .nil ((af.lE .p0).mono fun _ h=>h l.ai l.cF) (bY db l.ai hl.ai.1) (fun v G1 hq=>?_)
 obtain⟨rfl,rfl⟩:=hq
 simp only[ae]
 refine .go fds 1 ?_
 refine .al 19 (.bool false) rfl (aE (by omega)) ?_
 refine .ax fds 9 ?_
 refine .rd (.ld cY rfl .p1 rfl) ?_
 refine .rd (.bK rfl rfl Tryz.underlying55 rfl) ?_
 refine .aH fds 2 ?_
 refine .al 5 (.int .i64 (({l with aJ:=l.start}:Lx).au.length:Nat)) rfl (by rw[←Sy];rfl) ?_
 refine .go fds 2 ?_
 refine .loop (σ:=Lx×Dk) (fun⟨q,e⟩=>pn l d off q e) (fun⟨q,e⟩=>q.bX.length) (fun⟨q,e⟩=>[(0,.pointer (some ⟨l.lb,0,none⟩)),(1,.int .i64 off),(5,.int .i64 (q.au.length:Nat))]) (fun⟨q,e⟩=>[an l.lb (l.cells db) 57,arr 54 1 l.la l.lc (l.au.flatMap sp),cD (SG db) q.au,an db (e.cells mb) 74,mp aY Fl.val mb e.fs,R]) ({l with aJ:=l.start},d) Sz .r3 (.cons .p1 (.cons .p1 (.cons .p0 (.cons .p0 (.cons .p0 (.cons .p0 .nil)))))) (fun s' hI ih=>?_)
 obtain⟨q,e⟩:=s'
 dsimp only at hI ih⊢
 have hD:=hI
 obtain⟨t,ht⟩:=hD.gP
 have wY:q.au.length=q.bX.length+1:=by unfold Lx.au;simp
 have Cs:q.au.length≤l.au.length:=by rw[ht,List.length_append];omega
 have Ba:l.au[q.au.length-1]?=some q.ai:=by
  rw[ht,List.getElem?_append_left (by omega)];unfold Lx.au;simp
 obtain⟨iJ,PE,Da,Nc⟩:=hD.ok.ai
 have SA:=iJ.bD
 have SB:=iJ.ei
 refine .go fds 2 ?_
 refine .tell (φ:=∃b o,l.la=some ⟨b,o,none⟩) ((af.arr .p1).mono fun _ h=>aB.addr h (by rw[ar dP];omega)) (fun hh=>?_)
 obtain⟨b9,o9,h9⟩:=hh
 refine .ax fds 4 ?_
 refine .split (t:=28) rfl (fun Fv=>?_) (fun Fv=>?_)
 ·
  replace Fv:=of_decide_eq_true Fv
  obtain⟨r,y,hi⟩:∃r y,q.bX=r++[y]:=⟨q.bX.dropLast,q.bX.getLast (fun h=>by rw[h]at wY;simp at wY;omega),(List.dropLast_concat_getLast _).symm⟩
  have PF:q.au.length-1=(q.pop r y).au.length:=by rw[jo hi,List.length_append];rfl
  refine .go fds 3 ?_
  refine .on (t:=28) rfl rfl ?_
  refine .rd (.ld cY rfl .p0 rfl) ?_
  refine .go fds 1 ?_
  refine .on (t:=28) rfl rfl ?_
  refine .rd (.sub rfl rfl (by omega) (by omega)) ?_
  refine .al 34 (.int .i64 ((q.au.length-1:Nat):Int)) rfl (congrArg (Value.int .i64) (by omega)) ?_
  refine .on (t:=28) rfl rfl ?_
  refine .rd (.indexAddr (b:=b9) (o:=o9) (j:=((q.au.length-1:Nat):Int)) Tryz.underlying55 dR (by show some (Value.slice (l.la) _ _)=_;rw[h9]) rfl (by omega) (by omega)) ?_
  refine .on (t:=28) rfl rfl ?_
  refine .rd (.load aO rfl (af.one (i:=0) (af.elem (f:=sp) dP (by decide) ((af.arr .p1).mono fun _ h=>h9▸h) Ba) rfl)) ?_
  refine .on (t:=28) rfl rfl ?_
  refine .fn rfl rfl .nil ((af.lE .p2).mono fun _ h=>h q.ai q.cF) (kW db q.ai) (fun v G1 hq=>?_)
  obtain⟨rfl,rfl⟩:=hq
  simp only[ae]
  refine .aH fds 4 ?_
  refine .aL rfl (fun c4=>?_) (fun c4=>?_)
  ·
   have SC:off≤q.ai.base:=c4
   refine .go fds 3 ?_
   refine .dr [3,8,12] [an l.lb (l.cells db) 57,arr 54 1 l.la l.lc (l.au.flatMap sp)] ?_
   refine .aq fds [0] ?_
   refine .aq fds [1] ?_
   refine .aq fds [2] ?_
   refine .re 3 rfl (.ld di rfl .p0 rfl) .cV ?_
   refine .aq fds [4] ?_
   refine .aq fds [5] ?_
   refine .aq fds [6] ?_
   refine .aq fds [7] ?_
   refine .re 8 rfl (.ld cY rfl .p0 rfl) .cV ?_
   refine .aq fds [9] ?_
   refine .rq 10 rfl (.sub rfl rfl (by omega) (by omega)) ?_
   refine .al 53 (.int .i64 ((q.au.length-1:Nat):Int)) rfl (congrArg (Value.int .i64) (by omega)) ?_
   refine .rq 11 rfl (.indexAddr (b:=b9) (o:=o9) (j:=((q.au.length-1:Nat):Int)) Tryz.underlying55 dR (by show some (Value.slice (l.la) _ _)=_;rw[h9]) rfl (by omega) (by omega)) ?_
   refine .re 12 rfl (.load aO rfl (af.one (i:=0) (af.elem (f:=sp) dP (by decide) ((af.arr .p1).mono fun _ h=>h9▸h) Ba) rfl)) .cV ?_
   refine .eg 13 rfl (.fn rfl rfl .nil ((af.lE .p2).mono fun _ h=>h q.ai q.cF) (kW db q.ai)) ?_
   rintro v _ ⟨G1,hq,rfl⟩
   obtain⟨rfl,rfl⟩:=hq
   simp only[ae]
   refine⟨.inr ⟨_,.cV⟩,?_⟩
   refine .al 56 (.int .i64 (q.ai.base.toNat:Nat)) rfl (congrArg (Value.int .i64) (by omega)) ?_
   refine .eg 14 rfl (.fn rfl rfl .nil ((af.an .p0).and (af.pick .p5 k)) (pU l.lb db (some ⟨l.ai.b,0,none⟩) l.pre l.most l.start l.aJ l.la (l.bX.length+1) l.lc q.ai.base.toNat (by omega) hl.pre.len)) ?_
   rintro v _ ⟨G1,hq,rfl⟩
   obtain⟨rfl,rfl⟩:=hq
   simp only[ae]
   refine⟨.inr ⟨_,.cV⟩,?_⟩
   refine .al 57 (.string (str q.ai.nm)) rfl (by rw[PE,hD.pre];rfl) ?_
   refine .eg 15 rfl (.fn rfl rfl .vL ah (oz db mb e q.ai.nm hD.cR Da)) ?_
   rintro v _ ⟨G1,hq,rfl⟩
   obtain⟨rfl,rfl⟩:=hq
   simp only[ag,ae]
   refine aA ?_
   refine .dn ?_
   refine .ax fds 3 ?_
   refine .rd (.sub rfl rfl (by omega) (by omega)) ?_
   refine .al 42 (.int .i64 ((q.au.length-1:Nat):Int)) rfl (congrArg (Value.int .i64) (by omega)) ?_
   refine .aH fds 2 ?_
   refine .al 5 (.int .i64 ((q.pop r y).au.length:Nat)) rfl (by rw[PF]) ?_
   refine .mF (f:=SG db) (x:=q.ai) (m:=(q.pop r y).au) .p4 (by rw[jo hi];exact List.perm_append_comm) ?_
   exact(ih (q.pop r y,e.del q.ai.nm) (hD.step hi SC h1) (by show r.length<q.bX.length;rw[hi,List.length_append];exact Nat.lt_succ_self _)).to .r3 (.cons .p4 (.cons .p4 (.cons .p1 (.cons .p1 (.cons .p1 (.cons .p1 .nil))))))
  ·
   have hc:q.bX=[]∨q.ai.base<off:=.inr (by omega)
   refine .go fds 2 ?_
   refine .tell (φ:=∃b o,l.la=some ⟨b,o,none⟩) ((af.arr .p1).mono fun _ h=>aB.addr h (by rw[ar dP];omega)) (fun hh=>?_)
   obtain⟨b9,o9,h9⟩:=hh
   refine .tell (af.zD .p1) (fun hh=>?_)
   have iC:l.au.length≤l.lc:=by rw[ar dP]at hh;omega
   clear hh
   refine .ax fds 5 ?_
   refine .rd (.ld cY rfl .p0 rfl) ?_
   refine .rd (.move rfl) ?_
   refine .rd (.slice (l:=0) (h:=q.au.length) (m:=l.lc) Tryz.underlying55 dR rfl rfl ⟨_,rfl⟩ rfl (by omega) (by omega) (by omega)) ?_
   refine .al 65 (.slice l.la q.au.length l.lc) rfl (by rw[h9];simp[cA]) ?_
   refine .go fds 2 ?_
   refine .cU (.store mQ rfl rfl .p0 rfl aQ) ?_
   rintro _ _ rfl
   refine .nil ?_
   refine .ca (an l.lb (a6 (some ⟨l.ai.b,0,none⟩) db l.pre l.most l.start l.aJ l.la q.au.length l.lc) 57) (rfl) ?_
   refine .ax fds 6 ?_
   refine .rd (.ld cY rfl .p0 rfl) ?_
   refine .rd (.move rfl) ?_
   refine .rd (.sub rfl rfl (by omega) (by omega)) ?_
   refine .al 74 (.int .i64 ((q.au.length-1:Nat):Int)) rfl (congrArg (Value.int .i64) (by omega)) ?_
   refine .rd (.indexAddr (b:=b9) (o:=o9) (j:=((q.au.length-1:Nat):Int)) Tryz.underlying55 dR (by show some (Value.slice (l.la) _ _)=_;rw[h9]) rfl (by omega) (by omega)) ?_
   refine .rd (.load aO rfl (af.one (i:=0) (af.elem (f:=sp) dP (by decide) ((af.arr .p1).mono fun _ h=>h9▸h) Ba) rfl)) ?_
   refine .go fds 2 ?_
   refine .cU (.store dR rfl rfl .p0 rfl aQ) ?_
   rintro _ _ rfl
   refine .nil ?_
   refine .ca (an l.lb (a6 (some ⟨q.ai.b,0,none⟩) db l.pre l.most l.start l.aJ l.la q.au.length l.lc) 57) (rfl) ?_
   refine .mF (f:=SG db) (x:=q.ai) (m:=q.bX) .p2 (oE q) ?_
   refine .unpack (L:=[an q.ai.b (q.ai.cells db) 110,arr 112 4 q.ai.aa q.ai.ac q.ai.rows,arr 3 1 q.ai.ia q.ai.ic (q.ai.sm.flatMap fJ)]) .p0 ?_
   simp only[ag,ae]
   refine .ax fds 5 ?_
   refine .rd (.ld aO rfl .p4 rfl) ?_
   refine .rd (.move rfl) ?_
   refine .fn rfl rfl (.cons .p6 (.cons .p6 (.cons .p0 (.cons .p0 (.cons .p0 .nil))))) ah (tF db mb e q.ai off hD.cR iJ Da Nc (hD.Bi hc h1 nL.2.1) (by omega)) (fun v G1 hq=>?_)
   obtain⟨rfl,z,d',sm,hz,Ea,AS,iM,CQ,rfl⟩:=hq
   simp only[ag,ae]
   refine .nil ?_
   have hT:tH l d off (l.dy q z sm (min l.aJ (aC q.ai.base (q.ai.bs.take z)))) d':=hD.last hc hz Ea AS iM CQ yj vJ.1 _ rfl
   have xK:(Sx.mk q.ai.b q.ai.nm q.ai.base (q.ai.bs.take z) sm q.ai.aa q.ai.ac q.ai.ia q.ai.ic).ok:=(hT.ok.gP _ (Lx.cF _)).1
   have PG:(Sx.mk q.ai.b q.ai.nm q.ai.base (q.ai.bs.take z) sm q.ai.aa q.ai.ac q.ai.ia q.ai.ic).next=(aC q.ai.base (q.ai.bs.take z)):=rfl
   have PI:l.start≤(aC q.ai.base (q.ai.bs.take z)):=by have h5:=hT.ok.start.2.2;have h6:=hT.start;have h7:(l.dy q z sm (min l.aJ (aC q.ai.base (q.ai.bs.take z)))).next=(aC q.ai.base (q.ai.bs.take z)):=rfl;omega
   refine .go fds 2 ?_
   refine .dr [3,8] [an l.lb (a6 (some ⟨q.ai.b,0,none⟩) db l.pre l.most l.start l.aJ l.la q.au.length l.lc) 57] ?_
   refine .aq fds [0] ?_
   refine .aq fds [1] ?_
   refine .aq fds [2] ?_
   refine .re 3 rfl (.ld aO rfl .p0 rfl) .q6 ?_
   refine .aq fds [5] ?_
   refine .aq fds [6] ?_
   refine .aq fds [7] ?_
   refine .re 8 rfl (.ld aj rfl .p0 rfl) .q6 ?_
   refine .eg 4 rfl (.fn rfl rfl .nil ((af.an .p2).and ((af.arr .p3).and (af.arr .p4))) (bY db (Sx.mk q.ai.b q.ai.nm q.ai.base (q.ai.bs.take z) sm q.ai.aa q.ai.ac q.ai.ia q.ai.ic) xK)) ?_
   rintro v _ ⟨G1,hq,rfl⟩
   obtain⟨rfl,rfl⟩:=hq
   simp only[ae]
   refine⟨.inr ⟨_,.q6⟩,?_⟩
   refine .al 89 (.int .i64 (aC q.ai.base (q.ai.bs.take z))) rfl (rfl) ?_
   refine .aq fds [9] ?_
   refine .al 94 (.bool false) rfl (aE (by show¬(aC q.ai.base (q.ai.bs.take z))<l.start;omega)) ?_
   refine .dn ?_
   refine .go fds 3 ?_
   refine .dr [4,8] [an l.lb (a6 (some ⟨q.ai.b,0,none⟩) db l.pre l.most l.start l.aJ l.la q.au.length l.lc) 57] ?_
   refine .aq fds [0] ?_
   refine .aq fds [1] ?_
   refine .aq fds [2] ?_
   refine .aq fds [3] ?_
   refine .re 4 rfl (.ld aj rfl .p0 rfl) .q6 ?_
   refine .aq fds [5] ?_
   refine .aq fds [6] ?_
   refine .aq fds [7] ?_
   refine .re 8 rfl (.ld aO rfl .p0 rfl) .q6 ?_
   refine .eg 9 rfl (.fn rfl rfl .nil ((af.an .p2).and ((af.arr .p3).and (af.arr .p4))) (bY db (Sx.mk q.ai.b q.ai.nm q.ai.base (q.ai.bs.take z) sm q.ai.aa q.ai.ac q.ai.ia q.ai.ic) xK)) ?_
   rintro v _ ⟨G1,hq,rfl⟩
   obtain⟨rfl,rfl⟩:=hq
   simp only[ae]
   refine⟨.inr ⟨_,.q6⟩,?_⟩
   refine .al 110 (.int .i64 (aC q.ai.base (q.ai.bs.take z))) rfl (rfl) ?_
   refine .rq 10 rfl (.min2 rfl rfl rfl) ?_
   refine .al 111 (.int .i64 (min l.aJ (aC q.ai.base (q.ai.bs.take z)))) rfl (congrArg (Value.int .i64) (by omega)) ?_
   refine .aq fds [11] ?_
   refine .aq fds [12] ?_
   refine .eh 13 rfl (.store bQ rfl rfl .p6 rfl aQ) ?_
   rintro _ _ rfl
   refine aA ?_
   refine .dn ?_
   refine .go fds 4 ?_
   refine .ca (an (l.dy q z sm (min l.aJ (aC q.ai.base (q.ai.bs.take z)))).lb ((l.dy q z sm (min l.aJ (aC q.ai.base (q.ai.bs.take z)))).cells db) 57) ((rG hD wY)) ?_
   refine .pack (L:=[an q.ai.b ((Sx.mk q.ai.b q.ai.nm q.ai.base (q.ai.bs.take z) sm q.ai.aa q.ai.ac q.ai.ia q.ai.ic).cells db) 110,arr 112 4 q.ai.aa q.ai.ac (Sx.mk q.ai.b q.ai.nm q.ai.base (q.ai.bs.take z) sm q.ai.aa q.ai.ac q.ai.ia q.ai.ic).rows,arr 3 1 q.ai.ia q.ai.ic (sm.flatMap fJ)]) .GO ?_
   refine .close (X:=cD (SG db) (l.dy q z sm (min l.aJ (aC q.ai.base (q.ai.bs.take z)))).au) .Lw (fun h H=>iI (bX:=q.bX) (s:=(l.dy q z sm (min l.aJ (aC q.ai.base (q.ai.bs.take z)))).ai) H) ?_
   refine .close (X:=arr 54 1 l.la l.lc ((l.dy q z sm (min l.aJ (aC q.ai.base (q.ai.bs.take z)))).au.flatMap sp)) .q4 (fun h H=>xJ ht H) ?_
   refine .pack (L:=[an (l.dy q z sm (min l.aJ (aC q.ai.base (q.ai.bs.take z)))).lb ((l.dy q z sm (min l.aJ (aC q.ai.base (q.ai.bs.take z)))).cells db) 57,arr 54 1 l.la l.lc ((l.dy q z sm (min l.aJ (aC q.ai.base (q.ai.bs.take z)))).au.flatMap sp),cD (SG db) (l.dy q z sm (min l.aJ (aC q.ai.base (q.ai.bs.take z)))).au]) .DA ?_
   refine .aF Tryz.func50 (.t1 rfl) .fx ?_
   exact⟨[_,_,_],⟨_,_,rfl,hT,rfl⟩,rfl⟩
 ·
  replace Fv:=of_decide_eq_false Fv
  have hc:q.bX=[]∨q.ai.base<off:=.inl (List.eq_nil_of_length_eq_zero (by omega))
  refine .aH fds 16 ?_
  refine .tell (φ:=∃b o,l.la=some ⟨b,o,none⟩) ((af.arr .p1).mono fun _ h=>aB.addr h (by rw[ar dP];omega)) (fun hh=>?_)
  obtain⟨b9,o9,h9⟩:=hh
  refine .tell (af.zD .p1) (fun hh=>?_)
  have iC:l.au.length≤l.lc:=by rw[ar dP]at hh;omega
  clear hh
  refine .ax fds 5 ?_
  refine .rd (.ld cY rfl .p0 rfl) ?_
  refine .rd (.move rfl) ?_
  refine .rd (.slice (l:=0) (h:=q.au.length) (m:=l.lc) Tryz.underlying55 dR rfl rfl ⟨_,rfl⟩ rfl (by omega) (by omega) (by omega)) ?_
  refine .al 65 (.slice l.la q.au.length l.lc) rfl (by rw[h9];simp[cA]) ?_
  refine .go fds 2 ?_
  refine .cU (.store mQ rfl rfl .p0 rfl aQ) ?_
  rintro _ _ rfl
  refine .nil ?_
  refine .ca (an l.lb (a6 (some ⟨l.ai.b,0,none⟩) db l.pre l.most l.start l.aJ l.la q.au.length l.lc) 57) (rfl) ?_
  refine .ax fds 6 ?_
  refine .rd (.ld cY rfl .p0 rfl) ?_
  refine .rd (.move rfl) ?_
  refine .rd (.sub rfl rfl (by omega) (by omega)) ?_
  refine .al 74 (.int .i64 ((q.au.length-1:Nat):Int)) rfl (congrArg (Value.int .i64) (by omega)) ?_
  refine .rd (.indexAddr (b:=b9) (o:=o9) (j:=((q.au.length-1:Nat):Int)) Tryz.underlying55 dR (by show some (Value.slice (l.la) _ _)=_;rw[h9]) rfl (by omega) (by omega)) ?_
  refine .rd (.load aO rfl (af.one (i:=0) (af.elem (f:=sp) dP (by decide) ((af.arr .p1).mono fun _ h=>h9▸h) Ba) rfl)) ?_
  refine .go fds 2 ?_
  refine .cU (.store dR rfl rfl .p0 rfl aQ) ?_
  rintro _ _ rfl
  refine .nil ?_
  refine .ca (an l.lb (a6 (some ⟨q.ai.b,0,none⟩) db l.pre l.most l.start l.aJ l.la q.au.length l.lc) 57) (rfl) ?_
  refine .mF (f:=SG db) (x:=q.ai) (m:=q.bX) .p2 (oE q) ?_
  refine .unpack (L:=[an q.ai.b (q.ai.cells db) 110,arr 112 4 q.ai.aa q.ai.ac q.ai.rows,arr 3 1 q.ai.ia q.ai.ic (q.ai.sm.flatMap fJ)]) .p0 ?_
  simp only[ag,ae]
  refine .ax fds 5 ?_
  refine .rd (.ld aO rfl .p4 rfl) ?_
  refine .rd (.move rfl) ?_
  refine .fn rfl rfl (.cons .p6 (.cons .p6 (.cons .p0 (.cons .p0 (.cons .p0 .nil))))) ah (tF db mb e q.ai off hD.cR iJ Da Nc (hD.Bi hc h1 nL.2.1) (by omega)) (fun v G1 hq=>?_)
  obtain⟨rfl,z,d',sm,hz,Ea,AS,iM,CQ,rfl⟩:=hq
  simp only[ag,ae]
  refine .nil ?_
  have hT:tH l d off (l.dy q z sm (min l.aJ (aC q.ai.base (q.ai.bs.take z)))) d':=hD.last hc hz Ea AS iM CQ yj vJ.1 _ rfl
  have xK:(Sx.mk q.ai.b q.ai.nm q.ai.base (q.ai.bs.take z) sm q.ai.aa q.ai.ac q.ai.ia q.ai.ic).ok:=(hT.ok.gP _ (Lx.cF _)).1
  have PG:(Sx.mk q.ai.b q.ai.nm q.ai.base (q.ai.bs.take z) sm q.ai.aa q.ai.ac q.ai.ia q.ai.ic).next=(aC q.ai.base (q.ai.bs.take z)):=rfl
  have PI:l.start≤(aC q.ai.base (q.ai.bs.take z)):=by have h5:=hT.ok.start.2.2;have h6:=hT.start;have h7:(l.dy q z sm (min l.aJ (aC q.ai.base (q.ai.bs.take z)))).next=(aC q.ai.base (q.ai.bs.take z)):=rfl;omega
  refine .go fds 2 ?_
  refine .dr [3,8] [an l.lb (a6 (some ⟨q.ai.b,0,none⟩) db l.pre l.most l.start l.aJ l.la q.au.length l.lc) 57] ?_
  refine .aq fds [0] ?_
  refine .aq fds [1] ?_
  refine .aq fds [2] ?_
  refine .re 3 rfl (.ld aO rfl .p0 rfl) .q6 ?_
  refine .aq fds [5] ?_
  refine .aq fds [6] ?_
  refine .aq fds [7] ?_
  refine .re 8 rfl (.ld aj rfl .p0 rfl) .q6 ?_
  refine .eg 4 rfl (.fn rfl rfl .nil ((af.an .p2).and ((af.arr .p3).and (af.arr .p4))) (bY db (Sx.mk q.ai.b q.ai.nm q.ai.base (q.ai.bs.take z) sm q.ai.aa q.ai.ac q.ai.ia q.ai.ic) xK)) ?_
  rintro v _ ⟨G1,hq,rfl⟩
  obtain⟨rfl,rfl⟩:=hq
  simp only[ae]
  refine⟨.inr ⟨_,.q6⟩,?_⟩
  refine .al 89 (.int .i64 (aC q.ai.base (q.ai.bs.take z))) rfl (rfl) ?_
  refine .aq fds [9] ?_
  refine .al 94 (.bool false) rfl (aE (by show¬(aC q.ai.base (q.ai.bs.take z))<l.start;omega)) ?_
  refine .dn ?_
  refine .go fds 3 ?_
  refine .dr [4,8] [an l.lb (a6 (some ⟨q.ai.b,0,none⟩) db l.pre l.most l.start l.aJ l.la q.au.length l.lc) 57] ?_
  refine .aq fds [0] ?_
  refine .aq fds [1] ?_
  refine .aq fds [2] ?_
  refine .aq fds [3] ?_
  refine .re 4 rfl (.ld aj rfl .p0 rfl) .q6 ?_
  refine .aq fds [5] ?_
  refine .aq fds [6] ?_
  refine .aq fds [7] ?_
  refine .re 8 rfl (.ld aO rfl .p0 rfl) .q6 ?_
  refine .eg 9 rfl (.fn rfl rfl .nil ((af.an .p2).and ((af.arr .p3).and (af.arr .p4))) (bY db (Sx.mk q.ai.b q.ai.nm q.ai.base (q.ai.bs.take z) sm q.ai.aa q.ai.ac q.ai.ia q.ai.ic) xK)) ?_
  rintro v _ ⟨G1,hq,rfl⟩
  obtain⟨rfl,rfl⟩:=hq
  simp only[ae]
  refine⟨.inr ⟨_,.q6⟩,?_⟩
  refine .al 110 (.int .i64 (aC q.ai.base (q.ai.bs.take z))) rfl (rfl) ?_
  refine .rq 10 rfl (.min2 rfl rfl rfl) ?_
  refine .al 111 (.int .i64 (min l.aJ (aC q.ai.base (q.ai.bs.take z)))) rfl (congrArg (Value.int .i64) (by omega)) ?_
  refine .aq fds [11] ?_
  refine .aq fds [12] ?_
  refine .eh 13 rfl (.store bQ rfl rfl .p6 rfl aQ) ?_
  rintro _ _ rfl
  refine aA ?_
  refine .dn ?_
  refine .go fds 4 ?_
  refine .ca (an (l.dy q z sm (min l.aJ (aC q.ai.base (q.ai.bs.take z)))).lb ((l.dy q z sm (min l.aJ (aC q.ai.base (q.ai.bs.take z)))).cells db) 57) ((rG hD wY)) ?_
  refine .pack (L:=[an q.ai.b ((Sx.mk q.ai.b q.ai.nm q.ai.base (q.ai.bs.take z) sm q.ai.aa q.ai.ac q.ai.ia q.ai.ic).cells db) 110,arr 112 4 q.ai.aa q.ai.ac (Sx.mk q.ai.b q.ai.nm q.ai.base (q.ai.bs.take z) sm q.ai.aa q.ai.ac q.ai.ia q.ai.ic).rows,arr 3 1 q.ai.ia q.ai.ic (sm.flatMap fJ)]) .GO ?_
  refine .close (X:=cD (SG db) (l.dy q z sm (min l.aJ (aC q.ai.base (q.ai.bs.take z)))).au) .Lw (fun h H=>iI (bX:=q.bX) (s:=(l.dy q z sm (min l.aJ (aC q.ai.base (q.ai.bs.take z)))).ai) H) ?_
  refine .close (X:=arr 54 1 l.la l.lc ((l.dy q z sm (min l.aJ (aC q.ai.base (q.ai.bs.take z)))).au.flatMap sp)) .q4 (fun h H=>xJ ht H) ?_
  refine .pack (L:=[an (l.dy q z sm (min l.aJ (aC q.ai.base (q.ai.bs.take z)))).lb ((l.dy q z sm (min l.aJ (aC q.ai.base (q.ai.bs.take z)))).cells db) 57,arr 54 1 l.la l.lc ((l.dy q z sm (min l.aJ (aC q.ai.base (q.ai.bs.take z)))).au.flatMap sp),cD (SG db) (l.dy q z sm (min l.aJ (aC q.ai.base (q.ai.bs.take z)))).au]) .DA ?_
  refine .aF Tryz.func50 (.t1 rfl) .fx ?_
  exact⟨[_,_,_],⟨_,_,rfl,hT,rfl⟩,rfl⟩
def pS(s:Sx)(k:Int)(i:Nat):Bool:=decide (k<((s.bs[i]?).map fun b=>(((flat (s.bs.take i)).length+(enc b).length:Nat):Int)).getD 0)
def dJ(d:Dk):Prop:=∀n,(d.get n).isSome=true→n.length≤64
theorem dJ.all{d:Dk}(h:dJ d):∀p∈d.fs,p.1.length≤64:=fun _ hp=>h _ (er.2 (List.mem_map_of_mem hp))
theorem dJ.put{d:Dk}(h:dJ d){n:Nm}{f:Fl}(hn:n.length≤64):dJ (d.put n f):=fun m hm=>by
 rw[Dk.jE]at hm
 split at hm
 ·
  rename_i e;rw[e];exact hn
 ·
  exact h m hm
structure KR(pre:Nm)(d:Dk):Prop where
 wU:(d.get (aP pre)).isSome=false
 au:∀u,u≤1000000000→(d.get (nameOf pre u)).isSome=false
structure dG(Nj:Nm)(most:Int)(d:Dk)(l:Lx)(d':Dk):Prop where
 ok:l.ok d'
 cR:d'.ok
 pre:l.pre=Nj
 most:l.most=most
 start:l.start=0
 aJ:l.aJ=0
 bX:l.bX=[]
 bs:l.ai.bs=[]
 base:l.ai.base=0
 size:d'.size=d.size
 used:d'.used=d.used
 len:d'.fs.length≤d.fs.length+1
 own:mr l d'
 safe:(d'.file l.ai.nm).safe=0
 eF:∀n,(∀u,u≤1000000000→n≠nameOf Nj u)→d'.file n=d.file n∧d'.get n=d.get n
theorem dG.full{pre most d l d'}(h:dG pre most d l d'):Full l d':=fun s hs=>by rw[h.bX]at hs;cases hs
theorem dG.all{pre most d l d'}(h:dG pre most d l d'):l.all=[]:=by unfold Lx.all Lx.au;rw[h.bX];simp[h.bs]
theorem dG.next{pre most d l d'}(h:dG pre most d l d'):l.next=0:=by show aC l.ai.base l.ai.bs=0;rw[h.bs,h.base];rfl
theorem dG.Nk{pre most d l d'}(h:dG pre most d l d'):a8 l=0:=by unfold a8 Lx.au;rw[h.bX];exact h.base
theorem dG.au{pre most d l d'}(h:dG pre most d l d'):l.au.length=1:=by unfold Lx.au;rw[h.bX];rfl
theorem zG{pre:Nm}{d:Dk}(h:KR pre d):bk pre (bp (d.fs.map (·.1)))=[]:=by
 refine List.eq_nil_iff_forall_not_mem.2 fun u hu=>?_
 rw[eo,dF,←er]at hu
 rw[h.au u hu.1]at hu
 cases hu.2
theorem xL(db mb:Nat)(d:Dk)(pre:Nm)(most:Int)(hd:d.ok)(hp:og pre)(hs:dJ d)(hn:d.fs.length<256)(hf:KR pre d)(h1:256≤most)(h2:most≤1000000):Cn Tryz.prog 32 [.pointer (some ⟨db,0,none⟩),aY pre,.int .i64 most] LV [an db (d.cells mb) 74,mp aY Fl.val mb d.fs] fun v G=>∃l d',v=.tuple #[.pointer (some ⟨l.lb,0,none⟩),.int .i64 0]∧dG pre most d l d'∧G=[LG db l,an db (d'.cells mb) 74,mp aY Fl.val mb d'.fs]:=by
 have h0:d.file (nameOf pre 0)=py:=Dk.dK (hf.au 0 (by decide))
 refine(Fh db mb d pre most hd hp hs.all (by omega) h1 h2 hf.wU (zG hf) hn (by rw[h0];rfl)).mono fun v G h=>?_
 obtain⟨lx,sb,sm,aa,ac,ia,ic,qa,qc,rfl,iM,rfl⟩:=h
 have hu:=Dk.cc hd (nameOf pre 0) ⟨[],0⟩
 rw[h0]at hu
 have e0:py.b.length=0:=rfl
 dsimp only[List.length_nil]at hu
 refine⟨zA lx pre most sb sm aa ac ia ic qa qc,d.put (nameOf pre 0) ⟨[],0⟩,rfl,⟨IG hp h1 h2 iM,Dk.dO hd (by dsimp only[List.length_nil];have:=hd.used;omega) (Nat.le_refl _),rfl,rfl,rfl,rfl,rfl,rfl,rfl,rfl,by omega,gE _ _ _,fun u hu hg=>⟨_,.head _,?_⟩,by show((d.put _ _).file (nameOf pre 0)).safe=0;rw[Dk.aW],fun n hn=>Dk.aK _ _ (hn 0 (by decide))⟩,rfl⟩
 show(0:Int).toNat=u
 by_cases hx:nameOf pre u=nameOf pre 0
 ·
  exact(ci hx).symm
 ·
  have Ct:(d.get (nameOf pre u)).isSome=true:=by rw[←(Dk.aK d _ hx).2];exact hg
  rw[hf.au u hu]at Ct;cases Ct
theorem jW.short{l l':Lx}{d d':Dk}{b:aR}(h:jW l d b l' d')(hp:og l.pre)(hs:dJ d):dJ d':=fun n hn=>by
 by_cases hx:∃u,u≤1000000000∧n=nameOf l.pre u
 ·
  obtain⟨u,hu,rfl⟩:=hx
  rw[dD (by omega)];have:=hp.len;omega
 ·
  rw[(h.eF n fun u hu e=>hx ⟨u,hu,e⟩).2]at hn;exact hs n hn
theorem dG.short{pre:Nm}{most:Int}{l:Lx}{d d':Dk}(h:dG pre most d l d')(hp:og pre)(hs:dJ d):dJ d':=fun n hn=>by
 by_cases hx:∃u,u≤1000000000∧n=nameOf pre u
 ·
  obtain⟨u,hu,rfl⟩:=hx
  rw[dD (by omega)];have:=hp.len;omega
 ·
  rw[(h.eF n fun u hu e=>hx ⟨u,hu,e⟩).2]at hn;exact hs n hn
theorem jp.short{l l':Lx}{d d':Dk}{off w:Nat}(h:jp l d off w l' d')(hl:l.ok d)(hs:dJ d):dJ d':=fun n hn=>by
 have A0:=hl.pre.len
 by_cases hx:n=aP l.pre
 ·
  subst hx;unfold aP;rw[List.length_append];show _+5≤64;omega
 ·
  by_cases hy:∃s∈l.bX,n=s.nm
  ·
   obtain⟨s,lj,rfl⟩:=hy
   obtain⟨k1,k2,_,_⟩:=hl.gP s (List.mem_append_left _ lj)
   have:=k1.bD;have:=k1.ei
   rw[k2,dD (by omega)];omega
  ·
   rw[h.eF n hx fun s lj=>.inr fun e=>hy ⟨s,lj,e⟩]at hn;exact hs n hn
def sync(l:Lx)(d:Dk):Dk:=d.put l.ai.nm ⟨(d.file l.ai.nm).b,(d.file l.ai.nm).b.length⟩
structure zH(l:Lx)(d d':Dk):Prop where
 ok:l.ok d'
 cR:d'.ok
 size:d'.size=d.size
 used:d'.used=d.used
 len:d'.fs.length=d.fs.length
 own:mr l d→mr l d'
 full:Full l d→Full l d'
 file:d'.file l.ai.nm=⟨(d.file l.ai.nm).b,(d.file l.ai.nm).b.length⟩
 eF:∀n,n≠l.ai.nm→d'.file n=d.file n∧d'.get n=d.get n
 names:∀n,(d'.get n).isSome=(d.get n).isSome
theorem Bj{l:Lx}{d:Dk}(hl:l.ok d)(hd:d.ok):zH l d (sync l d):=by
 obtain⟨c1,c2,c3,c4⟩:=hl.ai
 have ph:∀n,((sync l d).get n).isSome=(d.get n).isSome:=fun n=>by
  unfold sync;rw[Dk.jE]
  split
  ·
   rename_i e;rw[e,c3];rfl
  ·
   rfl
 have hu:=Dk.cc hd l.ai.nm ⟨(d.file l.ai.nm).b,(d.file l.ai.nm).b.length⟩
 have pq:∀n,n≠l.ai.nm→(sync l d).file n=d.file n∧(sync l d).get n=d.get n:=fun n hn=>Dk.aK _ _ hn
 refine⟨⟨hl.pre,fun s hs=>?_,hl.link,hl.ne,hl.start,hl.aJ,hl.most,hl.len⟩,Dk.dO hd (by dsimp only;have:=hd.used;omega) (Nat.le_refl _),rfl,by dsimp only at hu;unfold sync;omega,gF c3,fun ho u hu hg=>ho u hu (by rw[←ph];exact hg),fun hf s hs=>?_,Dk.aW _ _ _,pq,ph⟩
 ·
  rcases List.mem_append.1 hs with hs|hs
  ·
   obtain⟨k1,k2,k3,k4⟩:=hl.gP s (List.mem_append_left _ hs)
   obtain⟨m1,m2⟩:=pq s.nm (hl.kD hs)
   exact⟨k1,k2,by rw[m2];exact k3,by rw[m1];exact k4⟩
  ·
   rw[List.mem_singleton.1 hs]
   exact⟨c1,c2,by rw[ph];exact c3,by unfold sync;rw[Dk.aW];exact c4⟩
 ·
  rw[(pq s.nm (hl.kD hs)).1];exact hf s hs
theorem kF{pre:Nm}{b:Nat}:∀{l:List Nat} {d:Dk},b∈l→(bP pre l d).get (nameOf pre b)=none
 |x::l,d,h=>by
  by_cases hb:b∈l
  ·
   exact kF (l:=l) (d:=d.del (nameOf pre x)) hb
  ·
   have hx:b=x:=(List.mem_cons.1 h).resolve_right hb
   subst hx
   refine(jO (l:=l) (d:=d.del (nameOf pre b)) fun y hy e=>hb (by rw[ci e];exact hy)).trans ?_
   rw[Dk.kT,if_pos rfl]
theorem rH{pre:Nm}:∀{l:List Nat} {d:Dk},(bP pre l d).fs.length≤d.fs.length
 |[],_=>Nat.le_refl _
 |x::l,d=>Nat.le_trans (rH (l:=l) (d:=d.del (nameOf pre x))) (kE _ _)
structure kG(l:Lx)(nm:Nm)(d e:Dk):Prop where
 cR:e.ok
 ok:l.ok e
 own:mr l d→mr l e
 full:Full l d→Full l e
 short:dJ d→dJ e
 size:e.size=d.size
 len:e.fs.length≤d.fs.length+1
 eF:∀n,n≠nm→e.file n=d.file n∧e.get n=d.get n
theorem kG.put{l:Lx}{d:Dk}{nm:Nm}{f:Fl}(hd:d.ok)(hl:l.ok d)(hn:nm.length≤64)(hf:∀u,u≤1000000000→nm≠nameOf l.pre u)(hu:d.used+f.b.length≤d.size+(d.file nm).b.length)(hs:f.safe≤f.b.length):kG l nm d (d.put nm f):=by
 have pq:∀s∈l.au,s.nm≠nm:=fun s hs e=>by
  obtain⟨k1,k2,_,_⟩:=hl.gP s hs
  have:=k1.bD;have:=k1.ei
  exact hf s.base.toNat (by omega) (e▸k2)
 refine⟨Dk.dO hd hu hs,⟨hl.pre,fun s hs=>?_,hl.link,hl.ne,hl.start,hl.aJ,hl.most,hl.len⟩,fun ho u hu hg=>ho u hu ?_,fun h s hs=>?_,fun h=>h.put hn,rfl,gE _ _ _,fun n hn=>Dk.aK _ _ hn⟩
 ·
  obtain⟨k1,k2,k3,k4⟩:=hl.gP s hs
  obtain⟨m1,m2⟩:=Dk.aK d f (pq s hs)
  exact⟨k1,k2,by rw[m2];exact k3,by rw[m1];exact k4⟩
 ·
  rw[←(Dk.aK d f (fun e=>hf u hu e.symm)).2];exact hg
 ·
  rw[(Dk.aK d f (pq s (List.mem_append_left _ hs))).1];exact h s hs
theorem kG.refl{l:Lx}{d:Dk}{nm:Nm}(hd:d.ok)(hl:l.ok d):kG l nm d d:=⟨hd,hl,id,id,id,rfl,Nat.le_succ _,fun _ _=>⟨rfl,rfl⟩⟩
def dw(d:Dk)(nm:Nm)(es:List Ep):Prop:=((d.get nm).isSome=false∧es=[])∨((d.get nm).isSome=true∧d.file nm=⟨summed (bG es),(summed (bG es)).length⟩)
theorem dw.len{d:Dk}{nm:Nm}{es:List Ep}(h:dw d nm es)(he:bO es):(d.file nm).b.length≤4020:=by
 rcases h with⟨h,_⟩|⟨_,h⟩
 ·
  rw[Dk.dK h];exact Nat.zero_le _
 ·
  rw[h];have:=mZ he;have:=he.len;show(summed (bG es)).length≤_;rw[fk];omega
theorem dw.same{d e:Dk}{nm:Nm}{es:List Ep}(h:dw d nm es)(hf:e.file nm=d.file nm)(hg:(e.get nm).isSome=(d.get nm).isSome):dw e nm es:=by
 unfold dw;rw[hf,hg];exact h
theorem zI{es:List Ep}(he:bO es):(summed (bG es)).length≤4014:=by
 rw[fk];have:=mZ he;have:=he.len;omega
theorem fq{d:Dk}{l:Lx}{c:Cx}{es:List Ep}(hd:d.ok)(hl:l.ok d)(hc:c.nm=ek l.pre)(he:bO es)(hr:d.used+4020≤d.size)(hh:dw d c.nm c.es):kG l (ek l.pre) d (bA d c es)∧dw (bA d c es) c.nm es∧(bA d c es).used+(d.file (ek l.pre)).b.length≤d.used+max 4014 (d.file (ek l.pre)).b.length:=by
 have hle:=zI he
 unfold bA
 by_cases h:es=c.es
 ·
  rw[if_pos h];exact⟨.refl hd hl,h▸hh,by omega⟩
 ·
  rw[if_neg h,hc]
  have hu:=Dk.cc hd (ek l.pre) ⟨summed (bG es),(summed (bG es)).length⟩
  dsimp only at hu
  exact⟨.put hd hl (jk hl.pre).2.1 (fun u hu=>fK hu) (by dsimp only;omega) (Nat.le_refl _),.inr ⟨Dk.cB _ _ _,Dk.aW _ _ _⟩,by omega⟩
def cf(es:List Ep)(ep off:Int):List Ep:=if ct es<ep then bi off es++[(ep,off)]else es
theorem bO.next{es:List Ep}(h:bO es){ep off:Int}(h1:cI ep)(h2:cI off)(hn:es.length<200):bO (cf es ep off):=by
 unfold cf
 split
 ·
  rename_i hl
  have hc:=h.cut off
  refine hc.more (x:=(ep,off)) h1 h2 ?_ (fun e he=>of_decide_eq_true (List.mem_filter.1 he).2) (Nat.lt_of_le_of_lt (List.length_filter_le ..) hn)
  show ct (bi off es)<ep
  cases hg:(bi off es).getLast? with
  |none=>unfold ct;rw[hg];unfold cI at h1;show(-1:Int)<ep;omega
  |some x=>
   unfold ct;rw[hg]
   have:=h.le_last x (List.mem_filter.1 (List.mem_of_getLast? hg)).1
   show x.1<ep;omega
 ·
  exact h
structure lY(s:St)(d:Dk)(b:aR)(s':St)(d':Dk):Prop where
 app:jW s.l (bA d s.c (cf s.c.es b.bu b.base)) b s'.l d'
 sx:s'.sx=s.sx
 nm:s'.c.nm=s.c.nm
 es:s'.c.es=cf s.c.es b.bu b.base
 t:bg s'.t.m=note (bg s.t.m) b
structure KS(s:St)(d:Dk)(off:Int)(s':St)(d':Dk):Prop where
 cut:∃e,tH s.l d off s'.l e∧d'=bA e s.c (bi s'.l.next s.c.es)
 sx:s'.sx=s.sx
 nm:s'.c.nm=s.c.nm
 es:s'.c.es=bi s'.l.next s.c.es
 t:bg s'.t.m=iN s'.l.next (bg s.t.m)
def gK(d:Dk)(s:St):Dk:=d.put (eZ s.l.pre) ⟨dI (bg s.t.m),(dI (bg s.t.m)).length⟩
structure Fw(s:St)(d:Dk)(off:Nat)(s':St)(d':Dk):Prop where
 del:∃e,jp s.l (gK d s) off (max s.l.aJ off).toNat s'.l e∧d'=bA e s.c (dm off s.c.es)
 sx:s'.sx=s.sx
 nm:s'.c.nm=s.c.nm
 es:s'.c.es=dm off s.c.es
 t:bg s'.t.m=uN off (bg s.t.m)
def ij(t:Tm)(bs:List aR):Prop:=∀i b,bs[i]?=some b→cC ((bs.take i).foldl note t)∧0<b.pid∧b.fits∧right b=0∧late (aD ((bs.take i).foldl note t) b.pid) b=false
def Lx.e7(l:Lx):List aR:=bJ l.start l.all
def vq(d:Dk)(nm:Nm)(D:Tm):Prop:=((d.get nm).isSome=false∧D=[])∨((d.get nm).isSome=true∧(d.file nm).b=gO D∧jL D∧D.length≤1000000∧gB D≤400000000)
theorem cC.nil:cC []:=⟨.nil,fun _ h=>(by cases h),fun _ h=>(by cases h),fun _ h=>(by cases h),fun _ h=>(by cases h)⟩
theorem vq.j5{d:Dk}{nm:Nm}{D:Tm}(h:vq d nm D):cC D:=by
 rcases h with⟨_,rfl⟩|h
 ·
  exact .nil
 ·
  exact h.2.2.1.tocC
structure Bk(pre:Nm)(es:List Ep)(D:Tm)(l:Lx)(d:Dk):Prop where
 cR:d.ok
 ok:l.ok d
 xM:l.pre=pre
 cap:l.all.length≤100000000
 IS:bO es
 eM:dw d (ek pre) es
 zJ:vq d (eZ pre) D
 room:d.used+4020≤d.size
 len:d.fs.length<254
 ep:∀b∈l.e7,b.bu≤ct (bi l.next es)
 notes:ij (iN l.start D) l.e7
structure Bl(pre:Nm)(es:List Ep)(D:Tm)(s:St)(e d':Dk):Prop where
 QV:d'=bA e ⟨s.c.cb,ek pre,es,none,0⟩ (bi s.l.next es)
 nm:s.c.nm=ek pre
 es:s.c.es=bi s.l.next es
 t:bg s.t.m=s.l.e7.foldl note (iN s.l.start D)
theorem dw.JQ{d:Dk}{nm:Nm}{es:List Ep}(h:dw d nm es):((d.get nm).isSome=false∧es=[])∨((d.get nm).isSome=true∧(d.file nm).b=summed (bG es)):=by
 rcases h with h|⟨h1,h2⟩
 ·
  exact .inl h
 ·
  exact .inr ⟨h1,by rw[h2]⟩
def fQ(ep pid pe seq:Int)(n:Nat)(u:Int):aR:=⟨u,ep,pid,pe,seq,List.replicate n nD⟩
structure kH(ep pid pe seq:Int)(n:Nat)(u:Int):Prop where
 ep:cI ep
 pid:1≤pid∧pid≤1000000000
 pe:0≤pe∧pe≤1000000000
 seq:0≤seq∧seq≤100000
 n:1≤n∧n≤64
 u:0≤u∧u≤100000000
theorem jP(ep pid pe seq:Int)(n:Nat)(u:Int):(fQ ep pid pe seq n u).aU.length=n:=List.length_replicate ..
theorem xN(ep pid pe seq:Int)(n:Nat)(u:Int):(fQ ep pid pe seq n u).en=u+n:=by unfold aR.en;rw[jP];rfl
theorem oH{ep pid pe seq u:Int}{n:Nat}{r:Rec}(h:r∈(fQ ep pid pe seq n u).aU):r=nD:=List.eq_of_mem_replicate h
theorem kH.fits{ep pid pe seq u:Int}{n:Nat}(h:kH ep pid pe seq n u):(fQ ep pid pe seq n u).fits:=by
 have h1:=h.ep;have h2:=h.pid;have h3:=h.pe;have h4:=h.seq;have h5:=h.n;have h6:=h.u
 unfold cI at h1
 refine⟨⟨by show _≤u;omega,by show u≤_;omega⟩,⟨by show _≤ep;omega,by show ep≤_;omega⟩,⟨by show _≤pid;omega,by show pid≤_;omega⟩,⟨by show _≤pe;omega,by show pe≤_;omega⟩,⟨by show _≤seq;omega,by show seq≤_;omega⟩,fun r hr=>?_,fun r hr=>?_,fun r hr=>?_,by rw[jP];omega⟩
 ·
  rw[oH hr];exact⟨by decide,by decide⟩
 ·
  rw[oH hr];decide
 ·
  rw[oH hr];decide
theorem kH.body{ep pid pe seq u:Int}{n:Nat}(h:kH ep pid pe seq n u):(body (fQ ep pid pe seq n u)).length≤60+n*8:=by
 have h2:=pz h.fits 6
 rw[show(j0 (fQ ep pid pe seq n u)).take 6=j0 (fQ ep pid pe seq n u)from rfl]at h2
 have h3:=eX (f:=bW) (k:=8) (fQ ep pid pe seq n u).aU fun r hr=>by rw[oH hr,Jq];exact Nat.le_refl _
 rw[jP]at h3
 rw[qF,List.length_append];omega
theorem kH.right{ep pid pe seq u:Int}{n:Nat}(h:kH ep pid pe seq n u):right (fQ ep pid pe seq n u)=0:=by
 have hb:=h.body
 have h1:=h.ep;have h2:=h.pid;have h3:=h.pe;have h4:=h.seq;have h5:=h.n;have h6:=h.u
 unfold cI at h1
 rw[kw (b:=fQ ep pid pe seq n u) _ (fun r hr=>by rw[oH hr];exact⟨by decide,by decide⟩),if_neg (by rw[jP];omega),if_neg,if_neg,if_neg (by omega)]
 ·
  rw[jP];show¬(_<u∨_<seq);omega
 ·
  intro h
  obtain⟨r,hr,h2⟩:=List.any_eq_true.1 h
  rw[oH hr]at h2;exact absurd h2 (by decide)
 ·
  unfold aR.off
  rw[jP]
  show¬(u<0∨¬((0:Int)≤ep∧ep≤1000000000)∨¬((0:Int)≤pid∧pid≤1000000000)∨¬((0:Int)≤pe∧pe≤1000000000)∨¬((0:Int)≤seq∧seq≤1000000000)∨(pid=0∧(pe≠0∨seq≠0))∨n=0)
  omega
theorem kH.aT{ep pid pe seq u:Int}{n:Nat}(h:kH ep pid pe seq n u):(fQ ep pid pe seq n u).aT:=⟨h.right,h.fits,by rw[xN];have:=h.n;have:=h.u;omega⟩
theorem kH.enc{ep pid pe seq u:Int}{n:Nat}(h:kH ep pid pe seq n u):(enc (fQ ep pid pe seq n u)).length≤68+n*8:=by
 rw[h.aT.pG];have:=h.body;omega
theorem lG{l:List Nt}:∀(k i:Nat),(∀j,i≤j→j<l.length→jU l j=true)→∀j,cZ l k i≤j→j<l.length→jU l j=true
 |0,i,h=>h
 |k+1,i,h=>by
  unfold cZ
  split
  ·
   rename_i hc
   refine lG k (i-1) fun j hj hl=>?_
   by_cases e:j=i-1
   ·
    rw[e];exact hc.2
   ·
    exact h j (by omega) hl
  ·
   exact h
theorem zK{l:List Nt}(h:l≠[]):jU l (l.length-1)=true:=by
 unfold jU;rw[List.getLast?_eq_getElem?];exact decide_eq_true rfl
theorem k6{l:List Nt}(h:l≠[]):cQ l<l.length:=by
 have h0:=List.length_pos_iff.2 h
 unfold cQ
 show cZ l (4+1) l.length<_
 rw[cZ,if_pos ⟨h0,zK h⟩]
 have:=iW l 4 (l.length-1)
 omega
theorem xO{l:List Nt}(h:l≠[]):(a7 l).getLast?=l.getLast?:=by
 have h1:=k6 h
 unfold a7
 rw[List.getLast?_eq_getElem?,List.getLast?_eq_getElem?,List.getElem?_drop,List.length_drop]
 congr 1;omega
theorem Cz{l:List Nt}{x z:Nt}(hx:(a7 l)[0]?=some x)(hz:l.getLast?=some z):x.ep=z.ep:=by
 unfold a7 at hx
 rw[List.getElem?_drop,Nat.add_zero]at hx
 have hl:=(List.getElem?_eq_some_iff.1 hx).1
 have h1:=lG (l:=l) 5 l.length (fun j h1 h2=>by omega) (cQ l) (Nat.le_refl _) hl
 unfold jU at h1
 rw[hx,hz]at h1
 exact Option.some.inj (of_decide_eq_true h1)
theorem IT{t:Tm}{pid ep seq n:Int}(hT:cC t)(h1:(ask t pid ep seq n).2=0)(h2:(ask t pid ep seq n).1<0)(hp:pid≠0):¬eL pid ep seq n∧¬1000000-n+1<seq∧∀z,(aD t pid).getLast?=some z→z.ep≤ep∧(z.ep=ep→z.seq+z.n≤seq)∧(z.ep=ep→seq=z.seq+z.n)∧(z.ep<ep→seq≤0):=by
 unfold ask at h1 h2
 by_cases hb:eL pid ep seq n
 ·
  rw[if_pos hb]at h1;cases h1
 rw[if_neg hb,if_neg hp]at h1 h2
 by_cases hs:1000000-n+1<seq
 ·
  rw[if_pos hs]at h1;cases h1
 rw[if_neg hs]at h1 h2
 refine⟨hb,hs,fun z hz=>?_⟩
 have dx:aD t pid≠[]:=fun e=>by rw[e]at hz;cases hz
 have cP:=k6 dx
 obtain⟨x,hx⟩:∃x,(a7 (aD t pid))[0]?=some x:=⟨_,List.getElem?_eq_getElem (by rw[fp];omega)⟩
 have yn:=Cz hx hz
 by_cases c1:x.ep<ep
 ·
  rw[wN (.inr ⟨x,hx,c1⟩)]at h1
  dsimp only at h1
  split at h1
  ·
   cases h1
  ·
   exact⟨by omega,by omega,by omega,by omega⟩
 by_cases c2:ep<x.ep
 ·
  rw[Ji hx c2]at h1;cases h1
 cases hf:sZ (a7 (aD t pid)) ep seq n with
 |some y=>
  rw[Jj hx c1 c2 hf]at h2
  have hy:y∈aD t pid:=List.mem_of_mem_drop (List.mem_of_find?_eq_some hf)
  have:=((hT.notes pid).1 y hy).off
  exact absurd h2 (by show¬y.off<0;omega)
 |none=>
  have Pn:(a7 (aD t pid))[(a7 (aD t pid)).length-1]?=some z:=by rw[←List.getLast?_eq_getElem?,xO dx,hz]
  rw[AO hx c1 c2 hf Pn]at h1
  by_cases c3:seq=z.seq+z.n
  ·
   exact⟨by omega,by omega,by omega,by omega⟩
  ·
   rw[if_neg c3]at h1
   split at h1<;>cases h1
theorem pW{κ ν:Type}[DecidableEq κ]{m:List (κ×ν)}{k:κ}{v:ν}{p:κ×ν}(h:p∈bU m k v):p=(k,v)∨p∈m:=by
 unfold bU at h
 split at h
 ·
  obtain⟨q,hq,e⟩:=List.mem_map.1 h
  split at e
  ·
   rename_i hk;subst hk;exact .inl e.symm
  ·
   exact .inr (e▸hq)
 ·
  rcases List.mem_append.1 h with h|h
  ·
   exact .inr h
  ·
   exact .inl (List.mem_singleton.1 h)
theorem pX{t:Tm}{b:aR}(h:late (aD t b.pid) b=false):note t b=bU t b.pid (aD t b.pid++[iG b]):=by
 unfold note;rw[if_neg (by rw[h];exact Bool.false_ne_true)]
theorem pY{t:Tm}{b:aR}(h:late (aD t b.pid) b=false)(q:Int):aD (note t b) q=if q=b.pid then aD t q++[iG b]else aD t q:=by
 rw[pX h]
 unfold aD
 rw[nN]
 split
 ·
  rename_i e;rw[e];rfl
 ·
  rfl
theorem fT.trans{x y z:Nt}(h:fT x y)(g:fT y z)(hy:0≤y.n):fT x z:=by
 obtain⟨a1,a2,a3⟩:=h
 obtain⟨b1,b2,b3⟩:=g
 refine⟨by omega,by omega,fun e=>?_⟩
 have h1:=a3 (by omega)
 have h2:=b3 (by omega)
 omega
theorem zL{l:List Nt}{x:Nt}(hc:l.Pairwise fT)(ho:∀y∈l,li y)(hl:∀z,l.getLast?=some z→fT z x):(l++[x]).Pairwise fT:=by
 rw[List.pairwise_append]
 refine⟨hc,.cons (fun _ h=>by cases h) .nil,fun a ha b hb=>?_⟩
 rw[List.mem_singleton.1 hb]
 obtain⟨i,hi⟩:=List.getElem?_of_mem ha
 obtain⟨mj,rfl⟩:=List.getElem?_eq_some_iff.1 hi
 have hz:l.getLast?=some l[l.length-1]:=by rw[List.getLast?_eq_getElem?];exact List.getElem?_eq_getElem (by omega)
 have h1:=hl _ hz
 by_cases e:i=l.length-1
 ·
  subst e;exact h1
 ·
  have h2:=List.pairwise_iff_getElem.1 hc i (l.length-1) mj (by omega) (by omega)
  exact h2.trans h1 (by have:=(ho _ (List.getElem_mem (show l.length-1<l.length by omega))).n;omega)
theorem Fx{l:List Nt}{b:aR}(h:late l b=false):∀z,l.getLast?=some z→fT z (iG b):=fun z hz=>by
 unfold late at h
 rw[hz]at h
 have:=of_decide_eq_false h
 refine⟨by show z.off<b.base;omega,by show z.ep≤b.be;omega,fun e=>?_⟩
 have e':z.ep=b.be:=e
 show z.seq+z.n≤b.seq;omega
theorem Bn{l:List Nt}{b:aR}(h:∀z,l.getLast?=some z→fT z (iG b)):late l b=false:=by
 unfold late
 cases e:l.getLast? with
 |none=>rfl
 |some z=>
  obtain⟨h1,h2,h3⟩:=h z e
  refine decide_eq_false fun hh=>?_
  have QN:z.off<b.base:=h1
  have QO:z.ep≤b.be:=h2
  have SD:z.ep=b.be→z.seq+z.n≤b.seq:=h3
  rcases hh with hh|hh|hh
  ·
   omega
  ·
   omega
  ·
   have:=SD hh.1;omega
theorem tN{t:Tm}{q:Int}(h:aD t q≠[]):(q,aD t q)∈t:=by
 unfold aD at h⊢
 cases e:bL t q with
 |none=>rw[e]at h;exact absurd rfl h
 |some l=>exact eD e
theorem gY.nE{t:Tm}(h:gY t)(q:Int):(aD t q).Pairwise fT:=by
 by_cases e:aD t q=[]
 ·
  rw[e];exact .nil
 ·
  exact h.chain _ (tN e)
theorem gY.note{t:Tm}(h:gY t){b:aR}(hl:late (aD t b.pid) b=false)(hp:0<b.pid∧b.pid≤1000000000)(ho:li (iG b))(hn:(aD t b.pid).length<10000):gY (note t b):=by
 rw[pX hl]
 have ht:=h.tocC.notes b.pid
 refine⟨⟨fe h.nodup _ _,fun p hm=>?_,fun p hm=>?_,fun p hm=>?_,fun p hm=>?_⟩,fun p hm=>?_⟩<;>rcases pW hm with rfl|hm
 ·
  exact hp
 ·
  exact h.pid p hm
 ·
  simp
 ·
  exact h.ne p hm
 ·
  intro x hx
  rcases List.mem_append.1 hx with hx|hx
  ·
   exact ht.1 x hx
  ·
   rw[List.mem_singleton.1 hx];exact ho
 ·
  exact h.ok p hm
 ·
  show(aD t b.pid++[iG b]).length≤_;rw[List.length_append];simp;omega
 ·
  exact h.len p hm
 ·
  exact zL (h.nE b.pid) ht.1 (Fx hl)
 ·
  exact h.chain p hm
theorem li.sm{ep pid pe seq u:Int}{n:Nat}(h:kH ep pid pe seq n u):li (iG (fQ ep pid pe seq n u)):=by
 have h3:=h.pe;have h4:=h.seq;have h5:=h.n;have h6:=h.u
 have e:(iG (fQ ep pid pe seq n u)).n=(n:Int):=by show(((fQ ep pid pe seq n u).aU.length:Nat):Int)=n;rw[jP]
 refine⟨by unfold cI;exact h3,by show 0≤seq∧seq≤_;omega,by rw[e];omega,?_,?_⟩
 ·
  rw[e];show seq≤_;omega
 ·
  rw[e];show 0≤u∧u≤_;omega
structure bw(Z i j:Nat)(E:Int)(s:St)(d:Dk):Prop where
 cR:d.ok
 ok:s.l.ok d
 own:mr s.l d
 full:Full s.l d
 short:dJ d
 pre:s.l.pre=[112]
 nm:s.c.nm=ek s.l.pre
 next:s.l.next≤3*(i:Int)
 au:s.l.au.length≤i+1
 all:s.l.all.length≤i
 size:d.size=Z
 used:d.used≤(d.file (ek s.l.pre)).b.length+(d.file (eZ s.l.pre)).b.length+100*(i+j)
 LH:(d.file (eZ s.l.pre)).b.length≤304+840*i
 names:∀n,(d.get n).isSome=true→n=ek s.l.pre∨n=eZ s.l.pre∨n=aP s.l.pre∨∃u,u≤1000000000∧n=nameOf s.l.pre u
 es:bO s.c.es
 Fy:s.c.es.length≤i
 LI:∀e∈s.c.es,e.2<s.l.next
 last:ct s.c.es≤E
 eM:dw d s.c.nm s.c.es
 j5:gY (bg s.t.m)
 keys:∀p∈bg s.t.m,p.1≤7
 Fz:∀p∈bg s.t.m,∀x∈p.2,x.off<s.l.next
theorem zM:∀(l:List Nt) (a b:Int),l.Pairwise fT→(∀x∈l,a≤x.off∧x.off<b)→a≤b→(l.length:Int)≤b-a
 |[],a,b,_,_,h=>by show(0:Int)≤_;omega
 |x::l,a,b,hc,ho,h=>by
  have h1:=ho x (.head _)
  have h2:=zM l (x.off+1) b (List.pairwise_cons.1 hc).2 (fun y hy=>⟨by have:=((List.pairwise_cons.1 hc).1 y hy).1;omega,(ho y (.tail _ hy)).2⟩) (by omega)
  rw[List.length_cons];omega
theorem jt{α:Type}[DecidableEq α]:∀(l m:List α),l.Nodup→(∀x∈l,x∈m)→l.length≤m.length
 |[],_,_,_=>Nat.zero_le _
 |x::l,m,hn,hs=>by
  rw[List.nodup_cons]at hn
  have hx:=hs x (.head _)
  have h1:=jt l (m.erase x) hn.2 fun y hy=>(List.mem_erase_of_ne fun e:y=x=>hn.1 (e▸hy)).2 (hs y (.tail _ hy))
  rw[List.length_erase_of_mem hx]at h1
  have:=List.length_pos_of_mem hx
  rw[List.length_cons];omega
theorem xP{l:List Int}(h:l.Nodup)(hl:∀x∈l,1≤x∧x≤7):l.length≤7:=by
 exact jt l [1,2,3,4,5,6,7] h fun x hx=>by
  have:=hl x hx
  simp only[List.mem_cons,List.not_mem_nil,or_false];omega
theorem xQ{t:Tm}{n:Nat}(h1:t.length≤7)(h2:∀p∈t,p.2.length≤n):gB t≤160+280*n:=by
 have key:∀(u:Tm),(∀p∈u,p.2.length≤n)→(u.map fun p=>20+p.2.length*40).sum≤u.length*(20+n*40):=by
  intro u
  induction u with
  |nil=>intro _;exact Nat.zero_le _
  |cons p u ih=>
   intro h
   have h3:=ih fun q hq=>h q (.tail _ hq)
   have h4:=h p (.head _)
   rw[List.map_cons,List.sum_cons,List.length_cons,Nat.succ_mul];omega
 have h5:=key t h2
 have h6:t.length*(20+n*40)≤7*(20+n*40):=Nat.mul_le_mul_right _ h1
 unfold gB;omega
theorem bw.sX{Z i j E s d}(h:bw Z i j E s d):0≤s.l.next:=by have:=h.ok.start;omega
theorem bw.KT{Z i j E s d}(h:bw Z i j E s d)(q:Int):∀x∈aD (bg s.t.m) q,x.off<s.l.next:=by
 by_cases e:aD (bg s.t.m) q=[]
 ·
  intro x hx;rw[e]at hx;cases hx
 ·
  exact h.Fz _ (tN e)
theorem bw.nn{Z i j E s d}(h:bw Z i j E s d)(q:Int):(aD (bg s.t.m) q).length≤3*i:=by
 have h0:=h.sX
 have:=zM (aD (bg s.t.m) q) 0 s.l.next (h.j5.nE q) (fun x hx=>⟨((h.j5.notes q).1 x hx).off.1,h.KT q x hx⟩) h0
 have:=h.next
 omega
theorem bw.Nl{Z i j E s d}(h:bw Z i j E s d):(bg s.t.m).length≤7:=by
 have:=xP h.j5.nodup fun x hx=>by
  obtain⟨p,hp,rfl⟩:=List.mem_map.1 hx
  exact⟨(h.j5.pid p hp).1,h.keys p hp⟩
 rwa[List.length_map]at this
theorem bw.N7{Z i j E s d}(h:bw Z i j E s d):gB (bg s.t.m)≤160+840*i:=by
 have:=xQ (n:=3*i) h.Nl fun p hp=>by rw[←qW h.j5.nodup hp];exact h.nn p.1
 omega
theorem bw.Bo{Z i j E s d}(h:bw Z i j E s d):d.used≤4330+940*i+100*j:=by
 have h1:=h.used;have h2:=h.LH
 have h3:=h.eM.len h.es
 rw[h.nm]at h3;omega
theorem bw.len{Z i j E s d}(h:bw Z i j E s d):d.fs.length≤i+4:=by
 have:=jt (d.fs.map (·.1)) (ek s.l.pre::eZ s.l.pre::aP s.l.pre::s.l.au.map (·.nm)) h.cR.nodup fun n hn=>by
  have hg:(d.get n).isSome=true:=er.2 hn
  rcases h.names n hg with rfl|rfl|rfl|⟨u,hu,rfl⟩
  ·
   exact .head _
  ·
   exact .tail _ (.head _)
  ·
   exact .tail _ (.tail _ (.head _))
  ·
   obtain⟨t,ht,e⟩:=h.own u hu hg
   exact .tail _ (.tail _ (.tail _ (List.mem_map.2 ⟨t,ht,by rw[(h.ok.gP t ht).2.1,e]⟩)))
 have h3:=h.au
 simp only[List.length_cons,List.length_map]at this
 omega
theorem Bp{es:List Ep}{E:Int}(h:ct es≤E){off:Int}(hE:-1≤E)(he:bO es):ct (bi off es)≤E:=by
 cases hg:(bi off es).getLast? with
 |none=>unfold ct;rw[hg];exact hE
 |some x=>
  have:=he.le_last x (List.mem_filter.1 (List.mem_of_getLast? hg)).1
  unfold ct at*;rw[hg];show x.1≤E;omega
theorem rI{es:List Ep}{ep off:Int}(h:ct es≤ep):ct (cf es ep off)=ep:=by
 unfold cf
 split
 ·
  exact B3 _ _
 ·
  omega
theorem CA(es:List Ep)(ep off:Int):(cf es ep off).length≤es.length+1:=by
 unfold cf
 split
 ·
  rw[List.length_append];have:=List.length_filter_le (fun e:Ep=>decide (e.2<off)) es;show(bi off es).length+1≤_;unfold bi;omega
 ·
  omega
theorem FA{es:List Ep}{ep off n:Int}(h:∀e∈es,e.2<off)(hn:off<n):∀e∈cf es ep off,e.2<n:=fun e he=>by
 unfold cf at he
 split at he
 ·
  rcases List.mem_append.1 he with he|he
  ·
   have:=h e (List.mem_filter.1 he).1;omega
  ·
   rw[List.mem_singleton.1 he];exact hn
 ·
  have:=h e he;omega
theorem jW.au{l l':Lx}{d d':Dk}{b:aR}(h:jW l d b l' d'):l'.au.length≤l.au.length+1:=by
 rcases h.QT with h|h
 ·
  unfold Lx.au;rw[h.2.1,List.length_append,List.length_append];simp
 ·
  have:=h.2.1;unfold Lx.au at this⊢;rw[this,List.length_append,List.length_append];simp
theorem KU{l:Lx}(h:l.pre=[112]):og l.pre:=by rw[h];exact⟨by decide,by decide,by decide⟩
theorem k7{d:Dk}{s:St}{es:List Ep}{k:Nat}(hd:d.ok)(hn:s.c.nm=ek s.l.pre)(hu:d.used≤(d.file (ek s.l.pre)).b.length+(d.file (eZ s.l.pre)).b.length+k):(bA d s.c es).used≤((bA d s.c es).file (ek s.l.pre)).b.length+((bA d s.c es).file (eZ s.l.pre)).b.length+k:=by
 unfold bA
 split
 ·
  exact hu
 ·
  rw[hn]
  have h1:=Dk.cc hd (ek s.l.pre) ⟨summed (bG es),(summed (bG es)).length⟩
  rw[Dk.aW,(Dk.aK d _ jm).1]
  dsimp only at h1⊢;omega
theorem lZ{d:Dk}{s:St}{es:List Ep}(hn:s.c.nm=ek s.l.pre){n:Nm}(h:((bA d s.c es).get n).isSome=true):n=ek s.l.pre∨(d.get n).isSome=true:=by
 unfold bA at h
 split at h
 ·
  exact .inr h
 ·
  rw[hn,Dk.jE]at h
  split at h
  ·
   rename_i e;exact .inl e
  ·
   exact .inr h
theorem bw.zN{Z i j E s d s' d'}(h:bw Z i j E s d){ep pid pe seq:Int}{n:Nat}(hA:lY s d (fQ ep pid pe seq n s.l.next) s' d')(hS:kH ep pid pe seq n s.l.next)(hE:E≤ep)(hn:n≤3)(h7:pid≤7)(hl:late (aD (bg s.t.m) pid) (fQ ep pid pe seq n s.l.next)=false)(hi:i≤60∧j≤130)(hZ:90000≤Z):bw Z (i+1) j ep s' d':=by
 have jw:jW s.l (bA d s.c (cf s.c.es ep s.l.next)) (fQ ep pid pe seq n s.l.next) s'.l d':=hA.app
 have zO:=h.Bo
 have jz:=h.size
 have yn:=hS.ep
 have B8:=hS.n
 have j6:cI s.l.next:=by have:=hS.u;unfold cI;omega
 have k8:=h.es.next (ep:=ep) (off:=s.l.next) yn j6 (by have:=h.Fy;omega)
 obtain⟨hB,hH,hU⟩:=fq h.cR h.ok h.nm k8 (by omega) h.eM
 have LJ:=k7 (es:=cf s.c.es ep s.l.next) h.cR h.nm h.used
 have jX:=h.last
 have jS:(fQ ep pid pe seq n s.l.next).en=s.l.next+n:=xN ..
 have hq:=hS.enc
 have lD:=jw.next
 rw[jS]at lD
 have UN:=h.nn pid
 have Ls:s'.l.pre=[112]:=jw.pre.trans h.pre
 obtain⟨f1,f2⟩:=jw.eF (ek s.l.pre) fun u hu=>fK hu
 obtain⟨g1,g2⟩:=jw.eF (eZ s.l.pre) fun u hu=>cL hu
 have hP:=(hB.eF (eZ s.l.pre) jm).1
 have IA:bg s'.t.m=note (bg s.t.m) (fQ ep pid pe seq n s.l.next):=hA.t
 refine⟨jw.cR,jw.ok,jw.own,jw.full (hB.full h.full),jw.short (KU h.pre) (hB.short h.short),Ls,by rw[hA.nm,h.nm,jw.pre],by rw[lD];have:=h.next;omega,by have:=jw.au;have:=h.au;omega,by rw[jw.all,List.length_append];have:=h.all;simp;omega,by rw[jw.size,hB.size,jz],?_,by rw[jw.pre,g1,hP];have:=h.LH;omega,fun m hm=>?_,by rw[hA.es];exact k8,by rw[hA.es];have:=CA s.c.es ep s.l.next;have:=h.Fy;show(cf s.c.es ep s.l.next).length≤_;omega,?_,?_,?_,?_,?_,?_⟩
 ·
  rw[jw.used,jw.pre,f1,g1];omega
 ·
  rw[jw.pre]
  by_cases hx:∃u,u≤1000000000∧m=nameOf s.l.pre u
  ·
   exact .inr (.inr (.inr hx))
  ·
   rw[(jw.eF m fun u hu e=>hx ⟨u,hu,e⟩).2]at hm
   rcases lZ h.nm hm with hm|hm
   ·
    exact .inl hm
   ·
    exact h.names m hm
 ·
  rw[hA.es,lD];exact FA (off:=s.l.next) (ep:=ep) h.LI (by omega)
 ·
  rw[hA.es];show ct (cf s.c.es ep s.l.next)≤ep;rw[rI (by omega)];exact Int.le_refl _
 ·
  rw[hA.nm,hA.es]
  refine dw.same (d:=bA d s.c (cf s.c.es ep s.l.next)) hH ?_ ?_
  ·
   rw[h.nm];exact f1
  ·
   rw[h.nm];exact congrArg Option.isSome f2
 ·
  rw[IA];exact h.j5.note hl ⟨by show 0<pid;have:=hS.pid;omega,hS.pid.2⟩ (li.sm hS) (by show(aD _ pid).length<_;omega)
 ·
  rw[IA,pX hl]
  intro p hp
  rcases pW hp with rfl|hp
  ·
   exact h7
  ·
   exact h.keys p hp
 ·
  rw[IA,pX hl]
  intro p hp x hx
  rcases pW hp with rfl|hp
  ·
   rcases List.mem_append.1 hx with hx|hx
   ·
    have:=h.KT pid x hx;omega
   ·
    rw[List.mem_singleton.1 hx];show s.l.next<_;omega
  ·
   have:=h.Fz p hp x hx;omega
structure zP(s:St)(d:Dk):Prop where
 start:s.l.start=0
 base:a8 s.l=0
 aJ:s.l.aJ=0
 num:(d.get (aP s.l.pre)).isSome=false
 sH:(d.get (eZ s.l.pre)).isSome=false
 es:s.c.es=AN s.l.all
 t:bg s.t.m=s.l.all.foldl note []
 notes:ij [] s.l.all
 UO:∀b∈s.l.all,0≤b.bu∧b.bu≤ct s.c.es
theorem Bq{es:List Ep}{off:Int}(h:∀e∈es,e.2<off):bi off es=es:=List.filter_eq_self.2 fun e he=>decide_eq_true (h e he)
theorem KV{es:List Ep}{b:aR}(h:ct es≤b.bu)(ho:∀e∈es,e.2<b.base):cf es b.bu b.base=uM es b:=by
 unfold cf uM
 by_cases e:ct es=b.bu
 ·
  rw[if_neg (by omega),if_pos e]
 ·
  rw[if_pos (by omega),if_neg e,Bq ho]
structure QW(l:Lx)(d:Dk)(bs:List aR)(s:Nat)(st hi:Int)(u n:Nat):Prop where
 ok:l.ok d
 cR:d.ok
 bX:l.bX=[]
 bs:l.ai.bs=bs
 base:l.ai.base=0
 start:l.start=st
 aJ:l.aJ=hi
 pre:l.pre=[112]
 most:l.most=256
 own:mr l d
 short:dJ d
 size:d.size=10000
 used:d.used≤u
 len:d.fs.length≤n
 safe:(d.file l.ai.nm).safe=s
theorem SE:og [112]:=⟨by decide,by decide,by decide⟩
theorem LK(z:Nat):dJ (Dk.mk z []):=fun _ h=>by cases h
section
variable{l l':Lx}{d d':Dk}{bs:List aR}{s:Nat}{st hi:Int}{u n:Nat}
end
def b3:List aR:=[sb 1 0,sb 1 1,sb 1 2]
def nine(lb:Nat)(s:Nat)(sm:List Nat)(aa:Option Addr)(ac:Nat)(ia:Option Addr)(ic:Nat)(qa:Option Addr)(qc:Nat):Lx:=⟨lb,[112],256,9,9,[],⟨s,nameOf [112] 9,9,[],sm,aa,ac,ia,ic⟩,qa,qc⟩
def rJ(n:Int):List Value:=[.int .i64 n]
theorem vr(n:Int):(rJ n).length=1:=rfl
theorem FB(n:Int):ay (rJ n):=.of rfl
theorem rK{off:Int}:∀{n:Int} {l:List aR},n≤off→(∀b∈l,b.en≤off)→aC n l≤off
 |_,[],h,_=>h
 |_,b::l,_,h=>rK (l:=l) (h b (.head _)) fun x hx=>h x (.tail _ hx)
def SF(off:Int)(R:List aR):Prop:=∀i y,R[i]?=some y→y.base≤aC off (R.take i)∧aC off (R.take i)<y.en∧(0<i→y.base=aC off (R.take i))
theorem PJ{l:Lx}{d d':Dk}(h:l.ok d)(hf:∀s∈l.au,d'.file s.nm=d.file s.nm∧d'.get s.nm=d.get s.nm):l.ok d':=by
 refine⟨h.pre,fun s hs=>?_,h.link,h.ne,h.start,h.aJ,h.most,h.len⟩
 obtain⟨k1,k2,k3,k4⟩:=h.gP s hs
 obtain⟨m1,m2⟩:=hf s hs
 exact⟨k1,k2,by rw[m2];exact k3,by rw[m1];exact k4⟩
theorem QX(u v:Nat):nameOf [97] u≠nameOf [98] v:=fun e=>by
 have:=congrArg (fun l:Nm=>l.head?) e
 simp[nameOf]at this
theorem Nn{l:Lx}{d:Dk}(h:l.ok d){s:Sx}(hs:s∈l.au):∃u,s.nm=nameOf l.pre u:=⟨_,(h.gP s hs).2.1⟩
structure UP(i:Nat)(a b:Lx)(d:Dk):Prop where
 UQ:a.ok d
 UR:b.ok d
 cR:d.ok
 SH:mr a d
 SI:mr b d
 short:dJ d
 SJ:a.pre=[97]
 SK:b.pre=[98]
 all:a.all=b.all
 QY:a8 a=0
 QZ:a8 b=0
 US:a.start=0
 UT:b.start=0
 SL:a.au.length≤i+1
 SM:b.au.length≤i+1
 num:a.all.length=i
 nx:a.next≤20*i
 size:d.size=1000000
 used:d.used≤456*i
 len:d.fs.length≤2+2*i
theorem No{l l':Lx}{d d':Dk}{b:aR}(h:jW l d b l' d'):l'.au.length≤l.au.length+1:=by
 unfold Lx.au
 rcases h.QT with⟨_,h1,_⟩|⟨_,h1,_⟩
 ·
  rw[h1,List.length_append,List.length_append];simp
 ·
  rw[h1,List.length_append];unfold Lx.au;simp
structure PK(i:Nat)(l:Lx)(d:Dk):Prop where
 ok:l.ok d
 cR:d.ok
 own:mr l d
 full:Full l d
 short:dJ d
 pre:l.pre=[112]
 base:a8 l=0
 start:l.start=0
 aJ:l.aJ=0
 num:l.all.length=i
 nx:l.next≤20*i
 size:d.size=2000000
 used:d.used≤228*i
 len:d.fs.length≤1+i
 au:l.au.length≤i+1
 wU:(d.get (aP [112])).isSome=false
theorem FC:∀{n:Int} {l:List aR},bT n l→(∀b∈l,b.aT)→(l.length:Int)≤aC n l-n
 |n,[],_,_=>by show(0:Int)≤n-n;omega
 |n,b::l,hc,hg=>by
  have h1:=FC hc.2 fun x hx=>hg x (.tail _ hx)
  have h2:=(hg b (.head _)).lt
  have h3:b.base=n:=hc.1
  rw[List.length_cons]
  show((l.length+1:Nat):Int)≤aC b.en l-n
  omega
theorem xR{off:Int}:∀{n:Int} {l:List aR},bT n l→(∀b∈l,b.aT)→∀(j:Nat),(∀b∈l.take j,b.en≤off)→(∀b,l[j]?=some b→¬b.en≤off)→ii off l=l.take j
 |_,[],_,_,j,_,_=>by rw[List.take_nil];rfl
 |n,b::l,hc,hg,0,_,h2=>by
  have hb:=h2 b rfl
  refine List.filter_eq_nil_iff.2 fun x hx=>?_
  have:¬x.en≤off:=by
   rcases List.mem_cons.1 hx with rfl|hx
   ·
    exact hb
   ·
    obtain⟨i,hi⟩:=List.getElem?_of_mem hx
    have h1:=(hc.2.at hi).1
    have h2:=hc.2.mono (fun y hy=>hg y (.tail _ hy)) (i:=0) (j:=i) (Nat.zero_le _)
    have h3:aC b.en (l.take 0)=b.en:=rfl
    have h4:=(hg x (.tail _ hx)).lt
    omega
  simpa using this
 |n,b::l,hc,hg,j+1,h1,h2=>by
  have hb:b.en≤off:=h1 b (by rw[List.take_succ_cons];exact .head _)
  have ih:=xR hc.2 (fun x hx=>hg x (.tail _ hx)) j (fun x hx=>h1 x (by rw[List.take_succ_cons];exact .tail _ hx)) fun x hx=>h2 x (by rw[List.getElem?_cons_succ];exact hx)
  rw[List.take_succ_cons,←ih]
  exact List.filter_cons_of_pos (by simpa using hb)
theorem vu{off:Int}:∀{n:Int} {l:List aR},bT n l→(∀b∈l,b.aT)→∃j,ii off l=l.take j
 |_,[],_,_=>⟨0,rfl⟩
 |n,b::l,hc,hg=>by
  by_cases h:b.en≤off
  ·
   obtain⟨j,hj⟩:=vu (off:=off) hc.2 fun x hx=>hg x (.tail _ hx)
   exact⟨j+1,by rw[List.take_succ_cons,←hj];exact List.filter_cons_of_pos (by simpa using h)⟩
  ·
   exact⟨0,xR hc hg 0 (fun _ hx=>by cases hx) fun x hx=>by cases hx;exact h⟩
theorem N8(n:Int)(l:List aR):(ii n l).length≤l.length:=List.length_filter_le ..
structure SN(i:Nat)(l:Lx)(d:Dk):Prop where
 ok:l.ok d
 cR:d.ok
 own:mr l d
 start:l.start=0
 num:l.all.length≤60+i
 nx:l.next≤1200+9*i
 size:d.size=2000000
 used:d.used≤13680+140*i
 len:d.fs.length≤61+i
 au:l.au.length≤61+i
def vv(f g:Fl):Prop:=∃z,f.safe≤z∧z≤f.b.length∧g=⟨f.b.take z,z⟩
structure gh(d:Dk)(done:List Nm)(e:Dk):Prop where
 cR:e.ok
 size:e.size=d.size
 keys:e.fs.map (·.1)=d.fs.map (·.1)
 used:e.used≤d.used
 IU:∀n∈done,vv (d.file n) (e.file n)
 left:∀n,n∉done→e.file n=d.file n
theorem nO{d:Dk}{n:Nm}{f:Fl}(h:(d.get n).isSome=true):(bU d.fs n f).map (·.1)=d.fs.map (·.1):=by
 unfold bU
 have h1:=kq (Dk.get_some.1 h)
 rw[if_pos (List.any_eq_true.2 ⟨_,h1,by simp⟩),List.map_map]
 refine List.map_congr_left fun p _=>?_
 simp only[Function.comp]
 split<;>rfl
theorem gh.get{d e:Dk}{done:List Nm}(h:gh d done e)(n:Nm):(e.get n).isSome=true↔(d.get n).isSome=true:=by rw[er,er,h.keys]
theorem gh.begin{d:Dk}(hd:d.ok):gh d [] d:=⟨hd,rfl,rfl,Nat.le_refl _,fun _ h=>(by cases h),fun _ _=>rfl⟩
theorem gh.E3{d e:Dk}{done:List Nm}(h:gh d done e){n:Nm}(hn:n∉done)(hm:(d.file n).safe=(d.file n).b.length):gh d (done++[n]) e:=by
 refine⟨h.cR,h.size,h.keys,h.used,fun m Gi=>?_,fun m Gi=>h.left m fun hx=>Gi (List.mem_append_left _ hx)⟩
 rcases List.mem_append.1 Gi with hx|hx
 ·
  exact h.IU m hx
 ·
  rw[List.mem_singleton.1 hx,h.left n hn]
  refine⟨(d.file n).b.length,by omega,Nat.le_refl _,?_⟩
  rw[List.take_length,←hm]
theorem gh.step{d e:Dk}{done:List Nm}(h:gh d done e){n:Nm}{z:Nat}(hn:n∉done)(hg:(d.get n).isSome=true)(h1:(d.file n).safe≤z)(h2:z≤(d.file n).b.length):gh d (done++[n]) (e.put n ⟨(d.file n).b.take z,z⟩):=by
 have hl:=h.left n hn
 have yj:=(h.get n).2 hg
 have hu:=Dk.cc h.cR n ⟨(d.file n).b.take z,z⟩
 rw[hl]at hu
 dsimp only at hu
 have ht:((d.file n).b.take z).length=z:=by rw[List.length_take];omega
 refine⟨Dk.dO h.cR (by dsimp only;rw[hl,ht];have:=h.cR.used;omega) (by dsimp only;omega),h.size,(nO yj).trans h.keys,by have:=h.used;omega,fun m hm=>?_,fun m hm=>?_⟩
 ·
  rcases List.mem_append.1 hm with hx|hx
  ·
   rw[(Dk.aK _ _ (fun e=>hn (e▸hx):m≠n)).1];exact h.IU m hx
  ·
   rw[List.mem_singleton.1 hx,Dk.aW]
   exact⟨z,h1,h2,rfl⟩
 ·
  rw[(Dk.aK _ _ (fun e=>hm (e▸List.mem_append_right _ (.head _)):m≠n)).1]
  exact h.left m fun hx=>hm (List.mem_append_left _ hx)
structure ik(d e:Dk):Prop where
 cR:e.ok
 size:e.size=d.size
 keys:e.fs.map (·.1)=d.fs.map (·.1)
 used:e.used≤d.used
 file:∀n,vv (d.file n) (e.file n)
 get:∀n,(e.get n).isSome=(d.get n).isSome
theorem gh.all{d e:Dk}{done:List Nm}(h:gh d done e)(hd:d.ok)(ha:∀n,n∈d.fs.map (·.1)→n∈done):ik d e:=by
 refine⟨h.cR,h.size,h.keys,h.used,fun n=>?_,fun n=>Bool.eq_iff_iff.2 (h.get n)⟩
 by_cases hn:n∈done
 ·
  exact h.IU n hn
 ·
  rw[h.left n hn]
  have hz:d.file n=py:=Dk.dK (Bool.eq_false_iff.2 fun hs=>hn (ha n (er.1 hs)))
  rw[hz];exact⟨0,Nat.le_refl _,Nat.le_refl _,rfl⟩
theorem FE{a:Option Addr}{x:Int}{kl:List Int}{kc:Nat}{w:World}{b o:Nat}(ha:a=some ⟨b,o,none⟩)(h:aB a ((x::kl).flatMap rJ) w)(hc:kl.length+1≤kc):aB (if kc=1 then a else a.map (·.add (1*1))) (kl.flatMap rJ) w:=by
 subst ha
 rcases h with h|⟨b',o',ho,y4⟩
 ·
  cases h
 ·
  cases ho
  by_cases h0:kl=[]
  ·
   exact .inl (by rw[h0];rfl)
  ·
   have:0<kl.length:=List.length_pos_iff.2 h0
   rw[if_neg (by omega)]
   have h1:=y4.sub 1 (kl.flatMap rJ).length
   have e:(((x::kl).flatMap rJ).drop 1).take (kl.flatMap rJ).length=kl.flatMap rJ:=by rw[List.flatMap_cons];show(kl.flatMap rJ).take _=_;rw[List.take_length]
   rw[e]at h1
   exact .inr ⟨b,o+1,rfl,h1⟩
theorem vw(u:Nat):Lib.decDigits u≠[]:=by
 rw[Lib.decDigits];split<;>simp
theorem FF:∀(u:Nat) (c:UInt8) (l:List UInt8),Lib.decDigits u=c::l→c=48→u=0:=fun u=>by
 induction u using Nat.strongRecOn with
 |_ u ih=>
  intro c l h hc
  rw[Lib.decDigits]at h
  split at h
  ·
   rename_i h1
   cases h
   have h2:=congrArg UInt8.toNat hc
   rw[nr h1]at h2
   have:(48:UInt8).toNat=48:=rfl
   omega
  ·
   rename_i h1
   cases e:Lib.decDigits (u/10)with
   |nil=>exact absurd e (vw _)
   |cons x t=>
    rw[e]at h
    cases h
    have:=ih (u/10) (by omega) _ _ e hc
    omega
theorem FG:Lib.decDigits 0=[48]:=by rw[Lib.decDigits];rfl
theorem FH:¬digit 32:=fun h=>by have:=h.1;have e:(32:UInt8).toNat=32:=rfl;omega
theorem KW(z w:Nat):Lib.cut (Lib.decDigits z++[32]++Lib.decDigits w) [32]=(Lib.decDigits z,Lib.decDigits w,true):=by
 have hi:Lib.index (Lib.decDigits z++[32]++Lib.decDigits w) [32]=((Lib.decDigits z).length:Nat):=by
  refine Lib.index_first (by simp only[List.length_append];omega) ?_ fun j hj=>?_
  ·
   unfold Lib.occAt;rw[List.append_assoc,List.drop_left];simp
  ·
   refine Bool.eq_false_iff.2 fun h=>?_
   have h1:=Lib.occAt_head rfl h
   rw[List.append_assoc,List.getElem?_append_left hj]at h1
   exact FH (jh z _ (List.mem_of_getElem? h1))
 unfold Lib.cut
 rw[if_pos (by rw[hi];omega),hi]
 refine Prod.ext ?_ (Prod.ext ?_ rfl)
 ·
  show(Lib.decDigits z++[32]++Lib.decDigits w).take ((Lib.decDigits z).length:Int).toNat=_
  rw[Int.toNat_natCast,List.append_assoc,List.take_left]
 ·
  show(Lib.decDigits z++[32]++Lib.decDigits w).drop (((Lib.decDigits z).length:Int).toNat+1)=_
  rw[Int.toNat_natCast]
  exact List.drop_left' (by simp)
theorem FI(z w:Nat):Lib.hasSuffix (mt z w) [10]=true∧Lib.trimSuffix (mt z w) [10]=Lib.decDigits z++[32]++Lib.decDigits w:=by
 have h:Lib.hasSuffix (mt z w) [10]=true:=List.isSuffixOf_iff_suffix.2 (List.suffix_append _ _)
 refine⟨h,?_⟩
 unfold Lib.trimSuffix
 rw[if_pos h]
 unfold mt
 rw[List.length_append,Nat.add_sub_cancel,List.take_left]
theorem Np{c:UInt8}(h:decide (((c.toNat:Nat):Int)=48)=true):c=48:=by
 have h1:=of_decide_eq_true h
 exact UInt8.toNat_inj.1 (by have:(48:UInt8).toNat=48:=rfl;omega)
theorem tO(z:Nat)(hz:z≤1000000000):Cn Tryz.prog 107 [.string (str (Lib.decDigits z))] (fun _=>True) [] fun v G=>v=.tuple #[.int .i64 (z:Nat),.bool true]∧G=[]:=by
 refine .en Tryz.func107 fun R k=>?_
 have J1:=gZ (u:=z) (by omega)
 have dx:=vw z
 obtain⟨c,r,Q0⟩:=List.exists_cons_of_ne_nil dx
 refine .ax fds 9 ?_
 refine .rd (.NR (m:=[]) rfl rfl) ?_
 refine .al 7 (.bool false) rfl (aE dx) ?_
 refine .go fds 2 ?_
 refine .on (t:=8) rfl rfl ?_
 refine .rd (.ey rfl rfl Tryz.underlying9 rfl) ?_
 refine .go fds 1 ?_
 refine .al 11 (.bool false) rfl (aE (by omega)) ?_
 refine .go fds 3 ?_
 refine .on (t:=13) rfl rfl ?_
 refine .fn rfl rfl .nil ah (nu (Lib.decDigits z) nA (by omega) (by decide) (by decide)) (fun v G1 hq=>?_)
 obtain⟨rfl,rfl⟩:=hq
 simp only[ae]
 refine .on (t:=13) rfl rfl ?_
 refine .rd (.Ds (m:=[]) rfl rfl) ?_
 refine .al 16 (.bool false) rfl (congrArg Value.bool (by rw[decide_eq_true (ji.2 fun c hc=>oW (jh z c hc))];rfl)) ?_
 refine .go fds 3 ?_
 refine .on (t:=18) rfl rfl ?_
 refine .rd (.fW (b:=c) Tryz.underlying9 rfl rfl (by decide) (by rw[Q0];rfl)) ?_
 refine .go fds 2 ?_
 refine .split (t:=22) rfl (fun g16=>?_) (fun g16=>?_)
 ·
  have Py:z=0:=FF z c r Q0 (Np g16)
  refine .go fds 1 ?_
  refine .on (t:=22) rfl rfl ?_
  refine .rd (.Ds (m:=[48]) rfl rfl) ?_
  refine .al 24 (.bool false) rfl (congrArg Value.bool (by rw[Py,decide_eq_true FG];rfl)) ?_
  refine .ax fds 8 ?_
  refine .fn rfl rfl .nil ah (vg (Lib.decDigits z) (vw z) (jh z) (by omega)) (fun v G1 hq=>?_)
  obtain⟨rfl,rfl⟩:=hq
  simp only[ae]
  refine .al 29 (.tuple #[.int .i64 (z:Nat),.nilIface]) rfl (by rw[u4]) ?_
  refine .ax fds 10 ?_
  refine .rd (.yM Tryz.underlying166 rfl) ?_
  refine .go fds 3 ?_
  refine .al 37 (.bool true) rfl (bS (by omega)) ?_
  refine .aH fds 4 ?_
  refine .aF Tryz.func107 (.t2 rfl rfl) .q0 ?_
  exact⟨[],⟨rfl,rfl⟩,rfl⟩
 ·
  replace g16:=of_decide_eq_false g16
  refine .ax fds 10 ?_
  refine .fn rfl rfl .nil ah (vg (Lib.decDigits z) (vw z) (jh z) (by omega)) (fun v G1 hq=>?_)
  obtain⟨rfl,rfl⟩:=hq
  simp only[ae]
  refine .al 29 (.tuple #[.int .i64 (z:Nat),.nilIface]) rfl (by rw[u4]) ?_
  refine .ax fds 10 ?_
  refine .rd (.yM Tryz.underlying166 rfl) ?_
  refine .go fds 3 ?_
  refine .al 37 (.bool true) rfl (bS (by omega)) ?_
  refine .aH fds 4 ?_
  refine .aF Tryz.func107 (.t2 rfl rfl) .q0 ?_
  exact⟨[],⟨rfl,rfl⟩,rfl⟩
theorem FJ(lb db mb:Nat)(d:Dk)(p:Option Addr)(pre:Nm)(most start aJ:Int)(la:Option Addr)(n lc:Nat)(z w:Nat)(hp:og pre)(hm:(d.get (aP pre)).isSome=true)(hf:(d.file (aP pre)).b=mt z w)(hz:z≤1000000000)(hw:w≤1000000000)(KX:z≤w):Cn Tryz.prog 65 [.pointer (some ⟨lb,0,none⟩)] LV [an lb (a6 p db pre most start aJ la n lc) 57,an db (d.cells mb) 74,mp aY Fl.val mb d.fs] fun v G=>v=.bool true∧G=[an lb (a6 p db pre most (z:Int) (w:Int) la n lc) 57,an db (d.cells mb) 74,mp aY Fl.val mb d.fs]:=by
 refine .en Tryz.func65 fun R k=>?_
 have h3:=hp.len
 have h1:=gZ (u:=z) (by omega)
 have h2:=gZ (u:=w) (by omega)
 have h4:=zx hz hw
 refine .go fds 5 ?_
 refine .dr [3,7] [an lb (a6 p db pre most start aJ la n lc) 57] ?_
 refine .aq fds [0] ?_
 refine .aq fds [1] ?_
 refine .aq fds [2] ?_
 refine .re 3 rfl (.ld di rfl .p0 rfl) .q0 ?_
 refine .aq fds [4] ?_
 refine .aq fds [5] ?_
 refine .aq fds [6] ?_
 refine .re 7 rfl (.ld aS rfl .p0 rfl) .q0 ?_
 refine .rq 8 rfl (.eb (l:=pre) (m:=[46,109,101,116,97]) rfl rfl (by(repeat rw[List.length_append]);simp only[List.length_cons,List.length_nil];omega)) ?_
 refine .al 20 (.string (str (aP pre))) rfl (rfl) ?_
 refine .eg 9 rfl (.fn rfl rfl .pu ah (jN db mb d (aP pre))) ?_
 rintro v _ ⟨G1,hq,rfl⟩
 obtain⟨rfl,rfl⟩:=hq
 simp only[ag,ae]
 refine aA ?_
 refine .al 21 (.tuple #[.string (str (mt z w)),.int .i64 0]) rfl (by rw[if_pos hm,hf]) ?_
 refine .aq fds [10] ?_
 refine .aq fds [11] ?_
 refine .aq fds [12] ?_
 refine .aq fds [13] ?_
 refine .aq fds [14] ?_
 refine .dn ?_
 refine .ax fds 11 ?_
 refine .fn rfl rfl .nil ah (A5 (mt z w) [10] (by omega)) (fun v G1 hq=>?_)
 obtain⟨rfl,rfl⟩:=hq
 simp only[ae]
 refine .al 28 (.tuple #[.string (str (Lib.decDigits z++[32]++Lib.decDigits w)),.bool true]) rfl (by rw[(FI z w).1,(FI z w).2]) ?_
 refine .ax fds 9 ?_
 refine .fn rfl rfl .nil (af.pick .p3 k) (Kx (Lib.decDigits z++[32]++Lib.decDigits w) [32] (by simp only[List.length_append,List.length_cons,List.length_nil];omega)) (fun v G1 hq=>?_)
 obtain⟨rfl,rfl⟩:=hq
 simp only[ae]
 refine .al 33 (.tuple #[.string (str (Lib.decDigits z)),.string (str (Lib.decDigits w)),.bool true]) rfl (by rw[KW]) ?_
 refine .ax fds 17 ?_
 refine .fn rfl rfl .nil ah (tO z (by omega)) (fun v G1 hq=>?_)
 obtain⟨rfl,rfl⟩:=hq
 simp only[ae]
 refine .go fds 5 ?_
 refine .cU (.store bQ rfl rfl .p2 rfl aQ) ?_
 rintro _ _ rfl
 refine .ax fds 6 ?_
 refine .fn rfl rfl .nil ah (tO w (by omega)) (fun v G1 hq=>?_)
 obtain⟨rfl,rfl⟩:=hq
 simp only[ae]
 refine .go fds 5 ?_
 refine .cU (.store bQ rfl rfl .p0 rfl aQ) ?_
 rintro _ _ rfl
 refine .aH fds 2 ?_
 refine .ca (an lb (a6 p db pre most (z:Int) (w:Int) la n lc) 57) (rfl) ?_
 refine .seq ?_
 refine .dr [14,18] [an lb (a6 p db pre most (z:Int) (w:Int) la n lc) 57] ?_
 refine .aq fds [0] ?_
 refine .aq fds [1] ?_
 refine .aq fds [2] ?_
 refine .aq fds [3] ?_
 refine .aq fds [4] ?_
 refine .aq fds [5] ?_
 refine .aq fds [6] ?_
 refine .aq fds [7] ?_
 refine .aq fds [8] ?_
 refine .aq fds [9] ?_
 refine .aq fds [10] ?_
 refine .aq fds [11] ?_
 refine .aq fds [12] ?_
 refine .aq fds [13] ?_
 refine .si 14 (t:=63) rfl rfl rfl rfl (by kernel_rfl) (by kernel_rfl) (by kernel_rfl) (.ld aj rfl .p0 rfl) .q0 ?_
 refine .aq fds [15] ?_
 refine .aq fds [16] ?_
 refine .aq fds [17] ?_
 refine .si 18 (t:=63) rfl rfl rfl rfl (by kernel_rfl) (by kernel_rfl) (by kernel_rfl) (.ld aj rfl .p0 rfl) .q0 ?_
 refine .aq fds [19] ?_
 refine .al 72 (.bool true) rfl (bS (by omega)) ?_
 refine .aq fds [20] ?_
 refine .aq fds [21] ?_
 refine .dn ?_
 refine .ca (an lb (a6 p db pre most (z:Int) (w:Int) la n lc) 57) (rfl) ?_
 refine .aF Tryz.func65 (.t1 rfl) .fx ?_
 exact⟨[_,_,_],⟨rfl,rfl⟩,rfl⟩
theorem CB(lb db mb:Nat)(d:Dk)(p:Option Addr)(pre:Nm)(most start aJ:Int)(la:Option Addr)(n lc:Nat)(hp:og pre)(hm:(d.get (aP pre)).isSome=false):Cn Tryz.prog 65 [.pointer (some ⟨lb,0,none⟩)] LV [an lb (a6 p db pre most start aJ la n lc) 57,an db (d.cells mb) 74,mp aY Fl.val mb d.fs] fun v G=>v=.bool true∧G=[an lb (a6 p db pre most start aJ la n lc) 57,an db (d.cells mb) 74,mp aY Fl.val mb d.fs]:=by
 refine .en Tryz.func65 fun R k=>?_
 have h3:=hp.len
 refine .go fds 5 ?_
 refine .dr [3,7] [an lb (a6 p db pre most start aJ la n lc) 57] ?_
 refine .aq fds [0] ?_
 refine .aq fds [1] ?_
 refine .aq fds [2] ?_
 refine .re 3 rfl (.ld di rfl .p0 rfl) .q0 ?_
 refine .aq fds [4] ?_
 refine .aq fds [5] ?_
 refine .aq fds [6] ?_
 refine .re 7 rfl (.ld aS rfl .p0 rfl) .q0 ?_
 refine .rq 8 rfl (.eb (l:=pre) (m:=[46,109,101,116,97]) rfl rfl (by(repeat rw[List.length_append]);simp only[List.length_cons,List.length_nil];omega)) ?_
 refine .al 20 (.string (str (aP pre))) rfl (rfl) ?_
 refine .eg 9 rfl (.fn rfl rfl .pu ah (jN db mb d (aP pre))) ?_
 rintro v _ ⟨G1,hq,rfl⟩
 obtain⟨rfl,rfl⟩:=hq
 simp only[ag,ae]
 refine aA ?_
 refine .al 21 (.tuple #[.string (str (d.file (aP pre)).b),.int .i64 8]) rfl (by rw[if_neg (by rw[hm];decide)]) ?_
 refine .aq fds [10] ?_
 refine .aq fds [11] ?_
 refine .aq fds [12] ?_
 refine .aq fds [13] ?_
 refine .aq fds [14] ?_
 refine .dn ?_
 refine .go fds 11 ?_
 refine .aF Tryz.func65 (.t1 rfl) .wk ?_
 exact⟨[_,_,_],⟨rfl,rfl⟩,rfl⟩
abbrev Piece:=Nat×List aR×List UInt8
structure Holds(pre:Nm)(d:Dk)(p:Piece):Prop where
 le:p.1≤1000000000
 get:(d.get (nameOf pre p.1)).isSome=true
 file:(d.file (nameOf pre p.1)).b=flat p.2.1++p.2.2
 stop:p.2.2=[]∨(aX p.2.2).2.2≠0
 chain:bT (p.1:Int) p.2.1
 aT:∀b∈p.2.1,b.aT
 len:p.2.1.length≤4096
def rL:Int→List Piece→Prop
 |_,[]=>True
 |n,p::r=>(p.1:Int)=n∧rL (aC (p.1:Int) p.2.1) r
def su(n:Int)(L:List Piece):Int:=L.foldl (fun _ p=>aC (p.1:Int) p.2.1) n
structure Found(pre:Nm)(d:Dk)(L:List Piece)(z w:Nat):Prop where
 holds:∀p∈L,Holds pre d p
 nF:bk pre (bp (d.fs.map (·.1)))=L.map (·.1)
 nodup:(L.map (·.1)).Nodup
 link:∃n:Int,n≤z∧rL n L
 ne:∀i p,i+1<L.length→L[i]?=some p→p.2.1≠[]
 len:L.length≤1000
 next:∀p,L.getLast?=some p→(z:Int)≤aC (p.1:Int) p.2.1
 xS:L≠[]
 zw:z≤w∧w≤1000000000
 wU:(z=0∧w=0∧(d.get (aP pre)).isSome=false)∨((d.get (aP pre)).isSome=true∧(d.file (aP pre)).b=mt z w)
structure fN(pre:Nm)(d:Dk)(L:List Piece)(z w:Nat):Prop where
 holds:∀p∈L,Holds pre d p
 nF:bk pre (bp (d.fs.map (·.1)))=L.map (·.1)
 nodup:(L.map (·.1)).Nodup
 link:∃n:Int,n≤z∧rL n L
 ne:∀i p,i+1<L.length→L[i]?=some p→p.2.1≠[]
 len:L.length≤1000
 xS:L≠[]
 zw:z≤w∧w≤1000000000
 wU:(z=0∧w=0∧(d.get (aP pre)).isSome=false)∨((d.get (aP pre)).isSome=true∧(d.file (aP pre)).b=mt z w)
theorem Found.x{pre:Nm}{d:Dk}{L:List Piece}{z w:Nat}(h:Found pre d L z w):fN pre d L z w:=⟨h.holds,h.nF,h.nodup,h.link,h.ne,h.len,h.xS,h.zw,h.wU⟩
def sig(s:Sx):Int×Nm×List aR:=(s.base,s.nm,s.bs)
def zQ(pre:Nm)(p:Piece):Int×Nm×List aR:=((p.1:Int),nameOf pre p.1,p.2.1)
structure eu(pre:Nm)(d:Dk)(L:List Piece)(i:Nat)(ss:List Sx)(e:Dk):Prop where
 sigs:ss.map sig=(L.take i).map (zQ pre)
 ok:∀s∈ss,s.ok
 cR:e.ok
 size:e.size=d.size
 used:e.used≤d.used
 get:∀n,(e.get n).isSome=(d.get n).isSome
 IU:∀p∈L.take i,e.file (nameOf pre p.1)=⟨flat p.2.1,(flat p.2.1).length⟩
 left:∀n,(∀p∈L.take i,n≠nameOf pre p.1)→e.file n=d.file n
theorem eu.begin(pre:Nm){d:Dk}(hd:d.ok)(L:List Piece):eu pre d L 0 [] d:=⟨rfl,fun _ h=>(by cases h),hd,rfl,Nat.le_refl _,fun _=>rfl,fun _ h=>(by cases h),fun _ _=>rfl⟩
theorem eu.here{pre:Nm}{d:Dk}{L:List Piece}{i:Nat}{ss:List Sx}{e:Dk}(h:eu pre d L i ss e)(mm:(L.map (·.1)).Nodup){p:Piece}(hp:L[i]?=some p):e.file (nameOf pre p.1)=d.file (nameOf pre p.1):=by
 refine h.left _ fun q hq e=>?_
 have M3:=ci e
 obtain⟨j,hj⟩:=List.getElem?_of_mem hq
 have fU:j<i:=by have:=(List.getElem?_eq_some_iff.1 hj).1;rw[List.length_take]at this;omega
 rw[List.getElem?_take,if_pos fU]at hj
 have h1:(L.map (·.1))[j]?=some q.1:=by rw[List.getElem?_map,hj];rfl
 have h2:(L.map (·.1))[i]?=some p.1:=by rw[List.getElem?_map,hp];rfl
 obtain⟨a1,a2⟩:=List.getElem?_eq_some_iff.1 h1
 obtain⟨b1,b2⟩:=List.getElem?_eq_some_iff.1 h2
 exact(List.pairwise_iff_getElem.1 mm j i a1 b1 fU) (a2.trans (M3.symm.trans b2.symm))
theorem eu.step{pre:Nm}{d:Dk}{L:List Piece}{i:Nat}{ss:List Sx}{e:Dk}(h:eu pre d L i ss e)(mm:(L.map (·.1)).Nodup){p:Piece}(hp:L[i]?=some p)(hh:Holds pre d p){sb:Nat}{sm:List Nat}{aa:Option Addr}{ac:Nat}{ia:Option Addr}{ic:Nat}(iM:Ix sm p.2.1.length)(qQ:p.2.1.length≤ac):eu pre d L (i+1) (ss++[Sx.mk sb (nameOf pre p.1) (p.1:Int) p.2.1 sm aa ac ia ic]) (e.put (nameOf pre p.1) ⟨flat p.2.1,(flat p.2.1).length⟩):=by
 have hf:=h.here mm hp
 have hu:=Dk.cc h.cR (nameOf pre p.1) ⟨flat p.2.1,(flat p.2.1).length⟩
 rw[hf,hh.file,List.length_append]at hu
 dsimp only at hu
 have ht:L.take (i+1)=L.take i++[p]:=by rw[List.take_add_one,hp];rfl
 refine⟨?_,fun s hs=>?_,Dk.dO h.cR (by dsimp only;rw[hf,hh.file,List.length_append];have:=h.cR.used;omega) (Nat.le_refl _),h.size,by have:=h.used;omega,fun n=>?_,fun q hq=>?_,fun n hn=>?_⟩
 ·
  rw[List.map_append,h.sigs,ht,List.map_append];rfl
 ·
  rcases List.mem_append.1 hs with hs|hs
  ·
   exact h.ok s hs
  ·
   rw[List.mem_singleton.1 hs]
   exact⟨by show(0:Int)≤(p.1:Int);omega,by show(p.1:Int)≤1000000000;have:=hh.le;omega,hh.chain,hh.aT,hh.len,iM,qQ⟩
 ·
  rw[Dk.jE]
  split
  ·
   rename_i e1;rw[e1,hh.get];rfl
  ·
   exact h.get n
 ·
  rw[ht]at hq
  by_cases hx:nameOf pre q.1=nameOf pre p.1
  ·
   have M7:=ci hx
   rcases List.mem_append.1 hq with hq|hq
   ·
    exfalso
    have:=h.here mm hp
    obtain⟨j,hj⟩:=List.getElem?_of_mem hq
    have fU:j<i:=by have:=(List.getElem?_eq_some_iff.1 hj).1;rw[List.length_take]at this;omega
    rw[List.getElem?_take,if_pos fU]at hj
    have h1:(L.map (·.1))[j]?=some q.1:=by rw[List.getElem?_map,hj];rfl
    have h2:(L.map (·.1))[i]?=some p.1:=by rw[List.getElem?_map,hp];rfl
    obtain⟨a1,a2⟩:=List.getElem?_eq_some_iff.1 h1
    obtain⟨b1,b2⟩:=List.getElem?_eq_some_iff.1 h2
    exact(List.pairwise_iff_getElem.1 mm j i a1 b1 fU) (a2.trans (M7.trans b2.symm))
   ·
    rw[List.mem_singleton.1 hq,Dk.aW]
  ·
   rw[(Dk.aK _ _ hx).1]
   rcases List.mem_append.1 hq with hq|hq
   ·
    exact h.IU q hq
   ·
    rw[List.mem_singleton.1 hq]at hx;exact absurd rfl hx
 ·
  rw[(Dk.aK _ _ (hn p (by rw[ht];exact List.mem_append_right _ (.head _)))).1]
  exact h.left n fun q hq=>hn q (by rw[ht];exact List.mem_append_left _ hq)
theorem xT(pre:Nm):∀{n:Int} {L:List Piece} {ss:List Sx},rL n L→ss.map sig=L.map (zQ pre)→jd n ss
 |_,[],[],_,_=>trivial
 |_,p::L,s::ss,h,e=>by
  obtain⟨e1,e2⟩:=List.cons.inj e
  have e3:s.base=(p.1:Int):=congrArg (·.1) e1
  have e4:s.bs=p.2.1:=congrArg (·.2.2) e1
  refine⟨e3.trans h.1,?_⟩
  have:=xT pre h.2 e2
  show jd (aC s.base s.bs) ss
  rw[e3,e4];exact this
theorem rM:∀{n:Int} {L:List Piece} {i:Nat} {p q:Piece},rL n L→L[i]?=some p→L[i+1]?=some q→(q.1:Int)=aC (p.1:Int) p.2.1
 |_,x::L,0,p,q,h,hp,hq=>by
  cases hp
  cases L with
  |nil=>cases hq
  |cons y L=>cases hq;exact h.2.1
 |_,x::L,i+1,p,q,h,hp,hq=>rM (i:=i) h.2 hp hq
theorem eu.len{pre:Nm}{d:Dk}{L:List Piece}{i:Nat}{ss:List Sx}{e:Dk}(h:eu pre d L i ss e)(hi:i≤L.length):ss.length=i:=by
 have:=congrArg List.length h.sigs
 rw[List.length_map,List.length_map,List.length_take]at this;omega
theorem eu.at{pre:Nm}{d:Dk}{L:List Piece}{i:Nat}{ss:List Sx}{e:Dk}(h:eu pre d L i ss e){j:Nat}{s:Sx}(hs:ss[j]?=some s):∃p,(L.take i)[j]?=some p∧s.base=(p.1:Int)∧s.nm=nameOf pre p.1∧s.bs=p.2.1:=by
 have h1:=congrArg (fun l=>l[j]?) h.sigs
 simp only[List.getElem?_map,hs,Option.map_some]at h1
 obtain⟨p,hp,e1⟩:=Option.map_eq_some_iff.1 h1.symm
 exact⟨p,hp,(congrArg (·.1) e1).symm,(congrArg (·.2.1) e1).symm,(congrArg (·.2.2) e1).symm⟩
theorem eu.last{pre:Nm}{d:Dk}{L:List Piece}{i:Nat}{r:List Sx}{y:Sx}{e:Dk}(h:eu pre d L i (r++[y]) e)(hi:i≤L.length):∃p,L[i-1]?=some p∧0<i∧y.base=(p.1:Int)∧y.nm=nameOf pre p.1∧y.bs=p.2.1:=by
 have hl:=h.len hi
 rw[List.length_append]at hl
 have OX:r.length+1=i:=hl
 obtain⟨p,hp,h1,h2,h3⟩:=h.at (j:=r.length) (s:=y) (by simp)
 rw[List.getElem?_take,if_pos (by omega)]at hp
 exact⟨p,by rw[show i-1=r.length by omega];exact hp,by omega,h1,h2,h3⟩
theorem eu.log{pre:Nm}{d:Dk}{L:List Piece}{z w:Nat}{ss r:List Sx}{y:Sx}{e:Dk}(h:eu pre d L L.length ss e)(hF:fN pre d L z w)(hz:(z:Int)≤y.next)(hp:og pre)(hs:ss=r++[y]){most:Int}(h1:256≤most)(h2:most≤1000000)(lb:Nat)(la:Option Addr)(lc:Nat):(Lx.mk lb pre most z (min (w:Int) y.next) r y la lc).ok e:=by
 have Am:=h.len (Nat.le_refl _)
 have oI:=h.sigs
 rw[List.take_length]at oI
 obtain⟨n,hn,EN⟩:=hF.link
 have KY:=xT pre EN oI
 subst hs
 obtain⟨p,A0,HV,e1,e2,e3⟩:=h.last (Nat.le_refl _)
 have hb:a8 (Lx.mk lb pre most z (min (w:Int) y.next) r y la lc)=n:=by
  unfold a8 Lx.au
  cases r with
  |nil=>exact KY.1
  |cons x r=>exact KY.1
 have KX:=hF.zw
 refine⟨hp,fun s hs=>?_,by rw[hb];exact KY,fun s hs=>?_,⟨by show(0:Int)≤(z:Int);omega,by rw[hb];exact hn,hz⟩,⟨by show(z:Int)≤min (w:Int) y.next;omega,by show min (w:Int) y.next≤y.next;omega⟩,⟨h1,h2⟩,by show(r++[y]).length≤_;rw[Am];have:=hF.len;omega⟩
 ·
  obtain⟨j,hj⟩:=List.getElem?_of_mem hs
  obtain⟨q,hq,f1,f2,f3⟩:=h.at (ss:=r++[y]) (j:=j) hj
  rw[List.take_length]at hq
  have Q2:=List.mem_of_getElem? hq
  have hh:=hF.holds q Q2
  have hd:=h.IU q (by rw[List.take_length];exact Q2)
  refine⟨h.ok s hs,by rw[f2,f1];rfl,by rw[f2,h.get];exact hh.get,by rw[f2,hd,f3]⟩
 ·
  obtain⟨j,hj⟩:=List.getElem?_of_mem hs
  have SO:j<r.length:=(List.getElem?_eq_some_iff.1 hj).1
  obtain⟨q,hq,f1,f2,f3⟩:=h.at (ss:=r++[y]) (j:=j) (by rw[List.getElem?_append_left SO];exact hj)
  rw[List.take_length]at hq
  rw[f3]
  rw[List.length_append]at Am
  exact hF.ne j q (by have:r.length+1=L.length:=Am;omega) hq
def jY(ss:List Sx):Option Addr:=ss.getLast?.map fun s=>⟨s.b,0,none⟩
theorem l5(r:List Sx)(y:Sx):jY (r++[y])=some ⟨y.b,0,none⟩:=by unfold jY;rw[List.getLast?_append];rfl
theorem fN.first{pre:Nm}{d:Dk}{L:List Piece}{z w:Nat}(h:fN pre d L z w){p:Piece}(hp:L[0]?=some p):(p.1:Int)≤(z:Int):=by
 obtain⟨n,hn,EN⟩:=h.link
 cases L with
 |nil=>cases hp
 |cons x r=>cases hp;have:=EN.1;omega
theorem eu.ahead{pre:Nm}{d:Dk}{L:List Piece}{z w i:Nat}{ss:List Sx}{e:Dk}(h:eu pre d L i ss e)(hF:fN pre d L z w)(mj:i≤L.length)(hi:0<i){p:Piece}(hp:L[i]?=some p):∃r y,ss=r++[y]∧y∈ss∧jY ss=some ⟨y.b,0,none⟩∧y.ok∧(p.1:Int)=y.next:=by
 have oS:=h.len mj
 obtain⟨r,y,rfl⟩:∃r y,ss=r++[y]:=⟨ss.dropLast,ss.getLast (fun h=>by rw[h]at oS;simp at oS;omega),(List.dropLast_concat_getLast _).symm⟩
 have Gm:y∈r++[y]:=by simp
 obtain⟨q,hq,_,PL,SP,wY⟩:=h.last mj
 refine⟨r,y,rfl,Gm,l5 r y,h.ok y Gm,?_⟩
 show(p.1:Int)=aC y.base y.bs
 rw[PL,wY]
 obtain⟨n,_,EN⟩:=hF.link
 exact rM (i:=i-1) EN hq (by rw[show i-1+1=i by omega];exact hp)
theorem eu.end_{pre:Nm}{d:Dk}{L:List Piece}{z w:Nat}{ss:List Sx}{e:Dk}(h:eu pre d L L.length ss e)(hF:fN pre d L z w):∃r y,ss=r++[y]∧y∈ss∧jY ss=some ⟨y.b,0,none⟩∧y.ok∧∃q,L.getLast?=some q∧y.next=aC (q.1:Int) q.2.1:=by
 have oS:=h.len (Nat.le_refl _)
 have HV:0<L.length:=List.length_pos_iff.2 hF.xS
 obtain⟨r,y,rfl⟩:∃r y,ss=r++[y]:=⟨ss.dropLast,ss.getLast (fun h=>by rw[h]at oS;simp at oS;omega),(List.dropLast_concat_getLast _).symm⟩
 have Gm:y∈r++[y]:=by simp
 obtain⟨q,hq,_,PL,SP,wY⟩:=h.last (Nat.le_refl _)
 refine⟨r,y,rfl,Gm,l5 r y,h.ok y Gm,?_⟩
 refine⟨q,by rw[List.getLast?_eq_getElem?];exact hq,?_⟩
 show aC y.base y.bs=_
 rw[PL,wY]
structure l6(pre:Nm)(d:Dk)(L:List Piece)(z w:Nat)(l:Lx)(ss:List Sx)(e:Dk):Prop where
 ok:l.ok e
 open_:eu pre d L L.length ss e
 au:l.au=ss
 start:l.start=(z:Int)
 aJ:l.aJ=min (w:Int) l.next
theorem tP:∀(bs:List aR) (c:Nat),(∀b∈bs,b.aT)→c≤(flat bs).length→∃k rest,k≤bs.length∧(flat bs).take c=flat (bs.take k)++rest∧(rest=[]∨(aX rest).2.2≠0)∧∀m,m≤bs.length→(flat (bs.take m)).length≤c→m≤k
 |[],c,_,h=>⟨0,[],Nat.le_refl _,by simp[flat],.inl rfl,fun m hm _=>hm⟩
 |b::bs,c,hg,h=>by
  have hb:=hg b (.head _)
  by_cases hc:c<(enc b).length
  ·
   refine⟨0,(enc b).take c,Nat.zero_le _,?_,.inr ?_,fun m hm hl=>?_⟩
   ·
    rw[dl,List.take_append_of_le_length (Nat.le_of_lt hc)];rfl
   ·
    show(aX ((dA b).1.take c)).2.2≠0
    rw[DZ hb.right hc];decide
   ·
    cases m with
    |zero=>exact Nat.le_refl _
    |succ m=>
     rw[List.take_succ_cons,dl,List.length_append]at hl
     omega
  ·
   rw[dl,List.length_append]at h
   obtain⟨k,rest,h1,h2,h3,h4⟩:=tP bs (c-(enc b).length) (fun x hx=>hg x (.tail _ hx)) (by omega)
   refine⟨k+1,rest,Nat.succ_le_succ h1,?_,h3,fun m hm hl=>?_⟩
   ·
    rw[dl,List.take_succ_cons,dl,List.append_assoc,←h2,List.take_append,List.take_of_length_le (by omega)]
   ·
    cases m with
    |zero=>exact Nat.zero_le _
    |succ m=>
     rw[List.take_succ_cons,dl,List.length_append]at hl
     exact Nat.succ_le_succ (h4 m (Nat.le_of_succ_le_succ hm) (by omega))
def KZ(l:Lx)(d:Dk)(m:Nat):Prop:=m≤l.ai.bs.length∧(d.file l.ai.nm).safe=(flat (l.ai.bs.take m)).length
def rN(l:Lx)(m:Nat):Int:=aC l.ai.base (l.ai.bs.take m)
def pieces(l:Lx)(k:Nat)(rest:List UInt8):List Piece:=l.bX.map (fun s=>(s.base.toNat,s.bs,[]))++[(l.ai.base.toNat,l.ai.bs.take k,rest)]
theorem l7(l:Lx)(k rest):(pieces l k rest).map (·.1)=l.au.map fun s=>s.base.toNat:=by
 unfold pieces Lx.au;rw[List.map_append,List.map_append,List.map_map];rfl
theorem oX:∀{n:Int} {r:List Sx} {c:Sx} {k:Nat} {rest:List UInt8},jd n (r++[c])→(∀s∈r++[c],s.ok)→rL n (r.map (fun s=>(s.base.toNat,s.bs,([]:List UInt8)))++[(c.base.toNat,c.bs.take k,rest)])
 |n,[],c,k,rest,h,ho=>⟨by have:=h.1;have:=(ho c (.head _)).bD;show((c.base.toNat:Nat):Int)=n;omega,trivial⟩
 |n,x::r,c,k,rest,h,ho=>by
  have h0:=(ho x (.head _)).bD
  have e:((x.base.toNat:Nat):Int)=x.base:=by omega
  refine⟨e.trans h.1,?_⟩
  show rL (aC ((x.base.toNat:Nat):Int) x.bs) _
  rw[e]
  exact oX (n:=x.next) h.2 fun s hs=>ho s (.tail _ hs)
theorem xU{l:Lx}{d:Dk}(hl:l.ok d){s:Sx}(hs:s∈l.au):s.nm≠aP l.pre:=by
 obtain⟨c1,c2,_,_⟩:=hl.gP s hs
 rw[c2];exact cN (by have:=c1.bD;have:=c1.ei;omega)
theorem iq{f g:Fl}(h:vv f g)(hs:f.safe=f.b.length):g=f:=by
 obtain⟨z,h1,h2,rfl⟩:=h
 have:z=f.b.length:=by omega
 subst this
 rw[List.take_length]
 cases f;simp at hs;simp[hs]
theorem nG{l:Lx}{d e:Dk}{z w m:Nat}(hl:l.ok d)(hd:d.ok)(ho:mr l d)(hf:Full l d)(hC:ik d e)(hn:l.au.length≤1000)(hz:l.start=(z:Int))(KX:z≤w∧w≤1000000000)(K0:(z=0∧w=0∧(d.get (aP l.pre)).isSome=false)∨((d.get (aP l.pre)).isSome=true∧d.file (aP l.pre)=⟨mt z w,(mt z w).length⟩))(hm:m≤l.ai.bs.length∧(flat (l.ai.bs.take m)).length≤(d.file l.ai.nm).safe):∃k rest,m≤k∧k≤l.ai.bs.length∧fN l.pre e (pieces l k rest) z w:=by
 obtain⟨c1,c2,c3,c4⟩:=hl.ai
 obtain⟨t,Br,Bt,Q3⟩:=hC.file l.ai.nm
 rw[c4]at Bt Q3
 obtain⟨k,rest,hk,yo,nL,SQ⟩:=tP l.ai.bs t c1.aT Bt
 have PM:=SQ m hm.1 (Nat.le_trans hm.2 Br)
 have KC:=c1.bD
 have IL:((l.ai.base.toNat:Nat):Int)=l.ai.base:=by omega
 have HX:mr l e:=fun u hu hg=>ho u hu (by rw[←hC.get];exact hg)
 have Cq:∀s∈l.bX,e.file s.nm=d.file s.nm:=fun s hs=>iq (hC.file s.nm) (hf s hs)
 have A3:∀s∈l.au,s.ok:=fun s hs=>(hl.gP s hs).1
 have K2:bk l.pre (bp (e.fs.map (·.1)))=l.au.map fun s=>s.base.toNat:=by rw[hC.keys];exact tI hl hd ho
 refine⟨k,rest,PM,hk,fun p hp=>?_,by rw[K2,l7],?_,⟨a8 l,by have:=hl.start;omega,oX hl.link A3⟩,fun i p hi hp=>?_,?_,by unfold pieces;simp,KX,?_⟩
 ·
  rcases List.mem_append.1 hp with hp|hp
  ·
   obtain⟨s,hs,rfl⟩:=List.mem_map.1 hp
   obtain⟨s1,s2,s3,s4⟩:=hl.gP s (List.mem_append_left _ hs)
   have h0:=s1.bD
   have Lz:((s.base.toNat:Nat):Int)=s.base:=by omega
   refine⟨by show s.base.toNat≤_;have:=s1.ei;omega,by show(e.get (nameOf l.pre s.base.toNat)).isSome=true;rw[←s2,hC.get];exact s3,?_,.inl rfl,by show bT ((s.base.toNat:Nat):Int) s.bs;rw[Lz];exact s1.chain,s1.aT,s1.len⟩
   show(e.file (nameOf l.pre s.base.toNat)).b=flat s.bs++[]
   rw[←s2,Cq s hs,s4,List.append_nil]
  ·
   rw[List.mem_singleton.1 hp]
   refine⟨by show l.ai.base.toNat≤_;have:=c1.ei;omega,by show(e.get (nameOf l.pre l.ai.base.toNat)).isSome=true;rw[←c2,hC.get];exact c3,?_,nL,by show bT ((l.ai.base.toNat:Nat):Int) (l.ai.bs.take k);rw[IL];exact c1.chain.take k,fun b hb=>c1.aT b (List.mem_of_mem_take hb),by show(l.ai.bs.take k).length≤4096;rw[List.length_take];have:=c1.len;omega⟩
   show(e.file (nameOf l.pre l.ai.base.toNat)).b=flat (l.ai.bs.take k)++rest
   rw[←c2,Q3];exact yo
 ·
  rw[l7,←tI hl hd ho]
  exact(iK (kY _) (fM hd.nodup)).imp fun h=>by omega
 ·
  unfold pieces at hp hi
  rw[List.length_append,List.length_map]at hi
  have ue:i<l.bX.length:=by simp at hi;omega
  rw[List.getElem?_append_left (by rw[List.length_map];exact ue),List.getElem?_map]at hp
  obtain⟨s,hs,rfl⟩:=Option.map_eq_some_iff.1 hp
  exact hl.ne s (List.mem_of_getElem? hs)
 ·
  unfold pieces;rw[List.length_append,List.length_map];unfold Lx.au at hn;rw[List.length_append]at hn;exact hn
 ·
  rcases K0 with⟨h1,h2,h3⟩|⟨h1,h2⟩
  ·
   exact .inl ⟨h1,h2,by rw[hC.get];exact h3⟩
  ·
   refine .inr ⟨by rw[hC.get];exact h1,?_⟩
   rw[iq (hC.file _) (by rw[h2]),h2]
theorem xV{l:Lx}{d:Dk}{k:Nat}{rest:List UInt8}(hl:l.ok d){p:Piece}(hp:(pieces l k rest).getLast?=some p):aC (p.1:Int) p.2.1=rN l k:=by
 have KC:=hl.ai.1.bD
 unfold pieces at hp
 rw[List.getLast?_append]at hp
 cases hp
 show aC ((l.ai.base.toNat:Nat):Int) (l.ai.bs.take k)=_
 rw[show((l.ai.base.toNat:Nat):Int)=l.ai.base by omega];rfl
theorem xW{l:Lx}{d e:Dk}{z w m:Nat}(hl:l.ok d)(hd:d.ok)(ho:mr l d)(hf:Full l d)(hC:ik d e)(hn:l.au.length≤1000)(hz:l.start=(z:Int))(KX:z≤w∧w≤1000000000)(K0:(z=0∧w=0∧(d.get (aP l.pre)).isSome=false)∨((d.get (aP l.pre)).isSome=true∧d.file (aP l.pre)=⟨mt z w,(mt z w).length⟩))(hm:m≤l.ai.bs.length∧(flat (l.ai.bs.take m)).length≤(d.file l.ai.nm).safe)(UU:(z:Int)≤rN l m):∃k rest,m≤k∧k≤l.ai.bs.length∧Found l.pre e (pieces l k rest) z w:=by
 obtain⟨k,rest,h1,h2,h⟩:=nG hl hd ho hf hC hn hz KX K0 hm
 refine⟨k,rest,h1,h2,h.holds,h.nF,h.nodup,h.link,h.ne,h.len,fun p hp=>?_,h.xS,h.zw,h.wU⟩
 rw[xV hl hp]
 have:=hl.ai.1.chain.mono hl.ai.1.aT h1
 unfold rN at*;omega
theorem rO{l l2:Lx}{d e e2:Dk}{k z w:Nat}{rest:List UInt8}{ss:List Sx}(hl:l.ok d)(h:l6 l.pre e (pieces l k rest) z w l2 ss e2):l2.all=l.bX.flatMap (fun s=>s.bs)++l.ai.bs.take k∧l2.next=rN l k∧KZ l2 e2 l2.ai.bs.length:=by
 have oI:=h.open_.sigs
 rw[List.take_length,←h.au]at oI
 have KC:=hl.ai.1.bD
 have IL:((l.ai.base.toNat:Nat):Int)=l.ai.base:=by omega
 have e1:(pieces l k rest).map (zQ l.pre)=l.bX.map (fun s=>zQ l.pre (s.base.toNat,s.bs,[]))++[zQ l.pre (l.ai.base.toNat,l.ai.bs.take k,rest)]:=by unfold pieces;rw[List.map_append,List.map_map];rfl
 rw[e1]at oI
 unfold Lx.au at oI
 rw[List.map_append]at oI
 obtain⟨h1,h2⟩:=List.append_inj' oI rfl
 have h3:sig l2.ai=zQ l.pre (l.ai.base.toNat,l.ai.bs.take k,rest):=(List.cons.inj h2).1
 have hb:l2.ai.base=l.ai.base:=(congrArg (·.1) h3).trans IL
 have Cu:l2.ai.bs=l.ai.bs.take k:=congrArg (·.2.2) h3
 refine⟨?_,?_,Nat.le_refl _,?_⟩
 ·
  unfold Lx.all Lx.au
  rw[List.flatMap_append]
  have h4:l2.bX.flatMap (fun s=>s.bs)=l.bX.flatMap (fun s=>s.bs):=by
   have h5:=congrArg (fun L=>(L.map fun x:Int×Nm×List aR=>x.2.2).flatten) h1
   simp only[List.map_map]at h5
   rw[List.flatMap_def,List.flatMap_def]
   exact h5
  rw[h4];simp[Cu]
 ·
  show aC l2.ai.base l2.ai.bs=aC l.ai.base (l.ai.bs.take k)
  rw[hb,Cu]
 ·
  have hd:=h.open_.IU (l.ai.base.toNat,l.ai.bs.take k,rest) (by rw[List.take_length];unfold pieces;simp)
  have ph:l2.ai.nm=nameOf l.pre l.ai.base.toNat:=congrArg (·.2.1) h3
  rw[ph,hd,List.take_length,Cu]
theorem FK:og [112]:=⟨by decide,by decide,by decide⟩
theorem FL{z:Nat}(h:z≤16777216):(Dk.mk z []).ok:=⟨.nil,Nat.zero_le _,h,fun _ h=>by cases h⟩
theorem oJ(z:Nat):dJ (Dk.mk z []):=fun _ h=>by cases h
theorem xX(z:Nat)(pre:Nm):KR pre (Dk.mk z []):=⟨rfl,fun _ _=>rfl⟩
theorem FM{d e:Dk}(hd:d.ok)(he:e.ok)(h:∀n,(e.get n).isSome=(d.get n).isSome):e.fs.length=d.fs.length:=by
 have hp:(e.fs.map (·.1)).Perm (d.fs.map (·.1)):=(List.perm_ext_iff_of_nodup he.nodup hd.nodup).2 fun n=>by rw[←er,←er,h n]
 have:=hp.length_eq
 rwa[List.length_map,List.length_map]at this
theorem gY.nil:gY []:=⟨.nil,fun _ h=>(by cases h)⟩
theorem Lx.ok.K3{l:Lx}{d:Dk}(h:l.ok d):∀b∈l.all,0<b.en:=fun b hb=>by
 obtain⟨s,hs,hb⟩:=List.mem_flatMap.1 hb
 have hk:=(h.gP s hs).1
 have:=kV hk hb
 have:=hk.bD
 omega
theorem Bu{l:Lx}{d:Dk}(h:l.ok d)(h0:l.start=0):l.e7=l.all:=by
 unfold Lx.e7 bJ;rw[h0];exact List.filter_eq_self.2 fun b hb=>decide_eq_true (h.K3 b hb)
theorem eG{α:Type}{p:α→Prop}:∀x∈([]:List α),p x:=fun _ h=>(by cases h)
theorem ij.nil(t:Tm):ij t []:=fun i b h=>(by cases h)
theorem FN{d:Dk}{c:Cx}{es:List Ep}(h:es=c.es):bA d c es=d:=if_pos h
theorem tQ{z:Nat}{l:Lx}{d:Dk}(h:dG [112] 300 (Dk.mk z []) l d∨dG [112] 256 (Dk.mk z []) l d)(hz:5000≤z):Bk [112] [] [] l d:=by
 have key:∀m,dG [112] m (Dk.mk z []) l d→Bk [112] [] [] l d:=fun m h=>by
  have hv:l.e7=[]:=by rw[Bu h.ok h.start,h.all]
  have zO:d.used=0:=h.used
  have jz:d.size=z:=h.size
  have FP:=h.len
  refine⟨h.cR,h.ok,h.pre,by rw[h.all];exact Nat.zero_le _,.nil,.inl ⟨?_,rfl⟩,.inl ⟨?_,rfl⟩,by omega,Nat.lt_of_le_of_lt FP (by show 0+1<254;decide),by rw[hv];exact eG,by rw[hv];exact .nil _⟩
  ·
   rw[(h.eF _ fun u hu=>fK hu).2];rfl
  ·
   rw[(h.eF _ fun u hu=>cL hu).2];rfl
 rcases h with h|h<;>exact key _ h
theorem tR{z:Nat}{m:Int}{s:St}{e d:Dk}(h:dG [112] m (Dk.mk z []) s.l e)(hz:5000≤z)(hO:Bl [112] [] [] s e d):bw z 0 0 0 s d∧zP s d:=by
 have k8:s.c.es=[]:=hO.es
 have hd:d=e:=hO.QV.trans (FN rfl)
 subst hd
 have hv:s.l.e7=[]:=by rw[Bu h.ok h.start,h.all]
 have ht:bg s.t.m=[]:=by rw[hO.t,hv];rfl
 have SR:(d.get (ek [112])).isSome=false:=by rw[(h.eF _ fun u hu=>fK hu).2];rfl
 have Nq:=h.au
 have FP:=h.len
 have lD:=h.next
 have SU:(d.file (eZ [112])).b=[]:=by rw[(h.eF _ fun u hu=>cL hu).1];rfl
 refine⟨⟨h.cR,h.ok,h.own,h.full,h.short FK (oJ _),h.pre,by rw[hO.nm,h.pre],by rw[lD];decide,by omega,by rw[h.all];exact Nat.le_refl _,h.size,by rw[h.used];exact Nat.zero_le _,by rw[h.pre,SU];exact Nat.zero_le _,fun n hn=>?_,by rw[k8];exact .nil,by rw[k8];exact Nat.le_refl _,by rw[k8];exact eG,by rw[k8];show(-1:Int)≤0;decide,by rw[hO.nm,k8];exact .inl ⟨SR,rfl⟩,by rw[ht];exact .nil,by rw[ht];exact eG,by rw[ht];exact eG⟩,⟨h.start,h.Nk,h.aJ,?_,?_,by rw[k8,h.all];rfl,by rw[ht,h.all];rfl,by rw[h.all];exact .nil _,by rw[h.all];exact eG⟩⟩
 ·
  rw[h.pre]
  by_cases hx:∃u,u≤1000000000∧n=nameOf [112] u
  ·
   exact .inr (.inr (.inr hx))
  ·
   rw[(h.eF n fun u hu e=>hx ⟨u,hu,e⟩).2]at hn;cases hn
 ·
  rw[h.pre,(h.eF _ fun u hu e=>cN (by omega) e.symm).2];rfl
 ·
  rw[h.pre,(h.eF _ fun u hu=>cL hu).2];rfl
theorem zH.short{l:Lx}{d d':Dk}(h:zH l d d')(hs:dJ d):dJ d':=fun n hn=>hs n (by rw[←h.names];exact hn)
theorem bw.sync{Z i j E s d}(h:bw Z i j E s d):bw Z i j E s (sync s.l d):=by
 have hS:=Bj h.ok h.cR
 have h1:=h.ok.ai.1.bD
 have h2:=h.ok.ai.1.ei
 have CW:ek s.l.pre≠s.l.ai.nm:=fun e=>fK (pre:=s.l.pre) (u:=s.l.ai.base.toNat) (by omega) (e.trans h.ok.ai.2.1)
 have Q4:eZ s.l.pre≠s.l.ai.nm:=fun e=>cL (pre:=s.l.pre) (u:=s.l.ai.base.toNat) (by omega) (e.trans h.ok.ai.2.1)
 exact⟨hS.cR,hS.ok,hS.own h.own,hS.full h.full,hS.short h.short,h.pre,h.nm,h.next,h.au,h.all,by rw[hS.size,h.size],by rw[hS.used,(hS.eF _ CW).1,(hS.eF _ Q4).1];exact h.used,by rw[(hS.eF _ Q4).1];exact h.LH,fun n hn=>h.names n (by rw[←hS.names];exact hn),h.es,h.Fy,h.LI,h.last,h.eM.same (by rw[h.nm];exact(hS.eF _ CW).1) (hS.names _),h.j5,h.keys,h.Fz⟩
def gi(l:Lx)(d:Dk):Prop:=(d.file l.ai.nm).safe=(d.file l.ai.nm).b.length
theorem K4(l:Lx)(d:Dk):gi l (sync l d):=by unfold gi sync;rw[Dk.aW]
structure Ty where
 pid:Int
 ep:Int
 seq:Int
 n:Int
 th:Int
 at_:Int
 ka:Option Addr
 kl:List Int
 kc:Nat
def Ty.cells(y:Ty):List Value:=[.int .i64 y.pid,.int .i64 y.ep,.int .i64 y.seq,.int .i64 y.n,.int .i64 y.th,.int .i64 y.at_,.slice y.ka y.kl.length y.kc]
theorem Ty.bV(y:Ty):y.cells.length=7:=rfl
structure Ty.ok(y:Ty):Prop where
 pid:i64 y.pid
 ep:i64 y.ep
 seq:i64 y.seq
 n:i64 y.n
 th:i64 y.th
 at_:i64 y.at_
 kl:y.kl.length≤y.kc∧(∀x∈y.kl,i64 x)∧y.kl.length≤140737488351232
theorem bw.mono{Z i i' j j' E F s d}(h:bw Z i j E s d)(hi:i≤i')(hj:j≤j')(hE:E≤F):bw Z i' j' F s d:=
 ⟨h.cR,h.ok,h.own,h.full,h.short,h.pre,h.nm,by have:=h.next;omega,by have:=h.au;omega,by have:=h.all;omega,h.size,by have:=h.used;omega,by have:=h.LH;omega,h.names,h.es,by have:=h.Fy;omega,h.LI,by have:=h.last;omega,h.eM,h.j5,h.keys,h.Fz⟩
theorem bw.late{Z i j E s d}(h:bw Z i j E s d){pid ep seq e:Int}{n:Nat}(h1:(ask (bg s.t.m) pid ep seq n).2=0)(h2:(ask (bg s.t.m) pid ep seq n).1<0)(hp:pid≠0):late (aD (bg s.t.m) pid) (fQ e pid ep seq n s.l.next)=false:=by
 obtain⟨_,_,h3⟩:=IT h.j5.tocC h1 h2 hp
 refine Bn fun z hz=>?_
 obtain⟨a1,a2,_⟩:=h3 z hz
 have hm:=List.mem_of_getLast? hz
 exact⟨h.KT pid z hm,a1,a2⟩
theorem pZ(db:Nat)(c:Cx)(hl:c.es.length≤100000):Cn Tryz.prog 31 [.pointer (some ⟨c.cb,0,none⟩)] (jJ db c) [] fun v G=>v=.int .i64 (ct c.es)∧G=[]:=by
 refine .en Tryz.func31 fun R k=>?_
 refine .ax fds 10 ?_
 refine .rd (.load eW rfl (af.one (i:=2) (af.pick .p0 (k.mono fun _ h=>h.1)) rfl)) ?_
 refine .rd (.bK rfl rfl Tryz.underlying64 rfl) ?_
 refine .aH fds 2 ?_
 refine .aL rfl (fun c1=>?_) (fun c1=>?_)
 ·
  refine .go fds 4 ?_
  refine .aF Tryz.func31 (.t1 rfl) .q0 ?_
  exact⟨[],⟨by have:c.es=[]:=List.eq_nil_of_length_eq_zero (by omega);rw[this];rfl,rfl⟩,rfl⟩
 ·
  refine .go fds 2 ?_
  obtain⟨x,hx⟩:∃x,c.es[c.es.length-1]?=some x:=⟨_,List.getElem?_eq_getElem (by omega)⟩
  refine .tell (φ:=∃b o,c.la=some ⟨b,o,none⟩) (af.pick .p0 (k.mono fun _ h=>aB.addr h.2 (by rw[ar cr];omega))) (fun hh=>?_)
  obtain⟨b9,o9,h9⟩:=hh
  refine .dr [3,7,12] [R] ?_
  refine .aq fds [0] ?_
  refine .aq fds [1] ?_
  refine .aq fds [2] ?_
  refine .re 3 rfl (.load eW rfl (af.one (i:=2) (af.pick .p0 (k.mono fun _ h=>h.1)) rfl)) .q0 ?_
  refine .aq fds [4] ?_
  refine .aq fds [5] ?_
  refine .aq fds [6] ?_
  refine .re 7 rfl (.load eW rfl (af.one (i:=2) (af.pick .p0 (k.mono fun _ h=>h.1)) rfl)) .q0 ?_
  refine .rq 8 rfl (.bK rfl rfl Tryz.underlying64 rfl) ?_
  refine .rq 9 rfl (.sub rfl rfl (by omega) (by omega)) ?_
  refine .al 18 (.int .i64 ((c.es.length-1:Nat))) rfl (congrArg (Value.int .i64) (by omega)) ?_
  refine .rq 10 rfl (.indexAddr (b:=b9) (o:=o9) Tryz.underlying64 cv (by show some (Value.slice (c.la) _ _)=_;rw[h9]) rfl (by omega) (by omega)) ?_
  refine .aq fds [11] ?_
  refine .re 12 rfl (.load aj rfl (af.one (i:=0) (af.elem (f:=fP) cr (by decide) (af.pick .p0 (k.mono fun _ h=>h9▸h.2)) (hx)) rfl)) .q0 ?_
  refine .aq fds [13] ?_
  refine .dn ?_
  refine .aF Tryz.func31 (.t1 rfl) .q0 ?_
  exact⟨[],⟨by rw[pK hx (by omega)];rfl,rfl⟩,rfl⟩
theorem CC(db bx tD i:Nat)(c:Cx)(z:Int)(x:Ep)(hl:c.es.length≤100000)(hx:c.es[i]?=some x):Cn Tryz.prog 119 [.int .i64 (i:Nat),.pointer (some ⟨bx,0,none⟩),.pointer (some ⟨tD,0,none⟩)] (fun w=>aN bx 0 [.pointer (some ⟨c.cb,0,none⟩)] w∧aN tD 0 [.int .i64 z] w∧jJ db c w) [] fun v G=>v=.bool (decide (z≤x.2))∧G=[]:=by
 refine .en Tryz.func119 fun R k=>?_
 have hi:=(List.getElem?_eq_some_iff.1 hx).1
 refine .tell (φ:=∃b o,c.la=some ⟨b,o,none⟩) (af.pick .p0 (k.mono fun _ h=>aB.addr h.2.2.2 (by rw[ar cr];omega))) (fun hh=>?_)
 obtain⟨b9,o9,h9⟩:=hh
 refine .go fds 5 ?_
 refine .dr [0,3,7,8] [R] ?_
 refine .re 0 rfl (.load gU rfl (af.one (i:=0) (af.pick .p0 (k.mono fun _ h=>h.1)) rfl)) .q0 ?_
 refine .aq fds [1] ?_
 refine .aq fds [2] ?_
 refine .re 3 rfl (.load eW rfl (af.one (i:=2) (af.pick .p0 (k.mono fun _ h=>h.2.2.1)) rfl)) .q0 ?_
 refine .aq fds [4] ?_
 refine .rq 5 rfl (.indexAddr (b:=b9) (o:=o9) Tryz.underlying64 cv (by show some (Value.slice (c.la) _ _)=_;rw[h9]) rfl (by omega) (by omega)) ?_
 refine .aq fds [6] ?_
 refine .re 7 rfl (.load aj rfl (af.one (i:=1) (af.elem (f:=fP) cr (by decide) (af.pick .p0 (k.mono fun _ h=>h9▸h.2.2.2)) (hx)) rfl)) .q0 ?_
 refine .re 8 rfl (.load aj rfl (af.one (i:=0) (af.pick .p0 (k.mono fun _ h=>h.2.1)) rfl)) .q0 ?_
 refine .aq fds [9] ?_
 refine .aq fds [10] ?_
 refine .dn ?_
 refine .aF Tryz.func119 (.t1 rfl) .q0 ?_
 exact⟨[],⟨rfl,rfl⟩,rfl⟩
theorem K5{db bx tD:Nat}{c:Cx}{z:Int}(hl:c.es.length≤100000)(i:Nat)(hi:i<c.es.length):Cn Tryz.prog 119 [.int .i64 (i:Nat),.pointer (some ⟨bx,0,none⟩),.pointer (some ⟨tD,0,none⟩)] (fun w=>aN bx 0 [.pointer (some ⟨c.cb,0,none⟩)] w∧aN tD 0 [.int .i64 z] w∧jJ db c w) [] fun v G=>v=.bool (pE c.es z i)∧G=[]:=by
 obtain⟨x,hx⟩:∃x,c.es[i]?=some x:=⟨_,List.getElem?_eq_getElem hi⟩
 rw[wL hx];exact CC db bx tD i c z x hl hx
theorem rP(db:Nat)(c:Cx)(z:Int)(hc:bO c.es):Cn Tryz.prog 76 [.pointer (some ⟨c.cb,0,none⟩),.int .i64 z] (jJ db c) [] fun v G=>v=.int .i64 ((bi z c.es).length:Nat)∧G=[]:=by
 refine .en Tryz.func76 fun R k=>?_
 have hl:=hc.len
 refine .ax fds 2 ?_
 refine .ef (.box (l:=[.pointer (some ⟨c.cb,0,none⟩)]) rfl rfl (ay.of rfl)) ?_
 rintro _ _ ⟨b2,rfl,rfl⟩
 refine .ef (.box (l:=[.int .i64 z]) rfl rfl (ay.of rfl)) ?_
 rintro _ _ ⟨b3,rfl,rfl⟩
 refine .ax fds 4 ?_
 refine .rd (.ld gU rfl .p1 rfl) ?_
 refine .go fds 2 ?_
 refine .rd (.load eW rfl (af.one (i:=2) (af.pick .p2 (k.mono fun _ h=>h.1)) rfl)) ?_
 refine .rd (.bK rfl rfl Tryz.underlying64 rfl) ?_
 refine .rd (.makeFunc (cs:=[.pointer (some ⟨b2,0,none⟩),.pointer (some ⟨b3,0,none⟩)]) rfl rfl) ?_
 refine .fn rfl rfl .nil ((af.an .p1).and ((af.an .p0).and (af.pick .p2 k))) (oA c.es.length (by omega) (pE c.es z) (HH hc z) (fun w=>aN b2 0 [.pointer (some ⟨c.cb,0,none⟩)] w∧aN b3 0 [.int .i64 z] w∧jJ db c w) 119 #[.pointer (some ⟨b2,0,none⟩),.pointer (some ⟨b3,0,none⟩)] (K5 (by omega))) (fun v G1 hq=>?_)
 obtain⟨u,hu,N6,Gl,rfl,rfl⟩:=hq
 simp only[ae]
 obtain⟨_,rfl⟩:=D3 hc hu N6 Gl
 refine .aH fds 2 ?_
 refine .aF Tryz.func76 (.t1 rfl) .q2 ?_
 exact⟨[],⟨rfl,rfl⟩,rfl⟩
theorem K6:jZ Tryz.prog 161:=⟨_,Tryz.func161,by kernel_rfl,rfl⟩
theorem vy(b:Nat)(p v:Value)(hp:p=.pointer none∨p=.pointer (some ⟨b,0,none⟩)):Cn Tryz.prog 161 [.pointer (some ⟨b,0,none⟩)] (fun _=>True) [an b [p,v] 177] fun r G=>r=.tuple #[]∧G=[an b [.pointer (some ⟨b,0,none⟩),v] 177]:=by
 refine Cn.Dv (i:=0) (u:=.pointer (some ⟨b,0,none⟩)) K6 (Nat.zero_lt_succ _) rfl fun w fz uk hb=>?_
 have hc:w.cell? ⟨b,0,none⟩=some p:=cell_of (l:=[p,v]) (o:=0) hb
 rcases hp with rfl|rfl
 ·
  exact Any.Builder_copyCheck_fresh (ρ:=Tryz.iZ) {Tryz.ve with} {Tryz.fL with} b w hc (by simp[World.shape?,hb];rfl) (by
   simp only[World.frozen?,hb]
   rcases uk with h|h
   ·
    simp[h]
   ·
    simp at h;simp;omega)
 ·
  refine(Any.Builder_copyCheck_used (ρ:=Tryz.iZ) {Tryz.ve with} {Tryz.fL with} b w hc).mono fun x w' h=>⟨h.1,h.2.trans ?_⟩
  unfold World.setCell
  have e:w.heap.modify b (fun o=>match o with|.cells c e f=>.cells (if(none:Option Nat).isSome then c else c.setIfInBounds 0 (.pointer (some ⟨b,0,none⟩))) e f|o=>o)=w.heap:=by
   apply Array.ext_getElem?
   intro i
   rw[Array.getElem?_modify]
   split
   ·
    rename_i h;subst h;rw[hb];rfl
   ·
    rfl
  exact(congrArg (fun h=>{w with heap:=h}) e.symm)
theorem K7:jZ Tryz.prog 117:=⟨_,Tryz.func117,by kernel_rfl,rfl⟩
theorem K8:jZ Tryz.prog 118:=⟨_,Tryz.func118,by kernel_rfl,rfl⟩
theorem K9(b:Nat)(l s:List UInt8)(p:Value)(a:Option Addr)(c:Nat)(hp:p=.pointer none∨p=.pointer (some ⟨b,0,none⟩))(hl:l.length≤1000000000)(hs:s.length≤1000000000):Cn Tryz.prog 117 [.pointer (some ⟨b,0,none⟩),.string (str s)] (fun _=>True) [an b [p,.slice a l.length c] 177,arr 5 1 a c (fB l)] fun v G=>v=.tuple #[.int .i64 (s.length:Int),.nilIface]∧G=[BL b (l++s)]:=by
 refine .en Tryz.func117 fun R k=>?_
 refine .ax fds 8 ?_
 refine .fn rfl rfl .q0 ah (vy b p (.slice a l.length c) hp) (fun v G1 hq=>?_)
 obtain⟨rfl,rfl⟩:=hq
 simp only[ag,ae]
 refine .ax fds 7 ?_
 refine .rd (.ld kS rfl .p0 rfl) ?_
 refine .rd (.move rfl) ?_
 refine .ef (.append rfl rfl Tryz.underlying115 fX rfl (ay.of rfl) (by decide) (by decide) rfl rfl .p1 (n:=l.length) (m:=s.length) (by rw[ew,Nat.mul_one]) (.JO Tryz.underlying9) (by omega)) ?_
 rintro _ _ ⟨ra,rc,rfl,rn,rfl⟩
 refine .go fds 2 ?_
 refine .cU (.store Au rfl rfl .p1 rfl aQ) ?_
 rintro _ _ rfl
 refine .ax fds 4 ?_
 refine .rd (.ey rfl rfl Tryz.underlying9 rfl) ?_
 refine .aH fds 3 ?_
 refine .ca (an b [.pointer (some ⟨b,0,none⟩),.slice ra (l++s).length rc] 177) (by rw[List.length_append];rfl) ?_
 refine .perm .wj ?_
 refine .ca (arr 5 1 ra rc (fB (l++s))) (by rw[dZ]) ?_
 refine .close (X:=BL b (l++s)) .Gg (fun h H=>⟨(.pointer (some ⟨b,0,none⟩),ra,rc),.inr rfl,H⟩) ?_
 refine .aF Tryz.func117 (.t2 rfl rfl) .cV ?_
 exact⟨[_],⟨rfl,rfl⟩,rfl⟩
theorem kI(b:Nat)(l s:List UInt8)(hl:l.length≤1000000000)(hs:s.length≤1000000000):Cn Tryz.prog 117 [.pointer (some ⟨b,0,none⟩),.string (str s)] (fun _=>True) [BL b l] fun v G=>v=.tuple #[.int .i64 (s.length:Int),.nilIface]∧G=[BL b (l++s)]:=
 Cn.ex K7 (fun _ h=>h) fun⟨p,a,c⟩ hp=>K9 b l s p a c hp hl hs
theorem zR(b:Nat)(l:List UInt8)(p:Value)(a:Addr)(c:Nat)(hc:c≠0)(h0:l≠[])(hl:l.length≤1000000000):Cn Tryz.prog 118 [.pointer (some ⟨b,0,none⟩)] (fun _=>True) [an b [p,.slice (some a) l.length c] 177,JP 5 (some a) (fB l)] fun v G=>v=.string (str l)∧G=[BS b l]:=by
 refine .en Tryz.func118 fun R k=>?_
 refine .go fds 5 ?_
 refine .dr [3,8] [an b [p,.slice (some a) l.length c] 177] ?_
 refine .aq fds [0] ?_
 refine .aq fds [1] ?_
 refine .aq fds [2] ?_
 refine .re 3 rfl (.ld kS rfl .p0 rfl) .q0 ?_
 refine .rq 4 rfl (.BN (a:=some a) (n:=l.length) (c:=c) rfl rfl (.inr hc)) ?_
 refine .aq fds [5] ?_
 refine .aq fds [6] ?_
 refine .aq fds [7] ?_
 refine .re 8 rfl (.ld kS rfl .p0 rfl) .q0 ?_
 refine .rq 9 rfl (.bK rfl rfl Tryz.underlying115 rfl) ?_
 refine .eg 10 rfl (.yK (p:=some a) (l:=l) rfl rfl Tryz.underlying206 (by kernel_rfl) h0 (by omega) rfl rfl .p1) ?_
 rintro _ _ ⟨rfl,rfl⟩
 refine aA ?_
 refine .aq fds [11] ?_
 refine .dn ?_
 refine .close (X:=BS b l) .Gg (fun h H=>⟨(p,a,c),hc,H⟩) ?_
 refine .aF Tryz.func118 (.t1 rfl) .cV ?_
 exact⟨[_],⟨rfl,rfl⟩,rfl⟩
theorem tS(b:Nat)(l:List UInt8)(h0:l≠[])(hl:l.length≤1000000000):Cn Tryz.prog 118 [.pointer (some ⟨b,0,none⟩)] (fun _=>True) [BS b l] fun v G=>v=.string (str l)∧G=[BS b l]:=
 Cn.ex K8 (fun _ h=>h) fun⟨p,a,c⟩ hc=>zR b l p a c hc h0 hl
theorem cI.i64{n:Int}(h:cI n):Go.Proofs.YtoglbebcdjdkiaaGreatDoor.i64 n:=by unfold cI at h;unfold Go.Proofs.YtoglbebcdjdkiaaGreatDoor.i64;omega
theorem xY{es:List Ep}{i:Nat}{x:Ep}(h:es[i]?=some x):(es.take (i+1)).flatMap mq=(es.take i).flatMap mq++mq x:=by
 rw[List.take_add_one,h,List.flatMap_append];simp
theorem vz{es:List Ep}(h:bO es)(i:Nat):(aG (es.length:Int)++(es.take i).flatMap mq).length≤10+es.length*20:=by
 have h1:=bC (n:=(es.length:Int)) ⟨by omega,by have:=h.len;omega⟩
 have h2:=eX (f:=mq) (k:=20) (es.take i) fun e he=>uL (h.may e (List.mem_of_mem_take he))
 rw[List.length_append];rw[List.length_take]at h2;omega
theorem rQ(es:List Ep):bG es≠[]:=fun e=>by
 have h1:=congrArg List.length e
 have h2:=DK (AE (es.length:Int))
 unfold bG aG at h1;rw[List.length_append,List.length_nil]at h1;omega
theorem rR(db mb:Nat)(d:Dk)(c:Cx)(es:List Ep)(a:Option Addr)(ac:Nat)(hc:c.es.length≤100000)(he:bO es)(hd:d.ok)(hn:eS c.nm)(hr:(d.get c.nm).isSome=true∨d.fs.length<256)(fw:d.used+(14+es.length*20)≤d.size):Cn Tryz.prog 75 [.pointer (some ⟨c.cb,0,none⟩),.slice a es.length ac] (fun _=>True) [an c.cb (c.cells db) 125,arr 70 3 c.la c.lc (c.es.flatMap fP),arr 70 3 a ac (es.flatMap fP),an db (d.cells mb) 74,mp aY Fl.val mb d.fs] fun v G=>v=.int .i64 0∧∃la lc,G=[CG db ⟨c.cb,c.nm,es,la,lc⟩,an db ((bA d c es).cells mb) 74,mp aY Fl.val mb (bA d c es).fs]:=by
 refine .en Tryz.func75 fun R k=>?_
 have hl:=he.len
 refine .ax fds 11 ?_
 refine .rd (.ld eW rfl .p0 rfl) ?_
 refine .fn rfl rfl .nil ((af.arr .p2).and (af.arr .p1)) (Cb a c.la ac c.lc es c.es (by omega) (by omega)) (fun v G1 hq=>?_)
 obtain⟨rfl,rfl⟩:=hq
 simp only[ae]
 refine .nil ?_
 refine .aL rfl (fun h1=>?_) (fun h1=>?_)
 ·
  refine .go fds 4 ?_
  obtain rfl:=h1
  refine .perm .ux ?_
  refine .ca (an db ((bA d c c.es).cells mb) 74) (by unfold bA;rw[if_pos rfl]) ?_
  refine .perm .mH ?_
  refine .ca (mp aY Fl.val mb (bA d c c.es).fs) (by unfold bA;rw[if_pos rfl]) ?_
  refine .close (X:=CG db ⟨c.cb,c.nm,c.es,c.la,c.lc⟩) .GM (fun h H=>H) ?_
  refine .aF Tryz.func75 (.t1 rfl) (.cons .p0 (.cons .p1 (.cons .p0 (.cons .p1 .nil)))) ?_
  exact⟨[_,_,_],⟨rfl,c.la,c.lc,rfl⟩,rfl⟩
 ·
  refine .ax fds 3 ?_
  refine .ef (.alloc He rfl (ay.of rfl)) ?_
  rintro _ _ ⟨b5,rfl,rfl⟩
  refine .nil ?_
  refine .cn 5 1 none ?_
  refine .close (X:=BL b5 []) .Gg (fun h H=>⟨(.pointer none,none,0),.inl rfl,H⟩) ?_
  refine .ax fds 3 ?_
  refine .rd (.bK rfl rfl Tryz.underlying64 rfl) ?_
  refine .fn rfl rfl .nil ah (uW (es.length:Int) (by unfold i64;omega)) (fun v G1 hq=>?_)
  obtain⟨rfl,rfl⟩:=hq
  simp only[ae]
  have Qr:=bC (n:=(es.length:Int)) (by unfold i64;omega)
  refine .fn rfl rfl .q0 ah (kI b5 [] (aG (es.length:Int)) (Nat.zero_le _) (by omega)) (fun v G1 hq=>?_)
  obtain⟨rfl,rfl⟩:=hq
  simp only[ag,ae]
  refine .nil ?_
  refine .ca (BL b5 (aG (es.length:Int)++(es.take 0).flatMap mq)) (by rw[List.take_zero];simp) ?_
  refine .ax fds 4 ?_
  refine .rd (.bK rfl rfl Tryz.underlying64 rfl) ?_
  refine .aH fds 3 ?_
  refine .loop (σ:=Nat) (fun i=>i≤es.length) (fun i=>es.length-i) (fun i=>[(0,.pointer (some ⟨c.cb,0,none⟩)),(1,.slice a es.length ac),(5,.pointer (some ⟨b5,0,none⟩)),(19,.slice a es.length ac),(20,.int .i64 (es.length:Nat)),(21,.int .i64 (i:Nat))]) (fun i=>[BL b5 (aG (es.length:Int)++(es.take i).flatMap mq),an c.cb (c.cells db) 125,arr 70 3 c.la c.lc (c.es.flatMap fP),arr 70 3 a ac (es.flatMap fP),an db (d.cells mb) 74,mp aY Fl.val mb d.fs,R]) 0 (Nat.zero_le _) .r6 .mL (fun i hI ih=>?_)
  have mj:=hI
  have N4:=vz he i
  refine .go fds 5 ?_
  refine .aL rfl (fun h6=>?_) (fun h6=>?_)
  ·
   refine .go fds 4 ?_
   obtain⟨x,hx⟩:∃x,es[i]?=some x:=⟨_,List.getElem?_eq_getElem (by omega)⟩
   have sw:=he.may x (List.mem_of_getElem? hx)
   have NQ:=uL sw
   refine .tell (φ:=∃b o,a=some ⟨b,o,none⟩) ((af.arr .p3).mono fun _ h=>aB.addr h (by rw[ar cr];omega)) (fun hh=>?_)
   obtain⟨b9,o9,h9⟩:=hh
   refine .region ?_
   refine .rd (.indexAddr (b:=b9) (o:=o9) Tryz.underlying64 cv (by show some (Value.slice (a) _ _)=_;rw[h9]) rfl (by omega) (by omega)) ?_
   refine .rd (.fS kQ cv rfl rfl (af.elem (f:=fP) cr (by decide) ((af.arr .p3).mono fun _ h=>h9▸h) (hx))) ?_
   refine .ef (.alloc gp rfl (ay.of rfl)) ?_
   rintro _ _ ⟨b7,rfl,rfl⟩
   refine .cU (.storeAll (vs:=fP x) cv rfl rfl rfl .p0 rfl (ay.of rfl)) ?_
   rintro _ _ rfl
   refine .nil ?_
   refine .Aj [1,4] [an b7 (fP x) 70] [(0,.pointer (some ⟨c.cb,0,none⟩)),(1,.slice a es.length ac),(5,.pointer (some ⟨b5,0,none⟩)),(19,.slice a es.length ac),(20,.int .i64 (es.length:Nat)),(21,.int .i64 (i:Nat))] [BL b5 (aG (es.length:Int)++(es.take (i+1)).flatMap mq),an c.cb (c.cells db) 125,arr 70 3 c.la c.lc (c.es.flatMap fP),arr 70 3 a ac (es.flatMap fP),an db (d.cells mb) 74,mp aY Fl.val mb d.fs,R] (by kernel_rfl) ?_ ?_
   ·
    refine .aq fds [0] ?_
    refine .re 1 rfl (.ld aj rfl .p0 rfl) .q0 ?_
    refine .aq fds [3] ?_
    refine .re 4 rfl (.ld aj rfl .p0 rfl) .q0 ?_
    refine .eg 2 rfl (.fn rfl rfl .nil ah (uW x.1 sw.1.i64)) ?_
    rintro v _ ⟨G1,hq,rfl⟩
    obtain⟨rfl,rfl⟩:=hq
    simp only[ae]
    refine⟨.inr ⟨_,.q0⟩,?_⟩
    refine .eg 5 rfl (.fn rfl rfl .nil ah (uW x.2 sw.2.i64)) ?_
    rintro v _ ⟨G1,hq,rfl⟩
    obtain⟨rfl,rfl⟩:=hq
    simp only[ae]
    refine aA ?_
    refine .rq 6 rfl (.eb (l:=aG x.1) (m:=aG x.2) rfl rfl (by have:=NQ;unfold mq at this;rw[List.length_append]at this;omega)) ?_
    refine .al 31 (.string (str (mq x))) rfl (rfl) ?_
    refine .eg 7 rfl (.fn rfl rfl .q1 ah (kI b5 (aG (es.length:Int)++(es.take i).flatMap mq) (mq x) (by omega) (by omega))) ?_
    rintro v _ ⟨G1,hq,rfl⟩
    obtain⟨rfl,rfl⟩:=hq
    simp only[ag,ae]
    refine aA ?_
    refine .ca (BL b5 (aG (es.length:Int)++(es.take (i+1)).flatMap mq)) (by rw[xY hx,List.append_assoc]) ?_
    exact .done (by kernel_rfl) ⟨.r6,_,(.cons .p0 (.cons .p1 (.cons .p1 (.cons .p1 (.cons .p1 (.cons .p1 (.cons .p1 .nil)))))))⟩
   ·
    refine .ax fds 2 ?_
    refine .rd (.add rfl rfl (by omega) (by omega)) ?_
    refine .aH fds 2 ?_
    exact(ih (i+1) (by omega) (by omega)).to .r6 .mL
  ·
   refine .go fds 2 ?_
   obtain rfl:i=es.length:=by omega
   refine .ca (BL b5 (bG es)) (by rw[List.take_length];rfl) ?_
   have PN:=mZ he
   have oS:=fk (bG es)
   refine .close (X:=BS b5 (bG es)) .q0 (fun h H=>BL.done (rQ es) H) ?_
   refine .Aj [3,7] [an c.cb (c.cells db) 125] [(0,.pointer (some ⟨c.cb,0,none⟩)),(1,.slice a es.length ac),(8,.int .i64 0)] [an c.cb (c.cells db) 125,arr 70 3 a ac (es.flatMap fP),an db ((d.put c.nm ⟨summed (bG es),(summed (bG es)).length⟩).cells mb) 74,mp aY Fl.val mb (d.put c.nm ⟨summed (bG es),(summed (bG es)).length⟩).fs,R] (by kernel_rfl) ?_ ?_
   ·
    refine .aq fds [0] ?_
    refine .aq fds [1] ?_
    refine .aq fds [2] ?_
    refine .re 3 rfl (.ld di rfl .p0 rfl) .q1 ?_
    refine .aq fds [4] ?_
    refine .aq fds [5] ?_
    refine .aq fds [6] ?_
    refine .re 7 rfl (.ld aS rfl .p0 rfl) .q1 ?_
    refine .eg 8 rfl (.fn rfl rfl .q0 ah (tS b5 (bG es) (rQ es) (by omega))) ?_
    rintro v _ ⟨G1,hq,rfl⟩
    obtain⟨rfl,rfl⟩:=hq
    simp only[ag,ae]
    refine⟨.inr ⟨_,.q1⟩,?_⟩
    refine .eg 9 rfl (.fn rfl rfl .nil ah (AP (bG es) (by omega))) ?_
    rintro v _ ⟨G1,hq,rfl⟩
    obtain⟨rfl,rfl⟩:=hq
    simp only[ae]
    refine⟨.inr ⟨_,.q1⟩,?_⟩
    refine .eg 10 rfl (.fn rfl rfl .q0 ah (tS b5 (bG es) (rQ es) (by omega))) ?_
    rintro v _ ⟨G1,hq,rfl⟩
    obtain⟨rfl,rfl⟩:=hq
    simp only[ag,ae]
    refine⟨.inr ⟨_,.q1⟩,?_⟩
    refine .rq 11 rfl (.eb (l:=bI (fy (bG es)).toNat) (m:=bG es) rfl rfl (by rw[fA];omega)) ?_
    refine .al 45 (.string (str (summed (bG es)))) rfl (rfl) ?_
    refine .eg 12 rfl (.fn rfl rfl (.cons .p4 (.cons .p4 .nil)) ah (lX db mb d c.nm (summed (bG es)) hd hn hr (by omega))) ?_
    rintro v _ ⟨G1,hq,rfl⟩
    obtain⟨rfl,rfl⟩:=hq
    simp only[ag,ae]
    refine aA ?_
    refine .aq fds [13] ?_
    exact .done (by kernel_rfl) ⟨.r3,_,(.cons .p3 (.cons .p4 (.cons .p0 (.cons .p0 (.cons .p2 .nil)))))⟩
   ·
    refine .ax fds 12 ?_
    refine .cU (.store AC rfl rfl .p0 rfl aQ) ?_
    rintro _ _ rfl
    refine .aH fds 6 ?_
    refine .perm .qy ?_
    refine .ca (an db ((bA d c es).cells mb) 74) (by unfold bA;rw[if_neg h1]) ?_
    refine .perm .uw ?_
    refine .ca (mp aY Fl.val mb (bA d c es).fs) (by unfold bA;rw[if_neg h1]) ?_
    refine .close (X:=CG db ⟨c.cb,c.nm,es,a,ac⟩) .GM (fun h H=>H) ?_
    refine .aF Tryz.func75 (.t1 rfl) .DB ?_
    exact⟨[_,_,_],⟨rfl,a,ac,rfl⟩,rfl⟩
theorem xZ{es:List Ep}(h:bO es)(off:Int){w:World}{a:Option Addr}(H:aB a (es.flatMap fP) w):aB a ((bi off es).flatMap fP) w:=by
 obtain⟨z,_,e⟩:=nZ h off
 rw[e];exact H.Mo z
theorem nH(off:Int)(es:List Ep):(bi off es).length≤es.length:=List.length_filter_le ..
theorem bO.begin{es:List Ep}(h:bO es){ep off:Int}(h1:cI ep)(h2:cI off)(hl:ct es<ep)(hn:es.length<200):bO (bi off es++[(ep,off)]):=by
 refine(h.cut off).more h1 h2 ?_ (fun e he=>of_decide_eq_true (List.mem_filter.1 he).2) (Nat.lt_of_le_of_lt (nH _ _) hn)
 by_cases h0:bi off es=[]
 ·
  rw[h0];unfold cI at h1;show(-1:Int)<ep;omega
 ·
  obtain⟨x,hx⟩:∃x,(bi off es)[(bi off es).length-1]?=some x:=⟨_,List.getElem?_eq_getElem (by have:=List.length_pos_iff.2 h0;omega)⟩
  rw[pK hx (by have:=List.length_pos_iff.2 h0;omega)]
  have:=h.le_last x (List.mem_filter.1 (List.mem_of_getElem? hx)).1
  show x.1<ep;omega
theorem FQ(off:Int)(es:List Ep):cE off es≤es.length:=by have:=nH (off+1) es;unfold cE;omega
theorem bO.del{es:List Ep}(h:bO es){off:Int}(ho:cI off):bO (dm off es):=by
 have hs:=h.sub (List.drop_sublist (cE off es) es)
 unfold dm
 cases hd:es.drop (cE off es)with
 |nil=>exact .nil
 |cons x r=>
  rw[hd]at hs
  have h1:=List.pairwise_cons.1 hs.up
  have hx:=hs.may x (.head _)
  have M0:∀y∈r,off<y.2:=fun y hy=>by
   obtain⟨z,hz,e⟩:=nZ h (off+1)
   have L5:y∈es.drop z:=by
    have e1:cE off es+1≥z:=by unfold cE;rw[e,List.length_take];omega
    have e2:r=es.drop (cE off es+1):=by rw[←List.tail_drop,hd];rfl
    have e3:es.drop (cE off es+1)=(es.drop z).drop (cE off es+1-z):=by rw[List.drop_drop];congr 1;omega
    rw[e2,e3]at hy;exact List.mem_of_mem_drop hy
   have SV:y∉bi (off+1) es:=fun hm=>by
    rw[e]at hm
    obtain⟨i,hi⟩:=List.getElem?_of_mem hm
    obtain⟨j,hj⟩:=List.getElem?_of_mem L5
    rw[List.getElem?_take]at hi
    split at hi
    ·
     rename_i UW
     rw[List.getElem?_drop]at hj
     obtain⟨a1,a2⟩:=List.getElem?_eq_some_iff.1 hi
     obtain⟨b1,b2⟩:=List.getElem?_eq_some_iff.1 hj
     have:=(List.pairwise_iff_getElem.1 h.up i (z+j) a1 b1 (by omega)).1
     rw[a2,b2]at this;omega
    ·
     cases hi
   have hm:y∈es:=List.mem_of_mem_drop L5
   have:¬y.2<off+1:=fun cP=>SV (List.mem_filter.2 ⟨hm,decide_eq_true cP⟩)
   omega
  refine⟨hs.len,fun e he=>?_,List.pairwise_cons.2 ⟨fun y hy=>⟨(h1.1 y hy).1,by have:=(h1.1 y hy).2;have:=M0 y hy;show max x.2 off<y.2;omega⟩,h1.2⟩⟩
  rcases List.mem_cons.1 he with rfl|he
  ·
   exact⟨hx.1,by unfold cI at*;show 0≤max x.2 off∧max x.2 off≤1000000000;omega⟩
  ·
   exact hs.may e (.tail _ he)
theorem Bv(off:Int)(es:List Ep):(dm off es).length≤es.length:=by
 unfold dm
 cases hd:es.drop (cE off es)with
 |nil=>exact Nat.zero_le _
 |cons x r=>have:=congrArg List.length hd;rw[List.length_drop,List.length_cons]at this;show r.length+1≤_;omega
theorem Bw(db mb:Nat)(d:Dk)(c:Cx)(off:Int)(nI:cI off)(hc:bO c.es)(hd:d.ok)(hn:eS c.nm)(hr:(d.get c.nm).isSome=true∨d.fs.length<256)(fw:d.used+4020≤d.size):Cn Tryz.prog 38 [.pointer (some ⟨c.cb,0,none⟩),.int .i64 off] (fun _=>True) [CG db c,an db (d.cells mb) 74,mp aY Fl.val mb d.fs] fun v G=>v=.int .i64 0∧∃la lc,G=[CG db ⟨c.cb,c.nm,bi off c.es,la,lc⟩,an db ((bA d c (bi off c.es)).cells mb) 74,mp aY Fl.val mb (bA d c (bi off c.es)).fs]:=by
 refine .en Tryz.func38 fun R k=>?_
 have hl:=hc.len
 refine .unpack (L:=[an c.cb (c.cells db) 125,arr 70 3 c.la c.lc (c.es.flatMap fP)]) .p0 ?_
 simp only[ag,ae]
 refine .tell (af.cap .p1) (fun iC=>?_)
 rw[ar cr]at iC
 have y4:=nH off c.es
 have A3:=hc.cut off
 refine .ax fds 8 ?_
 refine .fn rfl rfl .nil ah (oa off) (fun v G1 hq=>?_)
 obtain⟨rfl,rfl⟩:=hq
 simp only[ae]
 refine .al 6 (.bool true) rfl (bS nI) ?_
 refine .aH fds 5 ?_
 refine .dr [4] [an c.cb (c.cells db) 125] ?_
 refine .aq fds [0] ?_
 refine .aq fds [1] ?_
 refine .aq fds [2] ?_
 refine .aq fds [3] ?_
 refine .re 4 rfl (.ld eW rfl .p0 rfl) .q0 ?_
 refine .aq fds [5] ?_
 refine .aq fds [6] ?_
 refine .eg 7 rfl (.fn rfl rfl .nil ((af.an .p0).and (af.arr .p1)) (rP db c off hc)) ?_
 rintro v _ ⟨G1,hq,rfl⟩
 obtain⟨rfl,rfl⟩:=hq
 simp only[ae]
 refine⟨.inr ⟨_,.q0⟩,?_⟩
 refine .rq 8 rfl (.slice (l:=0) (h:=(bi off c.es).length) (m:=c.lc) Tryz.underlying64 cv rfl rfl ⟨_,rfl⟩ rfl (Nat.zero_le _) (by omega) (Nat.le_refl _)) ?_
 refine .al 16 (.slice c.la (bi off c.es).length c.lc) rfl (by rw[qt]) ?_
 refine .eg 9 rfl (.fn rfl rfl .nil ((af.arr .p1).mono fun _ h=>xZ hc off h) (oc c.la c.lc (bi off c.es) (by omega))) ?_
 rintro v _ ⟨G1,hq,rfl⟩
 obtain⟨na,nc,rfl,rfl⟩:=hq
 simp only[ag,ae]
 refine aA ?_
 refine .eg 10 rfl (.fn rfl rfl .yO ah (rR db mb d c (bi off c.es) na nc (by omega) A3 hd hn hr (by omega))) ?_
 rintro v _ ⟨G1,hq,rfl⟩
 obtain⟨rfl,la,lc,rfl⟩:=hq
 simp only[ag,ae]
 refine aA ?_
 refine .aq fds [11] ?_
 refine .dn ?_
 refine .aF Tryz.func38 (.t1 rfl) .fx ?_
 exact⟨[_,_,_],⟨rfl,la,lc,rfl⟩,rfl⟩
theorem CD(db mb:Nat)(d:Dk)(c:Cx)(ep off:Int)(yn:cI ep)(nI:cI off)(jX:ct c.es<ep)(CE:c.es.length<200)(hc:bO c.es)(hd:d.ok)(hn:eS c.nm)(hr:(d.get c.nm).isSome=true∨d.fs.length<256)(fw:d.used+4020≤d.size):Cn Tryz.prog 40 [.pointer (some ⟨c.cb,0,none⟩),.int .i64 ep,.int .i64 off] (fun _=>True) [CG db c,an db (d.cells mb) 74,mp aY Fl.val mb d.fs] fun v G=>v=.int .i64 0∧∃la lc,G=[CG db ⟨c.cb,c.nm,bi off c.es++[(ep,off)],la,lc⟩,an db ((bA d c (bi off c.es++[(ep,off)])).cells mb) 74,mp aY Fl.val mb (bA d c (bi off c.es++[(ep,off)])).fs]:=by
 refine .en Tryz.func40 fun R k=>?_
 have hl:=hc.len
 refine .unpack (L:=[an c.cb (c.cells db) 125,arr 70 3 c.la c.lc (c.es.flatMap fP)]) .p0 ?_
 simp only[ag,ae]
 refine .tell (af.cap .p1) (fun iC=>?_)
 rw[ar cr]at iC
 have y4:=nH off c.es
 have A3:=hc.begin yn nI jX CE
 have vM:(bi off c.es++[(ep,off)]).length=(bi off c.es).length+1:=by rw[List.length_append];rfl
 refine .ax fds 8 ?_
 refine .fn rfl rfl .nil ah (oa ep) (fun v G1 hq=>?_)
 obtain⟨rfl,rfl⟩:=hq
 simp only[ae]
 refine .al 11 (.bool true) rfl (bS yn) ?_
 refine .go fds 3 ?_
 refine .on (t:=13) rfl rfl ?_
 refine .fn rfl rfl .nil ah (oa off) (fun v G1 hq=>?_)
 obtain⟨rfl,rfl⟩:=hq
 simp only[ae]
 refine .al 15 (.bool true) rfl (bS nI) ?_
 refine .ax fds 11 ?_
 refine .rd (.ld eW rfl .p0 rfl) ?_
 refine .rd (.bK rfl rfl Tryz.underlying64 rfl) ?_
 refine .aH fds 7 ?_
 refine .yH (E':=[(0,.pointer (some ⟨c.cb,0,none⟩)),(1,.int .i64 ep),(2,.int .i64 off)]) (aI:=[an c.cb (c.cells db) 125,arr 70 3 c.la c.lc (c.es.flatMap fP),an db (d.cells mb) 74,mp aY Fl.val mb d.fs,R]) ?_ (fun fin=>?_)
 ·
  refine .ax fds 4 ?_
  refine .fn rfl rfl .nil ((af.an .p0).and (af.arr .p1)) (rP db c off hc) (fun v G1 hq=>?_)
  obtain⟨rfl,rfl⟩:=hq
  simp only[ae]
  refine .ax fds 7 ?_
  refine .al 53 (.bool false) rfl (aE (by omega)) ?_
  refine .ax fds 9 ?_
  refine .rd (.ld eW rfl .p0 rfl) ?_
  refine .rd (.move rfl) ?_
  refine .rd (.slice (l:=0) (h:=(bi off c.es).length) (m:=c.lc) Tryz.underlying64 cv rfl rfl ⟨_,rfl⟩ rfl (Nat.zero_le _) (by omega) (Nat.le_refl _)) ?_
  refine .al 60 (.slice c.la (bi off c.es).length c.lc) rfl (by rw[qt]) ?_
  refine .fn rfl rfl .nil ((af.arr .p1).mono fun _ h=>xZ hc off h) (oc c.la c.lc (bi off c.es) (by omega)) (fun v G1 hq=>?_)
  obtain⟨na,nc,rfl,rfl⟩:=hq
  simp only[ag,ae]
  refine .go fds 2 ?_
  refine .rd (.build rfl (AD _ _)) ?_
  refine .ef (.cq (cs:=fP (ep,off)) Tryz.underlying64 gp (by decide) rfl rfl rfl (ay.of rfl)) ?_
  rintro _ _ ⟨bs,rfl,rfl⟩
  refine .ef (.append rfl rfl Tryz.underlying64 gp rfl (ay.of rfl) (by decide) (by decide) rfl rfl .p1 (n:=(bi off c.es).length) (m:=1) (by rw[ar cr]) (.dN .p0 Tryz.underlying64 rfl (by decide)) (by omega)) ?_
  rintro _ _ ⟨ra,rc,rfl,rn,rfl⟩
  refine .al 66 (.slice ra (bi off c.es++[(ep,off)]).length rc) rfl (by rw[List.length_append];rfl) ?_
  refine .ca (arr 70 3 ra rc ((bi off c.es++[(ep,off)]).flatMap fP)) (by rw[List.flatMap_append];simp) ?_
  refine .fn rfl rfl (.cons .p2 (.cons .p2 (.cons .p0 (.cons .p1 (.cons .p1 .nil))))) ah (rR db mb d c (bi off c.es++[(ep,off)]) ra rc (by omega) A3 hd hn hr (by omega)) (fun v G1 hq=>?_)
  obtain⟨rfl,la,lc,rfl⟩:=hq
  simp only[ag,ae]
  refine .aH fds 2 ?_
  refine .aF Tryz.func40 (.t1 rfl) .kp ?_
  exact⟨[_,_,_],⟨rfl,la,lc,rfl⟩,rfl⟩
 ·
  refine .aL rfl (fun c4=>?_) (fun c4=>?_)
  ·
   refine .seq ?_
   obtain⟨x,hx⟩:∃x,c.es[c.es.length-1]?=some x:=⟨_,List.getElem?_eq_getElem (by omega)⟩
   have Bc:x.1<ep:=by rw[pK hx (by omega)]at jX;exact jX
   refine .tell (φ:=∃b o,c.la=some ⟨b,o,none⟩) ((af.arr .p1).mono fun _ h=>aB.addr h (by rw[ar cr];omega)) (fun hh=>?_)
   obtain⟨b9,o9,h9⟩:=hh
   refine .ax fds 4 ?_
   refine .rd (.ld eW rfl .p0 rfl) ?_
   refine .rd (.move rfl) ?_
   refine .rd (.sub rfl rfl (by omega) (by omega)) ?_
   refine .al 30 (.int .i64 ((c.es.length-1:Nat))) rfl (congrArg (Value.int .i64) (by omega)) ?_
   refine .rd (.indexAddr (b:=b9) (o:=o9) Tryz.underlying64 cv (by show some (Value.slice (c.la) _ _)=_;rw[h9]) rfl (by omega) (by omega)) ?_
   refine .rd (.fS kQ cv rfl rfl (af.elem (f:=fP) cr (by decide) ((af.arr .p1).mono fun _ h=>h9▸h) (hx))) ?_
   refine .ef (.alloc gp rfl (ay.of rfl)) ?_
   rintro _ _ ⟨b8,rfl,rfl⟩
   refine .cU (.storeAll (vs:=fP x) cv rfl rfl rfl .p0 rfl (ay.of rfl)) ?_
   rintro _ _ rfl
   refine .ax fds 6 ?_
   refine .rd (.ld aj rfl .p0 rfl) ?_
   refine .rd (.NN rfl rfl) ?_
   refine .al 37 (.bool false) rfl (aE (by omega)) ?_
   refine .ax fds 13 ?_
   refine .rd (.ld aj rfl .p0 rfl) ?_
   refine .rd (.le rfl rfl) ?_
   refine .al 48 (.bool false) rfl (aE (by omega)) ?_
   refine .aH fds 5 ?_
   exact fin .r3 (.cons .p1 (.cons .p1 (.cons .p1 (.cons .p1 (.cons .p1 .nil)))))
  ·
   refine .skip ?_
   exact fin .r3 .qx
theorem zS(db mb:Nat)(d:Dk)(c:Cx)(off:Int)(nI:cI off)(hc:bO c.es)(hd:d.ok)(hn:eS c.nm)(hr:(d.get c.nm).isSome=true∨d.fs.length<256)(fw:d.used+4020≤d.size):Cn Tryz.prog 55 [.pointer (some ⟨c.cb,0,none⟩),.int .i64 off] (fun _=>True) [CG db c,an db (d.cells mb) 74,mp aY Fl.val mb d.fs] fun v G=>v=.int .i64 0∧∃la lc,G=[CG db ⟨c.cb,c.nm,dm off c.es,la,lc⟩,an db ((bA d c (dm off c.es)).cells mb) 74,mp aY Fl.val mb (bA d c (dm off c.es)).fs]:=by
 refine .en Tryz.func55 fun R k=>?_
 have hl:=hc.len
 refine .unpack (L:=[an c.cb (c.cells db) 125,arr 70 3 c.la c.lc (c.es.flatMap fP)]) .p0 ?_
 simp only[ag,ae]
 refine .tell (af.cap .p1) (fun iC=>?_)
 rw[ar cr]at iC
 obtain⟨Px,CR⟩:=id nI
 have Q5:=FQ off c.es
 have y4:=nH (off+1) c.es
 have A3:=hc.del nI
 have SW:=Bv off c.es
 refine .ax fds 8 ?_
 refine .fn rfl rfl .nil ah (oa off) (fun v G1 hq=>?_)
 obtain⟨rfl,rfl⟩:=hq
 simp only[ae]
 refine .al 8 (.bool true) rfl (bS nI) ?_
 refine .ax fds 8 ?_
 refine .rd (.add rfl rfl (by omega) (by omega)) ?_
 refine .fn rfl rfl .nil ((af.an .p0).and (af.arr .p1)) (rP db c (off+1) hc) (fun v G1 hq=>?_)
 obtain⟨rfl,rfl⟩:=hq
 simp only[ae]
 refine .rd (.sub rfl rfl (by omega) (by omega)) ?_
 refine .rd (.max2 rfl rfl rfl) ?_
 refine .al 15 (.int .i64 (cE off c.es:Nat)) rfl (congrArg (Value.int .i64) (by unfold cE;omega)) ?_
 refine .ax fds 7 ?_
 refine .rd (.ld eW rfl .p0 rfl) ?_
 refine .rd (.move rfl) ?_
 refine .rd (.slice (l:=cE off c.es) (h:=c.es.length) (m:=c.lc) Tryz.underlying64 cv rfl rfl ⟨rfl,rfl⟩ ⟨_,rfl⟩ Q5 (by omega) (Nat.le_refl _)) ?_
 refine .al 21 (.slice (if c.lc=cE off c.es then c.la else c.la.map (·.add (cE off c.es*3))) (c.es.drop (cE off c.es)).length (c.lc-cE off c.es)) rfl (by rw[List.length_drop]) ?_
 refine .fn rfl rfl .nil ((af.arr .p1).mono fun _ h=>h.Ak cr (by decide) (cE off c.es) Q5 (by omega)) (oc (if c.lc=cE off c.es then c.la else c.la.map (·.add (cE off c.es*3))) (c.lc-cE off c.es) (c.es.drop (cE off c.es)) (by rw[List.length_drop];omega)) (fun v G1 hq=>?_)
 obtain⟨na,nc,rfl,rfl⟩:=hq
 simp only[ag,ae]
 refine .ax fds 6 ?_
 refine .rd (.bK rfl rfl Tryz.underlying64 rfl) ?_
 refine .aH fds 2 ?_
 refine .yH (E':=[(0,.pointer (some ⟨c.cb,0,none⟩)),(6,.slice na (dm off c.es).length nc)]) (aI:=[arr 70 3 na nc ((dm off c.es).flatMap fP),an c.cb (c.cells db) 125,arr 70 3 c.la c.lc (c.es.flatMap fP),an db (d.cells mb) 74,mp aY Fl.val mb d.fs,R]) ?_ (fun fin=>?_)
 ·
  refine .ax fds 4 ?_
  refine .fn rfl rfl .yO ah (rR db mb d c (dm off c.es) na nc (by omega) A3 hd hn hr (by omega)) (fun v G1 hq=>?_)
  obtain⟨rfl,la,lc,rfl⟩:=hq
  simp only[ag,ae]
  refine .aH fds 2 ?_
  refine .aF Tryz.func55 (.t1 rfl) .fx ?_
  exact⟨[_,_,_],⟨rfl,la,lc,rfl⟩,rfl⟩
 ·
  refine .aL rfl (fun c5=>?_) (fun c5=>?_)
  ·
   obtain⟨x,r,uU⟩:∃x r,c.es.drop (cE off c.es)=x::r:=by
    cases h:c.es.drop (cE off c.es)with
    |nil=>rw[h]at c5;exact absurd c5 (by decide)
    |cons x r=>exact⟨x,r,rfl⟩
   have J1:dm off c.es=(x.1,max x.2 off)::r:=by unfold dm;rw[uU]
   have FP:(dm off c.es).length=(c.es.drop (cE off c.es)).length:=by rw[J1,uU];rfl
   have HV:0<(c.es.drop (cE off c.es)).length:=by rw[uU];exact Nat.zero_lt_succ _
   refine .ca (arr 70 3 na nc ((x::r).flatMap fP)) (by rw[uU]) ?_
   refine .tell (φ:=∃b o,na=some ⟨b,o,none⟩) ((af.arr .p0).mono fun _ h=>aB.addr h (by rw[ar cr];simp)) (fun hh=>?_)
   obtain⟨b9,o9,h9⟩:=hh
   refine .ax fds 3 ?_
   refine .rd (.indexAddr (b:=b9) (o:=o9) Tryz.underlying64 cv (by show some (Value.slice (na) _ _)=_;rw[h9]) rfl (by omega) (by omega)) ?_
   refine .rd (.fieldAddr uB rfl) ?_
   refine .rd (.load aj rfl (af.one (i:=1) (af.elem (f:=fP) cr (by decide) ((af.arr .p0).mono fun _ h=>h9▸h) ((rfl:(x::r)[0]?=some x))) rfl)) ?_
   refine .rd (.move rfl) ?_
   refine .rd (.max2 rfl rfl rfl) ?_
   refine .al 32 (.int .i64 (max x.2 off)) rfl (congrArg (Value.int .i64) (by omega)) ?_
   refine .rd (.indexAddr (b:=b9) (o:=o9) Tryz.underlying64 cv (by show some (Value.slice (na) _ _)=_;rw[h9]) rfl (by omega) (by omega)) ?_
   refine .rd (.fieldAddr uB rfl) ?_
   refine .al 34 (.pointer (some ⟨b9,o9+1,none⟩)) rfl (rfl) ?_
   refine .ca (arr 70 3 (some ⟨b9,o9,none⟩) nc ((x::r).flatMap fP)) (by rw[h9]) ?_
   refine .cU (.Dq (k:=1) bQ rfl rfl .p0 (by rw[List.flatMap_cons,List.length_append,cr];omega)) ?_
   rintro _ _ rfl
   refine .nil ?_
   refine .ca (arr 70 3 na nc ((dm off c.es).flatMap fP)) (by rw[J1,←h9];rfl) ?_
   refine .al 6 (.slice na (dm off c.es).length nc) rfl (by rw[FP]) ?_
   exact fin .r2 .kL
  ·
   have uU:c.es.drop (cE off c.es)=[]:=List.eq_nil_of_length_eq_zero (by omega)
   have J1:dm off c.es=[]:=by unfold dm;rw[uU]
   have FP:(dm off c.es).length=(c.es.drop (cE off c.es)).length:=by rw[J1,uU]
   refine .ca (arr 70 3 na nc ((dm off c.es).flatMap fP)) (by rw[J1,uU]) ?_
   refine .skip ?_
   refine .al 6 (.slice na (dm off c.es).length nc) rfl (by rw[FP]) ?_
   exact fin .r2 .kL
def vN(q:Int)(bs:List aR):List Nt:=(bs.filter fun b=>decide (b.pid=q)).map iG
theorem vA(q:Int)(a b:List aR):vN q (a++b)=vN q a++vN q b:=by unfold vN;rw[List.filter_append,List.map_append]
theorem FR(q:Int)(b:aR):vN q [b]=if b.pid=q then[iG b]else[]:=by
 unfold vN;by_cases h:b.pid=q<;>simp[h]
theorem vB(q:Int)(b:aR)(bs:List aR):vN q (b::bs)=(if b.pid=q then[iG b]else[])++vN q bs:=by
 rw[←FR,←vA];rfl
theorem La{q:Int}{a b:List aR}(h:a.Sublist b):(vN q a).Sublist (vN q b):=(h.filter _).map _
structure Bx(b:aR):Prop where
 pid:0<b.pid∧b.pid≤7
 ep:cI b.bu
 fits:b.fits
 right:right b=0
 nt:li (iG b)
theorem kH.lQ{ep pid pe seq u:Int}{n:Nat}(h:kH ep pid pe seq n u)(h7:pid≤7):Bx (fQ ep pid pe seq n u):=⟨⟨by show 0<pid;have:=h.pid;omega,h7⟩,h.ep,h.fits,h.right,.sm h⟩
theorem ij.cons{t:Tm}{b:aR}{bs:List aR}(h1:cC t)(h2:0<b.pid)(h3:b.fits)(h4:right b=0)(h5:late (aD t b.pid) b=false)(h:ij (note t b) bs):ij t (b::bs):=fun i x hx=>by
 cases i with
 |zero=>cases hx;exact⟨h1,h2,h3,h4,h5⟩
 |succ i=>exact h i x hx
theorem CF{l:List Nt}{z:Nt}(h:l.getLast?=some z):l.getLast?.toList=[z]:=by rw[h];rfl
theorem rS:∀(bs:List aR) (t:Tm),gY t→(∀b∈bs,Bx b)→(∀q,((aD t q).getLast?.toList++vN q bs).Pairwise fT)→(∀q,(aD t q).length+bs.length≤10000)→ij t bs∧gY (bs.foldl note t)∧∀q,aD (bs.foldl note t) q=aD t q++vN q bs
 |[],t,ht,_,_,_=>⟨.nil _,ht,fun q=>(List.append_nil _).symm⟩
 |b::bs,t,ht,hb,hc,hl=>by
  have gL:=hb b (.head _)
  have cP:late (aD t b.pid) b=false:=Bn fun z hz=>by
   have h1:=hc b.pid
   rw[CF hz,vB,if_pos rfl]at h1
   exact(List.pairwise_cons.1 h1).1 _ (.head _)
  have SX:=hl b.pid
  rw[List.length_cons]at SX
  have Br:=ht.note cP ⟨gL.pid.1,by have:=gL.pid.2;omega⟩ gL.nt (by omega)
  obtain⟨a1,a2,a3⟩:=rS bs (note t b) Br (fun x hx=>hb x (.tail _ hx)) (fun q=>by
   rw[pY cP]
   have h1:=hc q
   rw[vB]at h1
   by_cases e:q=b.pid
   ·
    rw[if_pos e,List.getLast?_append]
    rw[if_pos e.symm]at h1
    exact h1.sublist (List.sublist_append_right _ _)
   ·
    rw[if_neg e]
    rw[if_neg (Ne.symm e)]at h1
    exact h1) (fun q=>by
   rw[pY cP]
   have:=hl q
   rw[List.length_cons]at this
   split
   ·
    rw[List.length_append];simp;omega
   ·
    omega)
  refine⟨.cons ht.tocC gL.pid.1 gL.fits gL.right cP a1,a2,fun q=>?_⟩
  rw[List.foldl_cons,a3,pY cP,vB]
  by_cases e:q=b.pid
  ·
   rw[if_pos e,if_pos e.symm,List.append_assoc]
  ·
   rw[if_neg e,if_neg (Ne.symm e),List.nil_append]
theorem tT:∀(bs:List aR) (t:Tm) (p:Int×List Nt),p∈bs.foldl note t→p.1∈t.map (·.1)∨∃b∈bs,b.pid=p.1
 |[],_,p,h=>.inl (List.mem_map_of_mem h)
 |b::bs,t,p,h=>by
  rcases tT bs _ p h with h|⟨x,hx,e⟩
  ·
   obtain⟨q,hq,e⟩:=List.mem_map.1 h
   unfold note at hq
   split at hq
   ·
    exact .inl (e▸List.mem_map_of_mem hq)
   ·
    rcases pW hq with rfl|hq
    ·
     exact .inr ⟨b,.head _,e⟩
    ·
     exact .inl (e▸List.mem_map_of_mem hq)
  ·
   exact .inr ⟨x,.tail _ hx,e⟩
theorem jQ{z:Int}{l:List Nt}{x:Nt}(h:x∈cO z l):x∈l∧x.off<z:=by
 unfold cO at h
 induction l with
 |nil=>cases h
 |cons y l ih=>
  rw[List.takeWhile_cons]at h
  split at h
  ·
   rename_i hy
   rcases List.mem_cons.1 h with rfl|h
   ·
    exact⟨.head _,of_decide_eq_true hy⟩
   ·
    exact⟨.tail _ (ih h).1,(ih h).2⟩
  ·
   cases h
theorem IV{z:Int}{l:List Nt}(h:∀x∈l,x.off<z):cO z l=l:=by
 unfold cO
 induction l with
 |nil=>rfl
 |cons x l ih=>rw[List.takeWhile_cons,if_pos (decide_eq_true (h x (.head _))),ih fun y hy=>h y (.tail _ hy)]
theorem FS{z:Int}{l:List Nt}(h:∀x∈l,z≤x.off):cO z l=[]:=by
 cases l with
 |nil=>rfl
 |cons x l=>unfold cO;rw[List.takeWhile_cons,if_neg (by have:=h x (.head _);simp;omega)]
theorem tU{z:Int}{a b:List Nt}(ha:∀x∈a,x.off<z)(hb:∀x∈b,z≤x.off):cO z (a++b)=a∧nf z (a++b)=b:=by
 have h1:cO z (a++b)=a:=by
  unfold cO
  rw[List.takeWhile_append,if_pos (by
   have:=IV ha
   unfold cO at this;rw[this])]
  have:=FS hb
  unfold cO at this;rw[this,List.append_nil]
 refine⟨h1,?_⟩
 have h2:=qT z (a++b)
 rw[h1]at h2
 exact List.append_cancel_left h2
theorem rT{t:Tm}(hn:(t.map (·.1)).Nodup)(z q:Int):aD (iN z t) q=cO z (aD t q):=by
 have h:=y9 (f:=uY z (t.map (·.1))) hn q
 have e:fm (uY z (t.map (·.1))) t=iN z t:=wW fun p hp=>nj hp
 rw[e]at h
 unfold aD
 rw[h]
 cases hg:bL t q with
 |none=>rfl
 |some l=>
  have hq:q∈t.map (·.1):=List.mem_map.2 ⟨_,eD hg,rfl⟩
  simp only[Option.bind_some,uY,if_pos hq]
  split
  ·
   rename_i e;rw[Option.getD_none,Option.getD_some,e]
  ·
   rfl
theorem zT{t:Tm}(hn:(t.map (·.1)).Nodup)(z q:Int):aD (uN z t) q=a7 (cO z (aD t q))++nf z (aD t q):=by
 have h:=y9 (f:=sG z (t.map (·.1))) hn q
 have e:fm (sG z (t.map (·.1))) t=uN z t:=wX fun p hp=>nj hp
 rw[e]at h
 unfold aD
 rw[h]
 cases hg:bL t q with
 |none=>rfl
 |some l=>
  have hq:q∈t.map (·.1):=List.mem_map.2 ⟨_,eD hg,rfl⟩
  simp only[Option.bind_some,sG,if_pos hq,Option.getD_some]
theorem gY.cut{t:Tm}(h:gY t)(z:Int):gY (iN z t):=by
 have key:∀p∈iN z t,∃q∈t,p.1=q.1∧p.2=cO z q.2∧p.2≠[]:=fun p hp=>by
  obtain⟨q,hq,e⟩:=List.mem_filterMap.1 hp
  split at e
  ·
   cases e
  ·
   rename_i dx;cases e;exact⟨q,hq,rfl,rfl,dx⟩
 refine⟨⟨?_,fun p hp=>?_,fun p hp=>?_,fun p hp=>?_,fun p hp=>?_⟩,fun p hp=>?_⟩
 ·
  refine h.nodup.sublist ?_
  unfold iN
  clear key h
  induction t with
  |nil=>exact .slnil
  |cons x t ih=>
   rw[List.filterMap_cons]
   split
   ·
    exact .cons _ ih
   ·
    rename_i e
    split at e
    ·
     cases e
    ·
     cases e;exact ih.cons_cons _
 all_goals obtain⟨q,hq,e1,e2,e3⟩:=key p hp
 ·
  rw[e1];exact h.pid q hq
 ·
  exact e3
 ·
  rw[e2];exact fun x hx=>h.ok q hq x (jQ hx).1
 ·
  rw[e2];have:=pL z q.2;have:=h.len q hq;omega
 ·
  rw[e2];exact(h.chain q hq).sublist (List.takeWhile_sublist _)
theorem gY.del{t:Tm}(h:gY t)(z:Int):gY (uN z t):=by
 have ju:∀l:List Nt,(a7 (cO z l)++nf z l).Sublist l:=fun l=>by
  have h1:(a7 (cO z l)++nf z l).Sublist (cO z l++nf z l):=(List.drop_sublist _ _).append (.refl _)
  rwa[qT]at h1
 have key:∀p∈uN z t,∃q∈t,p.1=q.1∧p.2=a7 (cO z q.2)++nf z q.2:=fun p hp=>by
  obtain⟨q,hq,rfl⟩:=List.mem_map.1 hp;exact⟨q,hq,rfl,rfl⟩
 refine⟨⟨by unfold uN;rw[List.map_map];exact h.nodup,fun p hp=>?_,fun p hp=>?_,fun p hp=>?_,fun p hp=>?_⟩,fun p hp=>?_⟩
 all_goals obtain⟨q,hq,e1,e2⟩:=key p hp
 ·
  rw[e1];exact h.pid q hq
 ·
  rw[e2]
  intro e
  obtain⟨h1,h2⟩:=List.append_eq_nil_iff.1 e
  have h3:cO z q.2≠[]:=fun e3=>h.ne q hq (by rw[←qT z q.2,e3,h2];rfl)
  have:=k6 h3
  have h4:=congrArg List.length h1
  rw[fp]at h4
  simp only[List.length_nil]at h4;omega
 ·
  rw[e2];exact fun x hx=>h.ok q hq x ((ju q.2).subset hx)
 ·
  rw[e2];have:=(ju q.2).length_le;have:=h.len q hq;omega
 ·
  rw[e2];exact(h.chain q hq).sublist (ju q.2)
structure dX(D:Tm)(s:St)(d:Dk):Prop where
 num:∃z w:Nat,s.l.start=z∧z≤w∧w≤1000000000∧((z=0∧w=0∧(d.get (aP s.l.pre)).isSome=false)∨((d.get (aP s.l.pre)).isSome=true∧d.file (aP s.l.pre)=⟨mt z w,(mt z w).length⟩))
 CI:∀b∈s.l.all,b.en≤s.l.start∨s.l.start≤b.base
 sH:((d.get (eZ s.l.pre)).isSome=false∧D=[])∨((d.get (eZ s.l.pre)).isSome=true∧d.file (eZ s.l.pre)=⟨gO D,(gO D).length⟩∧jL D)
 keys:∀p∈D,p.1≤7
 t:∀q,∃S,S<:+cO s.l.start (aD D q)∧(cO s.l.start (aD D q)≠[]→S≠[])∧aD (bg s.t.m) q=S++vN q s.l.e7
 lQ:∀b∈s.l.all,Bx b
 ep:∀b∈s.l.e7,(∃e∈s.c.es,e.1=b.bu∧e.2≤b.base)∧∀e∈s.c.es,e.2≤b.base→e.1≤b.bu
theorem dH{l:Lx}{b:aR}:b∈l.e7↔b∈l.all∧l.start<b.en:=by
 unfold Lx.e7 bJ;rw[List.mem_filter];exact and_congr_right fun _=>decide_eq_true_iff
theorem dX.base{D s d}(h:dX D s d){b:aR}(hb:b∈s.l.e7):s.l.start≤b.base:=by
 obtain⟨h1,h2⟩:=dH.1 hb
 rcases h.CI b h1 with h3|h3<;>omega
theorem x6{n:Int}{l:List aR}(hc:bT n l)(hg:∀b∈l,b.aT):∀b∈l,n≤b.base∧b.en≤aC n l:=fun b hb=>by
 refine⟨?_,xA hc hg b hb⟩
 obtain⟨i,hi⟩:=List.getElem?_of_mem hb
 have h1:=(hc.at hi).1
 have h2:=hc.mono hg (i:=0) (j:=i) (Nat.zero_le _)
 have h3:aC n (l.take 0)=n:=rfl
 omega
theorem x7{n:Int}{l:List aR}(hc:bT n l)(hg:∀b∈l,b.aT){c:aR}(h:c∈l):∀b∈l,b.en≤c.base∨c.base≤b.base:=fun b hb=>by
 obtain⟨i,hi⟩:=List.getElem?_of_mem hb
 obtain⟨k,hk⟩:=List.getElem?_of_mem h
 have h1:=(hc.at hi).2
 have h2:=(hc.at hk).1
 have h3:=(hc.at hi).1
 by_cases SY:i<k
 ·
  have:=hc.mono hg (i:=i+1) (j:=k) SY
  exact .inl (by omega)
 ·
  have:=hc.mono hg (i:=k) (j:=i) (by omega)
  exact .inr (by omega)
theorem rU:∀{n:Int} {l:List aR},bT n l→(∀b∈l,b.aT)→l.Pairwise fun a b=>a.base<b.base
 |_,[],_,_=>.nil
 |n,b::l,hc,hg=>by
  refine .cons (fun x hx=>?_) (rU hc.2 fun x hx=>hg x (.tail _ hx))
  have h1:=(x6 hc.2 (fun x hx=>hg x (.tail _ hx)) x hx).1
  have h2:=(hg b (.head _)).lt
  omega
theorem eT{l:Lx}{d:Dk}(h:l.ok d){b:aR}(hb:b∈l.all):b.base<l.next∧b.en≤l.next∧a8 l≤b.base:=by
 have h1:=x6 h.chain h.aT b hb
 have h2:=(h.aT b hb).lt
 have h3:aC (a8 l) l.all=l.next:=h.aC
 omega
theorem By{z:Nat}{m:Int}{s:St}{e d:Dk}(hp:zP s d)(ha:s.l.all=[])(ht:bg s.t.m=[]):dX [] s d:=by
 have hv:s.l.e7=[]:=by unfold Lx.e7;rw[ha];rfl
 refine⟨⟨0,0,hp.start,Nat.le_refl _,by decide,.inl ⟨rfl,rfl,hp.num⟩⟩,by rw[ha];exact eG,.inl ⟨hp.sH,rfl⟩,eG,fun q=>⟨[],List.nil_suffix,fun h=>absurd rfl h,by rw[ht,hv];rfl⟩,by rw[ha];exact eG,by rw[hv];exact eG⟩
theorem dX.zN{Z i j E D s d s' d'}(hb:bw Z i j E s d)(h:dX D s d){ep pid pe seq:Int}{n:Nat}(hA:lY s d (fQ ep pid pe seq n s.l.next) s' d')(hS:kH ep pid pe seq n s.l.next)(hE:E≤ep)(h7:pid≤7)(hl:late (aD (bg s.t.m) pid) (fQ ep pid pe seq n s.l.next)=false)(hi:i≤60∧j≤130)(hZ:90000≤Z):dX D s' d':=by
 have jw:jW s.l (bA d s.c (cf s.c.es ep s.l.next)) (fQ ep pid pe seq n s.l.next) s'.l d':=hA.app
 have zO:=hb.Bo
 have jz:=hb.size
 have yn:=hS.ep
 have j6:cI s.l.next:=by have:=hS.u;unfold cI;omega
 have k8:=hb.es.next (ep:=ep) (off:=s.l.next) yn j6 (by have:=hb.Fy;omega)
 obtain⟨hB,_,_⟩:=fq hb.cR hb.ok hb.nm k8 (by omega) hb.eM
 have jX:=hb.last
 obtain⟨m1,m2⟩:=jw.eF (aP s.l.pre) fun u hu e=>cN (by omega) e.symm
 obtain⟨p1,p2⟩:=jw.eF (eZ s.l.pre) fun u hu=>cL hu
 obtain⟨m3,m4⟩:=hB.eF (aP s.l.pre) gC.symm
 obtain⟨p3,p4⟩:=hB.eF (eZ s.l.pre) jm
 have IA:bg s'.t.m=note (bg s.t.m) (fQ ep pid pe seq n s.l.next):=hA.t
 have he:s'.c.es=cf s.c.es ep s.l.next:=hA.es
 have nL:=hb.ok.start
 have jS:(fQ ep pid pe seq n s.l.next).en=s.l.next+n:=xN ..
 have B8:=hS.n
 have hv:s'.l.e7=s.l.e7++[fQ ep pid pe seq n s.l.next]:=by
  unfold Lx.e7
  rw[jw.all,jw.start,eE,xd (by omega)]
 refine⟨?_,fun b j6=>?_,?_,h.keys,fun q=>?_,fun b j6=>?_,fun b tV=>?_⟩
 ·
  obtain⟨z,w,a1,a2,a3,a4⟩:=h.num
  refine⟨z,w,jw.start.trans a1,a2,a3,?_⟩
  rw[jw.pre,m1,m2,m3,m4];exact a4
 ·
  rw[jw.all]at j6
  rw[jw.start]
  rcases List.mem_append.1 j6 with j6|j6
  ·
   exact h.CI b j6
  ·
   rw[List.mem_singleton.1 j6];exact .inr nL.2.2
 ·
  rw[jw.pre,p1,p2,p3,p4];exact h.sH
 ·
  obtain⟨S,a1,a2,a3⟩:=h.t q
  refine⟨S,by rw[jw.start];exact a1,by rw[jw.start];exact a2,?_⟩
  rw[IA,pY hl,hv,vA,FR,a3]
  show(if q=pid then _ else _)=_++(_++if pid=q then _ else _)
  by_cases e:q=pid
  ·
   rw[if_pos e,if_pos e.symm,List.append_assoc]
  ·
   rw[if_neg e,if_neg (Ne.symm e),List.append_nil]
 ·
  rw[jw.all]at j6
  rcases List.mem_append.1 j6 with j6|j6
  ·
   exact h.lQ b j6
  ·
   rw[List.mem_singleton.1 j6];exact hS.lQ h7
 ·
  rw[he]
  rw[hv]at tV
  have Nr:bi s.l.next s.c.es=s.c.es:=Bq hb.LI
  have Jr:∀e∈s.c.es,e.1≤ep:=fun e he=>by have:=hb.es.le_last e he;omega
  rcases List.mem_append.1 tV with tV|tV
  ·
   obtain⟨⟨e0,g1,g2,g3⟩,g4⟩:=h.ep b tV
   have oB:=(eT hb.ok (dH.1 tV).1).1
   unfold cf
   split
   ·
    rw[Nr]
    refine⟨⟨e0,List.mem_append_left _ g1,g2,g3⟩,fun e vK hle=>?_⟩
    rcases List.mem_append.1 vK with vK|vK
    ·
     exact g4 e vK hle
    ·
     rw[List.mem_singleton.1 vK]at hle;have:s.l.next≤b.base:=hle;omega
   ·
    exact⟨⟨e0,g1,g2,g3⟩,g4⟩
  ·
   rw[List.mem_singleton.1 tV]
   show(∃e∈cf s.c.es ep s.l.next,e.1=ep∧e.2≤s.l.next)∧∀e∈cf s.c.es ep s.l.next,e.2≤s.l.next→e.1≤ep
   unfold cf
   split
   ·
    refine⟨⟨(ep,s.l.next),List.mem_append_right _ (.head _),rfl,Int.le_refl _⟩,fun e vK _=>?_⟩
    rcases List.mem_append.1 vK with vK|vK
    ·
     rw[Nr]at vK;exact Jr e vK
    ·
     rw[List.mem_singleton.1 vK];exact Int.le_refl _
   ·
    rename_i cP
    refine⟨?_,fun e vK _=>Jr e vK⟩
    cases hg:s.c.es.getLast? with
    |none=>
     exfalso
     unfold ct at cP;rw[hg]at cP
     unfold cI at yn
     exact cP (by show(-1:Int)<ep;omega)
    |some x=>
     have hx:=List.mem_of_getLast? hg
     have h1:ct s.c.es=x.1:=by unfold ct;rw[hg];rfl
     exact⟨x,hx,by omega,by have:=hb.LI x hx;omega⟩
theorem oK{off:Int}{es:List Ep}{e':Ep}(h:e'∈dm off es):∃e∈es,e'.1=e.1∧(e'.2=e.2∨e'.2=max e.2 off):=by
 unfold dm at h
 cases hd:es.drop (cE off es)with
 |nil=>rw[hd]at h;cases h
 |cons x r=>
  rw[hd]at h
  have hm:∀y∈x::r,y∈es:=fun y hy=>List.mem_of_mem_drop (hd▸hy)
  rcases List.mem_cons.1 h with rfl|h
  ·
   exact⟨x,hm x (.head _),rfl,.inr rfl⟩
  ·
   exact⟨e',hm e' (.tail _ h),rfl,.inl rfl⟩
theorem IW{off:Int}{es:List Ep}(he:bO es){e:Ep}(h:e∈es):(∃x∈es,e.1<x.1∧x.2≤off)∨∃e'∈dm off es,e'.1=e.1∧(e'.2=e.2∨e'.2=max e.2 off):=by
 rw[←List.take_append_drop (cE off es) es]at h
 rcases List.mem_append.1 h with h|h
 ·
  left
  obtain⟨k,hk⟩:=List.getElem?_of_mem h
  have CU:=(List.getElem?_eq_some_iff.1 hk).1
  rw[List.length_take]at CU
  rw[List.getElem?_take_of_lt (by omega)]at hk
  obtain⟨z,hz,e1⟩:=nZ he (off+1)
  have hg:cE off es=z-1:=by unfold cE;rw[e1,List.length_take];omega
  have hx:es[z-1]?=some es[z-1]:=List.getElem?_eq_getElem (by omega)
  refine⟨es[z-1],List.mem_of_getElem? hx,?_,?_⟩
  ·
   obtain⟨h1,rfl⟩:=List.getElem?_eq_some_iff.1 hk
   exact(List.pairwise_iff_getElem.1 he.up k (z-1) h1 (by omega) (by omega)).1
  ·
   have hm:es[z-1]∈bi (off+1) es:=by
    rw[e1]
    exact List.mem_of_getElem? (i:=z-1) (by rw[List.getElem?_take_of_lt (by omega)];exact hx)
   have:=of_decide_eq_true (List.mem_filter.1 hm).2
   omega
 ·
  right
  unfold dm
  cases hd:es.drop (cE off es)with
  |nil=>rw[hd]at h;cases h
  |cons x r=>
   rw[hd]at h
   rcases List.mem_cons.1 h with rfl|h
   ·
    exact⟨_,.head _,rfl,.inr rfl⟩
   ·
    exact⟨e,.tail _ h,rfl,.inl rfl⟩
theorem x8{l:Lx}{d:Dk}(h:l.ok d):(l.au.map fun s=>s.base.toNat).Nodup:=(vp h.link h.bX h.bD).imp fun h=>by omega
structure PO(s:St)(d:Dk)(off:Nat)(s':St)(e:Dk):Prop where
 del:jp s.l (gK d s) off (max s.l.aJ off).toNat s'.l e
 Lb:kG s.l (eZ s.l.pre) d (gK d s)
 all:∀b∈s'.l.all,b∈s.l.all
 next:s'.l.next=s.l.next
 au:s'.l.au.length≤s.l.au.length
 full:Full s'.l e
 short:dJ e
 own:mr s'.l e
 file:∀n,n≠aP s.l.pre→(∀u,u≤1000000000→n≠nameOf s.l.pre u)→e.get n=(gK d s).get n∧e.file n=(gK d s).file n
theorem iy{Z i j E s d}(h:bw Z i j E s d):(dI (bg s.t.m)).length≤304+840*i:=by
 have h1:=h.N7
 have h2:=h.Nl
 have h3:=qX h.j5.tocC (by omega) (cx (bg s.t.m)).length
 rw[List.take_length]at h3
 have h4:(dI (bg s.t.m)).length=4+(iY (bg s.t.m)).length:=fk _
 have h5:(iY (bg s.t.m)).length≤gB (bg s.t.m):=h3
 omega
theorem x9{Z i j E s d s' off e}(h:bw Z i j E s d)(hD:jp s.l (gK d s) off (max s.l.aJ off).toNat s'.l e)(hi:i≤60∧j≤130)(hZ:180000≤Z∨(i≤5∧j≤5∧90000≤Z)):PO s d off s' e:=by
 have hk:=iy h
 have zO:=h.Bo
 have jz:=h.size
 have hB:kG s.l (eZ s.l.pre) d (gK d s):=.put h.cR h.ok (oh h.ok.pre).2.1 (fun u hu=>cL hu) (by dsimp only;omega) (Nat.le_refl _)
 have FT:∀n,n≠aP s.l.pre→(∀u,u≤1000000000→n≠nameOf s.l.pre u)→e.get n=(gK d s).get n∧e.file n=(gK d s).file n:=fun n h1 h2=>by
  have:=hD.eF n h1 fun t ht=>.inr fun e'=>by
   obtain⟨k1,k2,_⟩:=h.ok.gP t (List.mem_append_left _ ht)
   have:=k1.bD;have:=k1.ei
   exact h2 t.base.toNat (by omega) (e'.trans k2)
  exact⟨this,congrArg (fun o=>o.getD py) this⟩
 have ju:∀t∈s'.l.au,t∈s.l.au:=fun t ht=>by
  rcases List.mem_append.1 ht with ht|ht
  ·
   exact List.mem_append_left _ (hD.sub t ht)
  ·
   rw[List.mem_singleton.1 ht,hD.ai];exact s.l.cF
 refine⟨hD,hB,fun b hb=>?_,by show s'.l.ai.next=s.l.ai.next;rw[hD.ai],?_,fun t ht=>?_,hD.short hB.ok (hB.short h.short),hD.own (hB.own h.own),FT⟩
 ·
  obtain⟨t,ht,hb⟩:=List.mem_flatMap.1 hb
  exact List.mem_flatMap.2 ⟨t,ju t ht,hb⟩
 ·
  have:=jt _ (s.l.au.map fun s=>s.base.toNat) (x8 hD.ok) fun x hx=>by
   obtain⟨t,ht,rfl⟩:=List.mem_map.1 hx
   exact List.mem_map_of_mem (ju t ht)
  rwa[List.length_map,List.length_map]at this
 ·
  have jc:=hD.sub t ht
  have hg:e.get t.nm=(gK d s).get t.nm:=hD.eF t.nm (xU h.ok (List.mem_append_left _ jc)) fun x hx=>by
   by_cases Q6:x∈s'.l.bX
   ·
    exact .inl Q6
   ·
    refine .inr fun e'=>Q6 ?_
    have k1:=(h.ok.gP x (List.mem_append_left _ hx)).2.1
    have k2:=(h.ok.gP t (List.mem_append_left _ jc)).2.1
    have h3:=ci (k1.symm.trans (e'.symm.trans k2))
    obtain⟨p,hp⟩:=List.getElem?_of_mem (List.mem_append_left [s.l.ai] hx)
    obtain⟨q,hq⟩:=List.getElem?_of_mem (List.mem_append_left [s.l.ai] jc)
    have mm:=x8 h.ok
    obtain⟨p1,p2⟩:=List.getElem?_eq_some_iff.1 hp
    obtain⟨q1,q2⟩:=List.getElem?_eq_some_iff.1 hq
    have M3:p=q:=by
     have SZ:(s.l.au.map fun s=>s.base.toNat)[p]?=some x.base.toNat:=by rw[List.getElem?_map];unfold Lx.au;rw[hp];rfl
     have S1:(s.l.au.map fun s=>s.base.toNat)[q]?=some t.base.toNat:=by rw[List.getElem?_map];unfold Lx.au;rw[hq];rfl
     obtain⟨p4,p5⟩:=List.getElem?_eq_some_iff.1 SZ
     obtain⟨q4,q5⟩:=List.getElem?_eq_some_iff.1 S1
     rcases Nat.lt_trichotomy p q with cP|cP|cP
     ·
      exact absurd (p5.trans (h3.trans q5.symm)) (List.pairwise_iff_getElem.1 mm p q p4 q4 cP)
     ·
      exact cP
     ·
      exact absurd (q5.trans (h3.symm.trans p5.symm)) (List.pairwise_iff_getElem.1 mm q p q4 p4 cP)
    subst M3
    rw[hp]at hq
    exact Option.some.inj hq▸ht
  have hf:e.file t.nm=(gK d s).file t.nm:=congrArg (fun o=>o.getD py) hg
  rw[hf]
  exact hB.full h.full t jc
theorem bw.del{Z i j E s d s' d' off}(h:bw Z i j E s d)(hE:-1≤E)(hA:Fw s d off s' d')(ho:∃b∈s.l.all,b.base=(off:Int))(hi:i≤60∧j≤130)(hZ:180000≤Z∨(i≤5∧j≤5∧90000≤Z)):bw Z i (j+1) E s' d':=by
 obtain⟨e,hD,rfl⟩:=hA.del
 have hX:=x9 h hD hi hZ
 have hk:=iy h
 have zO:=h.Bo
 have jz:=h.size
 obtain⟨b0,mh,gL⟩:=ho
 have oB:=eT h.ok mh
 have IX:=h.ok.ai.1.eC
 have Gj:s.l.next=s.l.ai.next:=rfl
 have Ns:cI (off:Int):=⟨by omega,by omega⟩
 have k8:=h.es.del Ns
 have PP:e.size=Z:=by rw[hD.size,hX.Lb.size,jz]
 have Lr:=Dk.cc h.cR (eZ s.l.pre) ⟨dI (bg s.t.m),(dI (bg s.t.m)).length⟩
 dsimp only at Lr
 have S2:(gK d s).used+(d.file (eZ s.l.pre)).b.length=d.used+(dI (bg s.t.m)).length:=Lr
 have UX:=hD.used
 have N9:((gK d s).file (eZ s.l.pre)).b=dI (bg s.t.m):=by unfold gK;rw[Dk.aW]
 obtain⟨Oa,Ob⟩:=hX.file (ek s.l.pre) gC fun u hu=>fK hu
 obtain⟨Lc,Ld⟩:=hX.file (eZ s.l.pre) xe fun u hu=>cL hu
 obtain⟨Q7,S3⟩:=hX.Lb.eF (ek s.l.pre) jm.symm
 have Js:dw e s.c.nm s.c.es:=h.eM.same (by rw[h.nm,Ob,Q7]) (by rw[h.nm,Oa,S3])
 have cT:s'.l.pre=s.l.pre:=hD.pre
 have Gl:e.used≤(e.file (ek s'.l.pre)).b.length+(e.file (eZ s'.l.pre)).b.length+100*(i+(j+1)):=by
  rw[cT,Ob,Ld,Q7,N9];have:=h.used;omega
 obtain⟨hB,hH,hU⟩:=fq (es:=dm off s.c.es) hX.del.cR hX.del.ok (by rw[h.nm,cT]) k8 (by omega) Js
 have LJ:=k7 (s:=⟨s.sx,s'.l,s.c,s.t⟩) (es:=dm off s.c.es) hX.del.cR (by rw[cT];exact h.nm) Gl
 have ju:∀l:List Nt,∀x∈a7 (cO off l)++nf off l,x∈l:=fun l x hx=>by
  rcases List.mem_append.1 hx with hx|hx
  ·
   exact(jQ (List.mem_of_mem_drop hx)).1
  ·
   exact(List.dropWhile_suffix _).subset hx
 refine⟨hB.cR,hB.ok,hB.own hX.own,hB.full hX.full,hB.short hX.short,cT.trans h.pre,by rw[hA.nm,h.nm,cT],by rw[hX.next];exact h.next,Nat.le_trans hX.au h.au,?_,by rw[hB.size,PP],LJ,?_,fun n hn=>?_,by rw[hA.es];exact k8,by rw[hA.es];exact Nat.le_trans (Bv _ _) h.Fy,fun x hx=>?_,?_,by rw[hA.nm,hA.es];exact hH,by rw[hA.t];exact h.j5.del _,fun p hp=>?_,fun p hp x hx=>?_⟩
 ·
  have h1:=rU hD.ok.chain hD.ok.aT
  have h2:=jt (s'.l.all.map (·.base)) (s.l.all.map (·.base)) ((List.pairwise_map.2 (h1.imp fun h=>by omega))) fun x hx=>by
   obtain⟨b,hb,rfl⟩:=List.mem_map.1 hx
   exact List.mem_map_of_mem (hX.all b hb)
  rw[List.length_map,List.length_map]at h2
  exact Nat.le_trans h2 h.all
 ·
  rw[(hB.eF (eZ s'.l.pre) jm).1,cT,Ld,N9];omega
 ·
  rw[cT]
  rcases lZ (s:=⟨s.sx,s'.l,s.c,s.t⟩) (by rw[cT];exact h.nm) hn with hn|hn
  ·
   exact .inl (by rw[←cT];exact hn)
  ·
   by_cases hx:∃u,u≤1000000000∧n=nameOf s.l.pre u
   ·
    exact .inr (.inr (.inr hx))
   ·
    by_cases hm:n=aP s.l.pre
    ·
     exact .inr (.inr (.inl hm))
    ·
     rw[(hX.file n hm fun u hu e=>hx ⟨u,hu,e⟩).1]at hn
     by_cases hp:n=eZ s.l.pre
     ·
      exact .inr (.inl hp)
     ·
      rw[(hX.Lb.eF n hp).2]at hn
      exact h.names n hn
 ·
  rw[hA.es]at hx
  obtain⟨x0,h1,_,h3⟩:=oK hx
  have:=h.LI x0 h1
  rw[hX.next]
  rcases h3 with h3|h3<;>omega
 ·
  rw[hA.es]
  cases hg:(dm off s.c.es).getLast? with
  |none=>unfold ct;rw[hg];exact hE
  |some x=>
   obtain⟨x0,h1,h2,_⟩:=oK (List.mem_of_getLast? hg)
   have:=h.es.le_last x0 h1
   have:=h.last
   have h5:ct (dm (off:Int) s.c.es)=x.1:=by unfold ct;rw[hg];rfl
   omega
 ·
  rw[hA.t]at hp
  obtain⟨q,hq,rfl⟩:=List.mem_map.1 hp
  exact h.keys q hq
 ·
  rw[hA.t]at hp
  obtain⟨q,hq,rfl⟩:=List.mem_map.1 hp
  rw[hX.next]
  exact h.Fz q hq x (ju _ x hx)
theorem rV{q:Int}{bs:List aR}{x:Nt}(h:x∈vN q bs):∃b∈bs,b.pid=q∧x=iG b:=by
 obtain⟨b,hb,rfl⟩:=List.mem_map.1 h
 obtain⟨h1,h2⟩:=List.mem_filter.1 hb
 exact⟨b,h1,of_decide_eq_true h2,rfl⟩
theorem FU{bs:List aR}{z:Int}(hc:bs.Pairwise fun a b=>a.base<b.base)(hs:∀b∈bs,b.en≤z∨z≤b.base)(hg:∀b∈bs,b.base<b.en):∃P,bs=P++bJ z bs∧(∀b∈P,b.en≤z)∧∀b∈bJ z bs,z≤b.base:=by
 induction bs with
 |nil=>exact⟨[],rfl,eG,eG⟩
 |cons b bs ih=>
  obtain⟨P,h1,h2,h3⟩:=ih (List.pairwise_cons.1 hc).2 (fun x hx=>hs x (.tail _ hx)) (fun x hx=>hg x (.tail _ hx))
  rcases hs b (.head _)with h|h
  ·
   refine⟨b::P,?_,fun x hx=>?_,?_⟩
   ·
    have:bJ z (b::bs)=bJ z bs:=by unfold bJ;rw[List.filter_cons_of_neg (by simpa using h)]
    rw[this,List.cons_append,←h1]
   ·
    rcases List.mem_cons.1 hx with rfl|hx
    ·
     exact h
    ·
     exact h2 x hx
   ·
    have:bJ z (b::bs)=bJ z bs:=by unfold bJ;rw[List.filter_cons_of_neg (by simpa using h)]
    rw[this];exact h3
  ·
   have cw:∀x∈b::bs,z<x.en∧z≤x.base:=fun x hx=>by
    have:=hg x hx
    rcases List.mem_cons.1 hx with rfl|hx
    ·
     omega
    ·
     have:=(List.pairwise_cons.1 hc).1 x hx;omega
   have e:bJ z (b::bs)=b::bs:=List.filter_eq_self.2 fun x hx=>decide_eq_true (cw x hx).1
   exact⟨[],by rw[e];rfl,eG,by rw[e];exact fun x hx=>(cw x hx).2⟩
theorem dX.Jt{D:Tm}{s:St}{q:Int}{S:List Nt}(h:S<:+cO s.l.start (aD D q)):∀x∈S,x.off<s.l.start:=fun x hx=>(jQ (h.subset hx)).2
theorem dX.del{Z i j E D s d s' d' off}(hb:bw Z i j E s d)(h:dX D s d)(hA:Fw s d off s' d')(ho:∃b∈s.l.all,b.base=(off:Int))(hs:s.l.start≤(off:Int))(hi:i≤60∧j≤130)(hZ:180000≤Z∨(i≤5∧j≤5∧90000≤Z)):dX (cx (bg s.t.m)) s' d':=by
 obtain⟨e,hD,rfl⟩:=hA.del
 have hX:=x9 hb hD hi hZ
 have hk:=iy hb
 have zO:=hb.Bo
 have jz:=hb.size
 obtain⟨b0,mh,gL⟩:=ho
 have oB:=eT hb.ok mh
 have IX:=hb.ok.ai.1.eC
 have Gj:s.l.next=s.l.ai.next:=rfl
 have vJ:=hb.ok.aJ
 have Ns:cI (off:Int):=⟨by omega,by omega⟩
 have cT:s'.l.pre=s.l.pre:=hD.pre
 have FV:=hb.ok.chain
 have Bz:=hb.ok.aT
 have zU:=x7 FV Bz mh
 rw[gL]at zU
 have FT:=Dk.aW d (eZ s.l.pre) ⟨dI (bg s.t.m),(dI (bg s.t.m)).length⟩
 have N9:(gK d s).file (eZ s.l.pre)=⟨dI (bg s.t.m),(dI (bg s.t.m)).length⟩:=FT
 have S4:((gK d s).get (eZ s.l.pre)).isSome=true:=Dk.cB ..
 obtain⟨Lc,Ld⟩:=hX.file (eZ s.l.pre) xe fun u hu=>cL hu
 have eF:∀n,n≠ek s.l.pre→(bA e s.c (dm off s.c.es)).file n=e.file n∧(bA e s.c (dm off s.c.es)).get n=e.get n:=fun n hn=>by
  unfold bA
  split
  ·
   exact⟨rfl,rfl⟩
  ·
   rw[hb.nm];exact Dk.aK _ _ hn
 have Nu:=hb.j5.rows
 have vC:s'.l.e7=bJ off s.l.all:=by
  show bJ s'.l.start s'.l.all=_
  rw[hD.start];exact hD.E3
 have Q8:bJ off s.l.all=bJ off s.l.e7:=by
  unfold Lx.e7 bJ
  rw[List.filter_filter]
  refine List.filter_congr fun b _=>?_
  rw[←Bool.decide_and]
  exact decide_eq_decide.2 ⟨fun h=>⟨h,by omega⟩,fun h=>h.1⟩
 have Lr:s.l.e7.Pairwise fun a b=>a.base<b.base:=(rU FV Bz).sublist List.filter_sublist
 obtain⟨P,p1,p2,p3⟩:=FU (z:=off) Lr (fun b hb=>zU b (dH.1 hb).1) fun b hb=>(Bz b (dH.1 hb).1).lt
 refine⟨⟨off,(max s.l.aJ off).toNat,hD.start,by omega,by omega,.inr ?_⟩,fun b j6=>by rw[hD.start];exact zU b (hX.all b j6),.inr ?_,fun p hp=>hb.keys p ((iH hb.j5.tocC).mem_iff.1 hp),fun q=>?_,fun b j6=>h.lQ b (hX.all b j6),fun b tV=>?_⟩
 ·
  rw[cT,(eF _ gC.symm).1,(eF _ gC.symm).2]
  refine⟨?_,hD.num⟩
  have h1:=hD.num
  cases hg:(e.get (aP s.l.pre)).isSome with
  |true=>rfl
  |false=>
   rw[Dk.dK hg]at h1
   have h2:=congrArg (fun f:Fl=>f.b) h1
   have h3:mt off (max s.l.aJ off).toNat=[]:=h2.symm
   unfold mt at h3
   simp at h3
 ·
  rw[cT,(eF _ jm).1,(eF _ jm).2,Lc,Ld,N9]
  exact⟨S4,by rw[zl],Nu⟩
 ·
  obtain⟨S,a1,a2,a3⟩:=h.t q
  have hS:=dX.Jt a1
  have e1:aD (bg s.t.m) q=(S++vN q P)++vN q (bJ off s.l.e7):=by
   have hv:vN q s.l.e7=vN q P++vN q (bJ off s.l.e7):=by rw[←vA,←p1]
   rw[a3,hv,List.append_assoc]
  have MX:∀x∈S++vN q P,x.off<(off:Int):=fun x hx=>by
   rcases List.mem_append.1 hx with hx|hx
   ·
    have:=hS x hx;omega
   ·
    obtain⟨b,hb,_,rfl⟩:=rV hx
    have h1:=p2 b hb
    have h2:=(Bz b (dH.1 (by rw[p1];exact List.mem_append_left _ hb)).1).lt
    show b.base<_;omega
  have N0:∀x∈vN q (bJ off s.l.e7),(off:Int)≤x.off:=fun x hx=>by
   obtain⟨b,hb,_,rfl⟩:=rV hx
   exact p3 b hb
  obtain⟨k1,k2⟩:=tU MX N0
  refine⟨a7 (cO off (aD (bg s.t.m) q)),?_,fun dx=>?_,?_⟩
  ·
   rw[hD.start,qZ hb.j5.tocC];exact List.drop_suffix _ _
  ·
   rw[hD.start,qZ hb.j5.tocC]at dx
   have:=k6 dx
   intro e0
   have h4:=congrArg List.length e0
   rw[fp]at h4
   simp only[List.length_nil]at h4;omega
  ·
   rw[hA.t,zT hb.j5.nodup,vC,Q8,e1,k1,k2]
 ·
  rw[vC,Q8]at tV
  have NS:=p3 b tV
  have S5:b∈s.l.e7:=(List.mem_filter.1 tV).1
  obtain⟨⟨e0,g1,g2,g3⟩,g4⟩:=h.ep b S5
  rw[hA.es]
  refine⟨?_,fun x hx QJ=>?_⟩
  ·
   rcases IW hb.es (off:=off) g1 with⟨x,x1,x2,x3⟩|⟨x,x1,x2,x3⟩
   ·
    have:=g4 x x1 (by omega);omega
   ·
    exact⟨x,x1,by omega,by omega⟩
  ·
   obtain⟨x0,x1,x2,x3⟩:=oK hx
   have:=g4 x0 x1 (by omega)
   omega
theorem CJ{Z i j E s d}(hb:bw Z i j E s d){k:Nat}{rest:List UInt8}:∀p∈pieces s.l k rest,∃t∈s.l.au,p.1=t.base.toNat∧nameOf s.l.pre p.1=t.nm:=fun p hp=>by
 unfold pieces at hp
 rcases List.mem_append.1 hp with hp|hp
 ·
  obtain⟨t,ht,rfl⟩:=List.mem_map.1 hp
  exact⟨t,List.mem_append_left _ ht,rfl,((hb.ok.gP t (List.mem_append_left _ ht)).2.1).symm⟩
 ·
  rw[List.mem_singleton.1 hp]
  exact⟨s.l.ai,s.l.cF,rfl,hb.ok.ai.2.1.symm⟩
theorem zV{a b:Nm}{u:Nat}(h:nameOf a u=nameOf b u):a=b:=by
 unfold nameOf at h
 exact List.append_cancel_right (List.append_cancel_right (List.append_cancel_right h))
structure oY(s:St)(d:Dk)(l2:Lx)(e2:Dk):Prop where
 cR:e2.ok
 ok:l2.ok e2
 pre:l2.pre=s.l.pre
 start:l2.start=s.l.start
 all:∃r,s.l.all=l2.all++r
 next:l2.next≤s.l.next
 own:mr l2 e2
 full:Full l2 e2
 names:∀n,(e2.get n).isSome=true→(d.get n).isSome=true∨∃u,u≤1000000000∧n=nameOf s.l.pre u
 FW:∀n,(∀u,u≤1000000000→n≠nameOf s.l.pre u)→(e2.get n).isSome=(d.get n).isSome
 len:e2.fs.length≤d.fs.length+1
 size:e2.size=d.size
 used:e2.used≤d.used
 au:l2.au.length≤s.l.au.length
 file:∀n,(∀u,u≤1000000000→n≠nameOf s.l.pre u)→(d.file n).safe=(d.file n).b.length→e2.file n=d.file n
 sync:gi l2 e2
theorem ya{Z i j E s d e l2 ss e2}{z w k:Nat}{rest:List UInt8}(hb:bw Z i j E s d)(hC:ik d e)(hk:k≤s.l.ai.bs.length)(hz:s.l.start=(z:Int))(hF:fN s.l.pre e (pieces s.l k rest) z w)(hO:l6 s.l.pre e (pieces s.l k rest) z w l2 ss e2):oY s d l2 e2:=by
 have hI:=hO.open_
 obtain⟨a1,a2,a3⟩:=rO hb.ok hO
 have oI:=hI.sigs
 rw[List.take_length,←hO.au]at oI
 have PR:=@CJ _ _ _ _ _ _ hb k rest
 have ph:∀n,(e2.get n).isSome=(d.get n).isSome:=fun n=>by rw[hI.get,hC.get]
 have Lf:∀t∈l2.au,∃p∈pieces s.l k rest,t.base=(p.1:Int)∧t.nm=nameOf s.l.pre p.1∧t.bs=p.2.1:=fun t ht=>by
  have:sig t∈l2.au.map sig:=List.mem_map_of_mem ht
  rw[oI]at this
  obtain⟨p,hp,e'⟩:=List.mem_map.1 this
  exact⟨p,hp,(congrArg (·.1) e').symm,(congrArg (·.2.1) e').symm,(congrArg (·.2.2) e').symm⟩
 have cT:l2.pre=s.l.pre:=by
  obtain⟨p,hp,h1,h2,_⟩:=Lf l2.ai l2.cF
  have h3:=hO.ok.ai.2.1
  rw[h2,h1]at h3
  exact(zV (by simpa using h3)).symm
 have FP:l2.au.length=s.l.au.length:=by
  have h1:=congrArg List.length oI
  have h2:=congrArg List.length (l7 s.l k rest)
  rw[List.length_map,List.length_map]at h1 h2
  rw[h1,h2]
 refine⟨hI.cR,hO.ok,cT,hO.start.trans hz.symm,?_,?_,fun u hu hg=>?_,fun t ht=>?_,fun n hn=>.inl (ph n▸hn),fun n _=>ph n,by rw[FM hb.cR hI.cR ph];exact Nat.le_succ _,by rw[hI.size,hC.size],by have:=hI.used;have:=hC.used;omega,by omega,fun n h1 h2=>?_,?_⟩
 ·
  refine⟨s.l.ai.bs.drop k,?_⟩
  rw[a1,List.append_assoc,List.take_append_drop]
  unfold Lx.all Lx.au
  rw[List.flatMap_append];simp
 ·
  rw[a2]
  have h1:=hb.ok.ai.1
  have h2:=h1.chain.mono h1.aT (i:=k) (j:=s.l.ai.bs.length) hk
  rw[List.take_length]at h2
  exact h2
 ·
  rw[cT]at hg
  have h1:u∈bk s.l.pre (bp (e.fs.map (·.1))):=by
   rw[eo,dF,←er,←hI.get];exact⟨hu,hg⟩
  rw[hF.nF]at h1
  obtain⟨p,hp,e1⟩:=List.mem_map.1 h1
  have h2:zQ s.l.pre p∈l2.au.map sig:=by rw[oI];exact List.mem_map_of_mem hp
  obtain⟨t,ht,e'⟩:=List.mem_map.1 h2
  refine⟨t,ht,?_⟩
  have:t.base=(p.1:Int):=congrArg (·.1) e'
  omega
 ·
  obtain⟨p,hp,h1,h2,_⟩:=Lf t (List.mem_append_left _ ht)
  rw[h2,hI.IU p (by rw[List.take_length];exact hp)]
 ·
  rw[hI.left n fun p hp e'=>by
   rw[List.take_length]at hp
   obtain⟨t,ht,h3,h4⟩:=PR p hp
   have ho:=(hb.ok.gP t ht).1
   have:=ho.bD;have:=ho.ei
   exact h1 p.1 (by omega) e']
  exact iq (hC.file n) h2
 ·
  obtain⟨p,hp,h1,h2,_⟩:=Lf l2.ai l2.cF
  unfold gi
  rw[h2,hI.IU p (by rw[List.take_length];exact hp)]
theorem dw.safe{d:Dk}{nm:Nm}{es:List Ep}(h:dw d nm es):(d.file nm).safe=(d.file nm).b.length:=by
 rcases h with⟨h,_⟩|⟨_,h⟩
 ·
  rw[Dk.dK h];rfl
 ·
  rw[h]
theorem dX.notes{Z i j E D s d}(hb:bw Z i j E s d)(h:dX D s d)(hi:i≤60∧j≤130){bs:List aR}(hs:bs.Sublist s.l.e7):ij (iN s.l.start D) bs∧gY (bs.foldl note (iN s.l.start D))∧∀q,aD (bs.foldl note (iN s.l.start D)) q=cO s.l.start (aD D q)++vN q bs:=by
 have hD:gY D:=by
  rcases h.sH with⟨_,rfl⟩|⟨_,_,h⟩
  ·
   exact .nil
  ·
   exact h.togY
 have hn:=rT hD.nodup s.l.start
 have nL:=hb.ok.start
 have lD:=hb.next
 have hl:=rS bs (iN s.l.start D) (hD.cut _) (fun b vI=>h.lQ b (dH.1 (hs.subset vI)).1) (fun q=>?_) fun q=>?_
 ·
  refine⟨hl.1,hl.2.1,fun q=>?_⟩
  rw[hl.2.2 q,hn]
 ·
  rw[hn]
  obtain⟨S,a1,a2,a3⟩:=h.t q
  have Ik:=hb.j5.nE q
  rw[a3]at Ik
  have ju:=La (q:=q) hs
  cases hg:(cO s.l.start (aD D q)).getLast? with
  |none=>exact Ik.sublist (ju.trans (List.sublist_append_right _ _))
  |some x=>
   have dx:cO s.l.start (aD D q)≠[]:=fun e=>by rw[e]at hg;cases hg
   have PS:=a2 dx
   obtain⟨pre,hp⟩:=a1
   have hS:S.getLast?=some x:=by
    rw[←hp,List.getLast?_append]at hg
    cases hq:S.getLast? with
    |none=>exact absurd (List.getLast?_eq_none_iff.1 hq) PS
    |some y=>rw[hq]at hg;exact hg
   obtain⟨S0,Nv⟩:=List.getLast?_eq_some_iff.1 hS
   show([x]++vN q bs).Pairwise fT
   refine Ik.sublist ?_
   rw[Nv,List.append_assoc]
   exact(((List.Sublist.refl [x]).append ju)).trans (List.sublist_append_right _ _)
 ·
  rw[hn]
  have h0:=zM (cO s.l.start (aD D q)) 0 s.l.start ((hD.nE q).sublist (List.takeWhile_sublist _)) (fun x hx=>⟨((hD.notes q).1 x (jQ hx).1).off.1,(jQ hx).2⟩) nL.1
  have h1:=hs.length_le
  have h2:s.l.e7.length≤s.l.all.length:=List.length_filter_le ..
  have h3:=hb.all
  omega
theorem Ju{D:Tm}{s:St}{d:Dk}(h:dX D s d):gY D∧D.length≤7∧gB D≤2800160:=by
 have hD:gY D:=by
  rcases h.sH with⟨_,rfl⟩|⟨_,_,h⟩
  ·
   exact .nil
  ·
   exact h.togY
 have h7:D.length≤7:=by
  have:=xP hD.nodup fun x hx=>by
   obtain⟨p,hp,rfl⟩:=List.mem_map.1 hx
   exact⟨(hD.pid p hp).1,h.keys p hp⟩
  rwa[List.length_map]at this
 exact⟨hD,h7,xQ h7 fun p hp=>hD.len p hp⟩
theorem oL{Z i j E D s d l2 e2}(hb:bw Z i j E s d)(h:dX D s d)(hA:oY s d l2 e2)(hi:i≤60∧j≤130)(hZ:90000≤Z):Bk [112] s.c.es D l2 e2:=by
 obtain⟨r,hr⟩:=hA.all
 have zO:=hb.Bo
 have jz:=hb.size
 have FP:=hb.len
 have h2:=hA.used
 have PT:=hA.len
 obtain⟨hD,h7,Q9⟩:=Ju h
 have vC:s.l.e7=l2.e7++bJ s.l.start r:=by
  unfold Lx.e7;rw[hr,eE,hA.start]
 have ju:l2.e7.Sublist s.l.e7:=by rw[vC];exact List.sublist_append_left _ _
 have hP:vq e2 (eZ [112]) D:=by
  rw[←hb.pre]
  rcases h.sH with⟨h1,h2⟩|⟨h1,h2,h3⟩
  ·
   exact .inl ⟨by rw[hA.FW _ fun u hu=>cL hu];exact h1,h2⟩
  ·
   refine .inr ⟨by rw[hA.FW _ fun u hu=>cL hu];exact h1,?_,h3,by omega,by omega⟩
   rw[hA.file _ (fun u hu=>cL hu) (by rw[h2]),h2]
 have hE:dw e2 (ek [112]) s.c.es:=by
  have h1:=hb.eM
  rw[hb.nm]at h1
  rw[←hb.pre]
  exact h1.same (hA.file _ (fun u hu=>fK hu) h1.safe) (hA.FW _ fun u hu=>fK hu)
 refine⟨hA.cR,hA.ok,hA.pre.trans hb.pre,?_,hb.es,hE,hP,by rw[hA.size];omega,by omega,fun b tV=>?_,?_⟩
 ·
  have:=hb.all;rw[hr,List.length_append]at this;omega
 ·
  obtain⟨⟨e0,g1,g2,g3⟩,_⟩:=h.ep b (ju.subset tV)
  have oB:=(eT hA.ok (dH.1 tV).1).1
  have hm:e0∈bi l2.next s.c.es:=List.mem_filter.2 ⟨g1,decide_eq_true (by omega)⟩
  have:=(hb.es.cut l2.next).le_last e0 hm
  omega
 ·
  rw[hA.start];exact(h.notes hb hi ju).1
theorem rW{Z i j E D s d s2 e2 d2}(hb:bw Z i j E s d)(h:dX D s d)(hE:-1≤E)(hA:oY s d s2.l e2)(hO:Bl [112] s.c.es D s2 e2 d2)(hi:i≤60∧j≤130)(hZ:90000≤Z):bw Z i (j+1) E s2 d2∧dX D s2 d2:=by
 have hF:=oL hb h hA hi hZ
 obtain⟨r,hr⟩:=hA.all
 have zO:=hb.Bo
 have cT:=hA.pre
 have ph:s2.c.nm=ek s2.l.pre:=by rw[hO.nm,cT,hb.pre]
 have vC:s.l.e7=s2.l.e7++bJ s.l.start r:=by
  unfold Lx.e7;rw[hr,eE,hA.start]
 have ju:s2.l.e7.Sublist s.l.e7:=by rw[vC];exact List.sublist_append_left _ _
 obtain⟨n1,n2,n3⟩:=h.notes hb hi ju
 have ht:=hO.t
 rw[hA.start]at ht
 have Ra:d2=bA e2 ⟨s2.c.cb,ek s2.l.pre,s.c.es,none,0⟩ (bi s2.l.next s.c.es):=by rw[cT,hb.pre];exact hO.QV
 obtain⟨hB,hH,_⟩:=fq (c:=⟨s2.c.cb,ek s2.l.pre,s.c.es,none,0⟩) (es:=bi s2.l.next s.c.es) hA.cR hA.ok rfl (hb.es.cut _) (by rw[hA.size,hb.size];have:=hA.used;omega) (by rw[cT,hb.pre];exact hF.eM)
 have S6:e2.file (ek s.l.pre)=d.file (ek s.l.pre):=hA.file _ (fun u hu=>fK hu) (by have:=hb.eM;rw[hb.nm]at this;exact this.safe)
 have S7:(d.file (eZ s.l.pre)).safe=(d.file (eZ s.l.pre)).b.length:=by
  rcases h.sH with⟨h1,_⟩|⟨_,h2,_⟩
  ·
   rw[Dk.dK h1];rfl
  ·
   rw[h2]
 have PU:e2.file (eZ s.l.pre)=d.file (eZ s.l.pre):=hA.file _ (fun u hu=>cL hu) S7
 have Gl:e2.used≤(e2.file (ek s2.l.pre)).b.length+(e2.file (eZ s2.l.pre)).b.length+100*(i+(j+1)):=by
  rw[cT,S6,PU];have:=hb.used;have:=hA.used;omega
 have LJ:=k7 (s:=⟨s2.sx,s2.l,⟨s2.c.cb,ek s2.l.pre,s.c.es,none,0⟩,s2.t⟩) (es:=bi s2.l.next s.c.es) hA.cR rfl Gl
 rw[←Ra]at hB hH
 have PV:d2.used≤(d2.file (ek s2.l.pre)).b.length+(d2.file (eZ s2.l.pre)).b.length+100*(i+(j+1)):=by rw[Ra];exact LJ
 obtain⟨hD,_,_⟩:=Ju h
 have Lh:∀p∈bg s2.t.m,p.2=cO s.l.start (aD D p.1)++vN p.1 s2.l.e7:=fun p hp=>by
  rw[←n3 p.1,←ht]
  exact(qW (by rw[ht];exact n2.nodup) hp).symm
 have Nw:=hA.ok.start
 refine⟨⟨hB.cR,hB.ok,hB.own hA.own,hB.full hA.full,hB.short fun n hn=>(hA.names n hn).elim (hb.short n) fun⟨u,hu,e⟩=>by rw[e,dD (by omega),hb.pre];decide,cT.trans hb.pre,ph,by have:=hA.next;have:=hb.next;omega,Nat.le_trans hA.au hb.au,by have:=hb.all;rw[hr,List.length_append]at this;omega,by rw[hB.size,hA.size,hb.size],PV,?_,fun n hn=>?_,by rw[hO.es];exact hb.es.cut _,by rw[hO.es];exact Nat.le_trans (List.length_filter_le ..) hb.Fy,by rw[hO.es];exact fun e he=>of_decide_eq_true (List.mem_filter.1 he).2,by rw[hO.es];exact Bp hb.last hE hb.es,by rw[ph,hO.es];exact hH,by rw[ht];exact n2,fun p hp=>?_,fun p hp x hx=>?_⟩,⟨?_,fun b j6=>?_,?_,h.keys,fun q=>⟨cO s.l.start (aD D q),by rw[hA.start];exact List.suffix_refl _,fun dx=>by rw[hA.start]at dx;exact dx,by rw[ht,n3]⟩,fun b j6=>h.lQ b (by rw[hr];exact List.mem_append_left _ j6),fun b tV=>?_⟩⟩
 ·
  rw[(hB.eF (eZ s2.l.pre) jm).1,cT,PU];exact hb.LH
 ·
  rw[cT]
  by_cases hx:n=ek s.l.pre
  ·
   exact .inl hx
  ·
   rw[(hB.eF n (by rw[cT];exact hx)).2]at hn
   exact(hA.names n hn).elim (hb.names n) fun h=>.inr (.inr (.inr h))
 ·
  rw[ht]at hp
  rcases tT _ _ p hp with h1|⟨b,j6,e⟩
  ·
   obtain⟨q,hq,e⟩:=List.mem_map.1 h1
   obtain⟨x,hx,e2⟩:=List.mem_filterMap.1 hq
   split at e2
   ·
    cases e2
   ·
    cases e2
    have e':x.1=p.1:=e
    rw[←e'];exact h.keys x hx
  ·
   rw[←e];exact(h.lQ b (dH.1 (ju.subset j6)).1).pid.2
 ·
  rw[Lh p hp]at hx
  rcases List.mem_append.1 hx with hx|hx
  ·
   have:=(jQ hx).2;rw[hA.start]at Nw;omega
  ·
   obtain⟨b,j6,_,rfl⟩:=rV hx
   exact(eT hA.ok (dH.1 j6).1).1
 ·
  obtain⟨z,w,a1,a2,a3,a4⟩:=h.num
  refine⟨z,w,hA.start.trans a1,a2,a3,?_⟩
  rw[cT,(hB.eF (aP s.l.pre) (by rw[cT];exact gC.symm)).1,(hB.eF (aP s.l.pre) (by rw[cT];exact gC.symm)).2,hA.FW _ fun u hu e=>cN (by omega) e.symm]
  rcases a4 with⟨b1,b2,b3⟩|⟨b1,b2⟩
  ·
   exact .inl ⟨b1,b2,b3⟩
  ·
   exact .inr ⟨b1,by rw[hA.file _ (fun u hu e=>cN (by omega) e.symm) (by rw[b2]),b2]⟩
 ·
  rw[hA.start];exact h.CI b (by rw[hr];exact List.mem_append_left _ j6)
 ·
  rw[cT,(hB.eF (eZ s.l.pre) (by rw[cT];exact jm)).1,(hB.eF (eZ s.l.pre) (by rw[cT];exact jm)).2,hA.FW _ fun u hu=>cL hu,PU]
  exact h.sH
 ·
  obtain⟨⟨e0,g1,g2,g3⟩,g4⟩:=h.ep b (ju.subset tV)
  have oB:=(eT hA.ok (dH.1 tV).1).1
  rw[hO.es]
  exact⟨⟨e0,List.mem_filter.2 ⟨g1,decide_eq_true (by omega)⟩,g2,g3⟩,fun e he=>g4 e (List.mem_filter.1 he).1⟩
theorem dX.sync{Z i j E D s d}(hb:bw Z i j E s d)(h:dX D s d):dX D s (sync s.l d):=by
 have hS:=Bj hb.ok hb.cR
 have h1:=hb.ok.ai.1.bD
 have h2:=hb.ok.ai.1.ei
 have dx:∀n,(∀u,u≤1000000000→n≠nameOf s.l.pre u)→n≠s.l.ai.nm:=fun n hn e=>hn s.l.ai.base.toNat (by omega) (e.trans hb.ok.ai.2.1)
 obtain⟨m1,m2⟩:=hS.eF (aP s.l.pre) (dx _ fun u hu e=>cN (by omega) e.symm)
 obtain⟨p1,p2⟩:=hS.eF (eZ s.l.pre) (dx _ fun u hu=>cL hu)
 refine⟨?_,h.CI,by rw[p1,p2];exact h.sH,h.keys,h.t,h.lQ,h.ep⟩
 obtain⟨z,w,a1,a2,a3,a4⟩:=h.num
 exact⟨z,w,a1,a2,a3,by rw[m1,m2];exact a4⟩
theorem gi.same{l l':Lx}{d d':Dk}(h:gi l d)(hc:l'.ai=l.ai)(hf:d'.file l.ai.nm=d.file l.ai.nm):gi l' d':=by unfold gi at*;rw[hc,hf];exact h
theorem gi.del{Z i j E s d s' d' off}(hb:bw Z i j E s d)(h:gi s.l d)(hA:Fw s d off s' d')(hi:i≤60∧j≤130):gi s'.l d':=by
 obtain⟨e,hD,rfl⟩:=hA.del
 have h1:=hb.ok.ai.1.bD
 have h2:=hb.ok.ai.1.ei
 have dx:∀n,(∀u,u≤1000000000→n≠nameOf s.l.pre u)→s.l.ai.nm≠n:=fun n hn e=>hn s.l.ai.base.toNat (by omega) (e▸hb.ok.ai.2.1)
 have hE:s.l.ai.nm≠ek s.l.pre:=dx _ fun u hu=>fK hu
 have hP:s.l.ai.nm≠eZ s.l.pre:=dx _ fun u hu=>cL hu
 have hM:s.l.ai.nm≠aP s.l.pre:=xU hb.ok s.l.cF
 have hg:e.get s.l.ai.nm=(gK d s).get s.l.ai.nm:=hD.eF _ hM fun t ht=>.inr (hb.ok.kD ht).symm
 have hf:e.file s.l.ai.nm=(gK d s).file s.l.ai.nm:=congrArg (fun o=>o.getD py) hg
 refine h.same hD.ai ?_
 have hk:(bA e s.c (dm off s.c.es)).file s.l.ai.nm=e.file s.l.ai.nm:=by
  unfold bA
  split
  ·
   rfl
  ·
   rw[hb.nm];exact(Dk.aK _ _ hE).1
 rw[hk,hf]
 unfold gK
 exact(Dk.aK _ _ hP).1
theorem dX.rX{D s d Z i j E}(hb:bw Z i j E s d)(h:dX D s d){off:Int}(h1:s.l.start≤off):s.l.start≤aC (a8 s.l) (ii off s.l.all)∧aC (a8 s.l) (ii off s.l.all)≤off:=by
 have hc:=hb.ok.chain
 have hg:=hb.ok.aT
 have nL:=hb.ok.start
 obtain⟨k,hk⟩:=vu (off:=off) hc hg
 refine⟨?_,rK (by omega) fun b hb=>by simpa using(List.mem_filter.1 hb).2⟩
 rw[hk]
 by_cases CU:k<s.l.all.length
 ·
  have hx:s.l.all[k]?=some s.l.all[k]:=List.getElem?_eq_getElem CU
  have h2:=(hc.at hx).1
  have hm:=List.mem_of_getElem? hx
  rcases h.CI _ hm with h3|h3
  ·
   have jc:s.l.all[k]∈ii off s.l.all:=List.mem_filter.2 ⟨hm,decide_eq_true (by omega)⟩
   rw[hk]at jc
   obtain⟨p,hp⟩:=List.getElem?_of_mem jc
   have Rb:p<k:=by have:=(List.getElem?_eq_some_iff.1 hp).1;rw[List.length_take]at this;omega
   rw[List.getElem?_take_of_lt Rb]at hp
   have h4:=(hc.at hp).2
   have h5:=(hg _ (List.mem_of_getElem? hp)).lt
   have h6:=hc.mono hg (i:=p+1) (j:=k) Rb
   have h7:=(hc.at hp).1
   omega
  ·
   omega
 ·
  rw[List.take_of_length_le (by omega),hb.ok.aC];exact nL.2.2
theorem zW{Z i j E D s d e}(hb:bw Z i j E s d)(h:dX D s d)(hs:gi s.l d)(hC:ik d e)(hi:i≤60∧j≤130):∃z w rest,s.l.start=(z:Nat)∧Found s.l.pre e (pieces s.l s.l.ai.bs.length rest) z w:=by
 obtain⟨z,w,a1,a2,a3,a4⟩:=h.num
 have hc:=hb.ok.ai
 have Nx:=hb.au
 obtain⟨k,rest,h1,h2,h3⟩:=xW (m:=s.l.ai.bs.length) (z:=z) (w:=w) hb.ok hb.cR hb.own hb.full hC (by omega) a1 ⟨a2,a3⟩ a4 ⟨Nat.le_refl _,by rw[List.take_length,←hc.2.2.2];exact Nat.le_of_eq hs.symm⟩ (by
  have nL:=hb.ok.start
  have hn:s.l.next=rN s.l s.l.ai.bs.length:=by unfold rN;rw[List.take_length];rfl
  rw[←hn];omega)
 have hk:k=s.l.ai.bs.length:=by omega
 subst hk
 exact⟨z,w,rest,a1,h3⟩
theorem CK(db mb:Nat){Z i j E D s d e}(most:Int)(hb:bw Z i j E s d)(h:dX D s d)(hs:gi s.l d)(hC:ik d e)(hi:i≤60∧j≤130)(h1:256≤most)(h2:most≤1000000)(FX:∀(L:List Piece) (z w:Nat),Found [112] e L z w→Cn Tryz.prog 32 [.pointer (some ⟨db,0,none⟩),aY [112],.int .i64 most] LV [an db (e.cells mb) 74,mp aY Fl.val mb e.fs] fun v G=>∃l ss e2,v=.tuple #[.pointer (some ⟨l.lb,0,none⟩),.int .i64 0]∧l6 [112] e L z w l ss e2∧G=[LG db l,an db (e2.cells mb) 74,mp aY Fl.val mb e2.fs]):Cn Tryz.prog 32 [.pointer (some ⟨db,0,none⟩),aY [112],.int .i64 most] LV [an db (e.cells mb) 74,mp aY Fl.val mb e.fs] fun v G=>∃l d',v=.tuple #[.pointer (some ⟨l.lb,0,none⟩),.int .i64 0]∧(oY s d l d'∧l.all=s.l.all∧l.next=s.l.next)∧G=[LG db l,an db (d'.cells mb) 74,mp aY Fl.val mb d'.fs]:=by
 obtain⟨z,w,rest,a1,hF⟩:=zW hb h hs hC hi
 rw[hb.pre]at hF
 refine(FX _ z w hF).mono fun v G hv=>?_
 obtain⟨l,ss,e2,hv,hO,hG⟩:=hv
 have PW:Found s.l.pre e (pieces s.l s.l.ai.bs.length rest) z w:=by rw[hb.pre];exact hF
 have Oc:l6 s.l.pre e (pieces s.l s.l.ai.bs.length rest) z w l ss e2:=by rw[hb.pre];exact hO
 obtain⟨b1,b2,_⟩:=rO hb.ok Oc
 exact⟨l,e2,hv,⟨ya hb hC (Nat.le_refl _) a1 PW.x Oc,by rw[b1,List.take_length];unfold Lx.all Lx.au;rw[List.flatMap_append];simp,by rw[b2];unfold rN;rw[List.take_length];rfl⟩,hG⟩
def n0:Nt:=⟨0,0,1,0⟩
def n1:Nt:=⟨0,1,1,1⟩
theorem IY:note [] (fQ 2 7 0 0 1 0)=[(7,[n0])]∧note [(7,[n0])] (fQ 2 7 0 1 1 1)=[(7,[n0,n1])]∧note (iN 1 [(7,[n0,n1])]) (fQ 2 7 0 1 1 1)=[(7,[n0,n1])]∧iN 1 [(7,[n0,n1])]=[(7,[n0])]:=⟨by decide,by decide,by decide,by decide⟩
theorem asks:ask [(7,[n0,n1])] 7 0 0 1=(0,0)∧ask [(7,[n0])] 7 0 1 1=(-1,0)∧late (aD [(7,[n0])] 7) (fQ 2 7 0 1 1 1)=false∧late (aD [] 7) (fQ 2 7 0 0 1 0)=false:=⟨by decide,by decide,by decide,by decide⟩
theorem FY(p:Int×List Nt)(h:cC [p]):cx [p]=[p]:=List.perm_singleton.1 (iH h)
theorem BA{Z i j E s d q e off}(h:bw Z i j E s d)(hT:tH s.l d off q e):∃r,s.l.all=q.all++r∧q.next≤s.l.next∧∀b∈r,q.next≤b.base:=by
 have hc:=h.ok.chain
 have hg:=h.ok.aT
 obtain⟨k,hk⟩:=vu (off:=off) hc hg
 have ha:q.all=s.l.all.take k:=hT.all.trans hk
 have hn:q.next=aC (a8 s.l) (s.l.all.take k):=by rw[←hT.ok.aC,hT.base,ha]
 refine⟨s.l.all.drop k,by rw[ha,List.take_append_drop],?_,fun b hb=>?_⟩
 ·
  rw[hn,←h.ok.aC]
  by_cases CU:k≤s.l.all.length
  ·
   have:=hc.mono hg (i:=k) (j:=s.l.all.length) CU
   rwa[List.take_length]at this
  ·
   rw[List.take_of_length_le (by omega)];exact Int.le_refl _
 ·
  obtain⟨p,hp⟩:=List.getElem?_of_mem hb
  rw[List.getElem?_drop]at hp
  rw[hn,(hc.at hp).1]
  exact hc.mono hg (i:=k) (j:=k+p) (by omega)
theorem tW{z:Int}{t:Tm}{p:Int×List Nt}(h:p∈iN z t):∃q∈t,p.1=q.1∧p.2=cO z q.2:=by
 obtain⟨q,hq,e⟩:=List.mem_filterMap.1 h
 split at e
 ·
  cases e
 ·
  cases e;exact⟨q,hq,rfl,rfl⟩
theorem bw.cut{Z i j E s d s' d' off}(h:bw Z i j E s d)(hE:-1≤E)(hC:KS s d off s' d')(hi:i≤60∧j≤130)(hZ:90000≤Z):bw Z i (j+1) E s' d':=by
 obtain⟨e,hT,rfl⟩:=hC.cut
 obtain⟨r,hr,lD,Rc⟩:=BA h hT
 have zO:=h.Bo
 have jz:=h.size
 have h1:=hT.used
 have h2:=hT.size
 have cT:s'.l.pre=s.l.pre:=hT.pre
 obtain⟨Oa,Ob⟩:=hT.eF (ek s.l.pre) fun u hu=>fK hu
 obtain⟨Lc,Ld⟩:=hT.eF (eZ s.l.pre) fun u hu=>cL hu
 have Js:dw e s.c.nm s.c.es:=h.eM.same (by rw[h.nm,Oa]) (by rw[h.nm,Ob])
 have k8:=h.es.cut s'.l.next
 obtain⟨hB,hH,_⟩:=fq (es:=bi s'.l.next s.c.es) hT.cR hT.ok (by rw[h.nm,cT]) k8 (by omega) Js
 have Gl:e.used≤(e.file (ek s'.l.pre)).b.length+(e.file (eZ s'.l.pre)).b.length+100*(i+(j+1)):=by
  rw[cT,Oa,Lc];have:=h.used;omega
 have LJ:=k7 (s:=⟨s.sx,s'.l,s.c,s.t⟩) (es:=bi s'.l.next s.c.es) hT.cR (by rw[cT];exact h.nm) Gl
 refine⟨hB.cR,hB.ok,hB.own (hT.own h.own),hB.full (hT.full h.full),hB.short fun n hn=>h.short n (hT.names n hn),cT.trans h.pre,by rw[hC.nm,h.nm,cT],by have:=h.next;omega,Nat.le_trans hT.num h.au,by have:=h.all;rw[hr,List.length_append]at this;omega,by rw[hB.size,h2,jz],LJ,by rw[(hB.eF (eZ s'.l.pre) jm).1,cT,Lc];exact h.LH,fun n hn=>?_,by rw[hC.es];exact k8,by rw[hC.es];exact Nat.le_trans (List.length_filter_le ..) h.Fy,by rw[hC.es];exact fun x hx=>of_decide_eq_true (List.mem_filter.1 hx).2,by rw[hC.es];exact Bp h.last hE h.es,by rw[hC.nm,hC.es];exact hH,by rw[hC.t];exact h.j5.cut _,fun p hp=>?_,fun p hp x hx=>?_⟩
 ·
  rw[cT]
  rcases lZ (s:=⟨s.sx,s'.l,s.c,s.t⟩) (by rw[cT];exact h.nm) hn with hn|hn
  ·
   exact .inl (by rw[←cT];exact hn)
  ·
   exact h.names n (hT.names n hn)
 ·
  rw[hC.t]at hp
  obtain⟨q,hq,e1,_⟩:=tW hp
  rw[e1];exact h.keys q hq
 ·
  rw[hC.t]at hp
  obtain⟨q,hq,_,e2⟩:=tW hp
  rw[e2]at hx
  exact(jQ hx).2
theorem dX.cut{Z i j E D s d s' d' off}(hb:bw Z i j E s d)(h:dX D s d)(hC:KS s d off s' d')(hi:i≤60∧j≤130)(hZ:90000≤Z):dX D s' d':=by
 obtain⟨e,hT,rfl⟩:=hC.cut
 obtain⟨r,hr,lD,Rc⟩:=BA hb hT
 have cT:s'.l.pre=s.l.pre:=hT.pre
 have nL:=hT.start
 have Nw:=hT.ok.start
 obtain⟨S8,S9⟩:=hT.eF (aP s.l.pre) fun u hu e=>cN (by omega) e.symm
 obtain⟨Lc,Ld⟩:=hT.eF (eZ s.l.pre) fun u hu=>cL hu
 have eF:∀n,n≠ek s.l.pre→(bA e s.c (bi s'.l.next s.c.es)).file n=e.file n∧(bA e s.c (bi s'.l.next s.c.es)).get n=e.get n:=fun n hn=>by
  unfold bA
  split
  ·
   exact⟨rfl,rfl⟩
  ·
   rw[hb.nm];exact Dk.aK _ _ hn
 have vC:s.l.e7=s'.l.e7++bJ s.l.start r:=by
  unfold Lx.e7;rw[hr,eE,nL]
 have ju:s'.l.e7.Sublist s.l.e7:=by rw[vC];exact List.sublist_append_left _ _
 have cw:∀b∈s'.l.all,b∈s.l.all:=fun b vI=>by rw[hr];exact List.mem_append_left _ vI
 refine⟨?_,fun b j6=>by rw[nL];exact h.CI b (cw b j6),?_,h.keys,fun q=>?_,fun b j6=>h.lQ b (cw b j6),fun b tV=>?_⟩
 ·
  obtain⟨z,w,a1,a2,a3,a4⟩:=h.num
  refine⟨z,w,nL.trans a1,a2,a3,?_⟩
  rw[cT,(eF _ gC.symm).1,(eF _ gC.symm).2,S8,S9];exact a4
 ·
  rw[cT,(eF _ jm).1,(eF _ jm).2,Lc,Ld];exact h.sH
 ·
  obtain⟨S,a1,a2,a3⟩:=h.t q
  refine⟨S,by rw[nL];exact a1,by rw[nL];exact a2,?_⟩
  have hS:=dX.Jt a1
  rw[hC.t,rT hb.j5.nodup,a3,vC,vA,←List.append_assoc]
  refine(tU (fun x hx=>?_) fun x hx=>?_).1
  ·
   rcases List.mem_append.1 hx with hx|hx
   ·
    have:=hS x hx;omega
   ·
    obtain⟨b,vI,_,rfl⟩:=rV hx
    exact(eT hT.ok (dH.1 vI).1).1
  ·
   obtain⟨b,vI,_,rfl⟩:=rV hx
   exact Rc b (List.mem_filter.1 vI).1
 ·
  obtain⟨⟨e0,g1,g2,g3⟩,g4⟩:=h.ep b (ju.subset tV)
  have oB:=(eT hT.ok (dH.1 tV).1).1
  rw[hC.es]
  exact⟨⟨e0,List.mem_filter.2 ⟨g1,decide_eq_true (by omega)⟩,g2,g3⟩,fun x hx=>g4 x (List.mem_filter.1 hx).1⟩
structure vD(pre:Nm)(d:Dk)(z w:Nat)(l:Lx)(e:Dk):Prop where
 ok:l.ok e
 cR:e.ok
 xM:l.pre=pre
 start:l.start=(z:Int)
 bX:l.bX=[]
 bs:l.ai.bs=[]
 base:l.ai.base=(z:Int)
 own:mr l e
 names:∀n,(e.get n).isSome=true→(d.get n).isSome=true∨n=nameOf pre z
 eF:∀n,(∀u,u≤1000000000→n≠nameOf pre u)→e.file n=d.file n∧(e.get n).isSome=(d.get n).isSome
 size:e.size=d.size
 used:e.used≤d.used
 sync:(e.file l.ai.nm).safe=(e.file l.ai.nm).b.length
theorem rY{pre:Nm}{n:Nm}:∀{l:List Nat} {d:Dk},(∀x∈l,n≠nameOf pre x)→(bP pre l d).file n=d.file n∧(bP pre l d).get n=d.get n
 |[],_,_=>⟨rfl,rfl⟩
 |x::l,d,h=>by
  obtain⟨h1,h2⟩:=rY (l:=l) (d:=d.del (nameOf pre x)) fun y hy=>h y (.tail _ hy)
  obtain⟨h3,h4⟩:=Dk.cM d (h x (.head _))
  exact⟨h1.trans h3,h2.trans h4⟩
theorem oZ{pre:Nm}:∀{l:List Nat} {d:Dk},d.ok→(bP pre l d).ok∧(bP pre l d).used≤d.used∧(bP pre l d).size=d.size
 |[],_,h=>⟨h,Nat.le_refl _,rfl⟩
 |x::l,d,h=>by
  obtain⟨h1,h2,h3⟩:=oZ (l:=l) (Dk.uC h (nameOf pre x))
  have:=Dk.ku h (nameOf pre x)
  exact⟨h1,Nat.le_trans h2 (by omega),h3⟩
theorem l8{pre:Nm}{n:Nm}:∀{l:List Nat} {d:Dk},((bP pre l d).get n).isSome=true→(d.get n).isSome=true
 |[],_,h=>h
 |x::l,d,h=>by
  have h1:=l8 (l:=l) (d:=d.del (nameOf pre x)) h
  rw[Dk.kT]at h1
  split at h1
  ·
   cases h1
  ·
   exact h1
theorem tX{pre:Nm}{d e:Dk}{L:List Piece}{z w:Nat}{ss:List Sx}(hF:fN pre d L z w)(hO:eu pre d L L.length ss e)(hd:d.ok)(hn:d.fs.length<255):((e.fs.map (·.1)).Perm (d.fs.map (·.1))∧e.fs.length=d.fs.length)∧bk pre (bp (e.fs.map (·.1)))=L.map (·.1)∧(∀b∈L.map (·.1),b≤1000000000)∧(∀b∈L.map (·.1),(e.get (nameOf pre b)).isSome=true)∧(bP pre (L.map (·.1)) e).fs.length<256∧((bP pre (L.map (·.1)) e).get (nameOf pre z)).isSome=false:=by
 have jc:∀u,u∈L.map (·.1)↔u≤1000000000∧(e.get (nameOf pre u)).isSome=true:=fun u=>by
  rw[←hF.nF,eo,dF,←er,hO.get]
 have Jm:(e.fs.map (·.1)).Perm (d.fs.map (·.1)):=(List.perm_ext_iff_of_nodup hO.cR.nodup hd.nodup).2 fun n=>by rw[←er,←er,hO.get n]
 have Cu:bk pre (bp (e.fs.map (·.1)))=L.map (·.1):=by
  rw[←hF.nF]
  refine Fk ((iK (kY _) (fM hO.cR.nodup))) ((iK (kY _) (fM hd.nodup))) fun x=>?_
  rw[eo,eo,dF,dF,Jm.mem_iff]
 have hl:e.fs.length=d.fs.length:=by have:=Jm.length_eq;rwa[List.length_map,List.length_map]at this
 refine⟨⟨Jm,hl⟩,Cu,fun b hb=>((jc b).1 hb).1,fun b hb=>((jc b).1 hb).2,by have:=rH (pre:=pre) (l:=L.map (·.1)) (d:=e);omega,?_⟩
 have hz:=hF.zw
 by_cases hm:z∈L.map (·.1)
 ·
  rw[kF hm];rfl
 ·
  rw[jO fun x hx e'=>hm (by rw[ci e'];exact hx)]
  cases hg:(e.get (nameOf pre z)).isSome with
  |false=>rfl
  |true=>exact absurd ((jc z).2 ⟨by omega,hg⟩) hm
theorem IZ{pre:Nm}{d e:Dk}{L:List Piece}{z w:Nat}{ss:List Sx}(hF:fN pre d L z w)(hO:eu pre d L L.length ss e)(hd:d.ok)(hn:d.fs.length<255)(hp:og pre){most:Int}(h1:256≤most)(h2:most≤1000000)(lb sb:Nat){sm:List Nat}(iM:Ix sm 0)(aa:Option Addr)(ac:Nat)(ia:Option Addr)(ic:Nat)(la:Option Addr)(lc:Nat):vD pre d z w (Lx.mk lb pre most z z [] (Sx.mk sb (nameOf pre z) (z:Int) [] sm aa ac ia ic) la lc) ((bP pre (L.map (·.1)) e).put (nameOf pre z) ⟨flat [],(flat []).length⟩):=by
 obtain⟨_,b1,b2,b3,b4,b5⟩:=tX hF hO hd hn
 have hz:=hF.zw
 obtain⟨k1,k2,k3⟩:=oZ (pre:=pre) (l:=L.map (·.1)) hO.cR
 have Py:(flat []).length=0:=rfl
 have zO:=Dk.cc k1 (nameOf pre z) ⟨flat [],(flat []).length⟩
 rw[Dk.dK b5]at zO
 have Ta:((bP pre (L.map (·.1)) e).put (nameOf pre z) ⟨flat [],(flat []).length⟩).used=(bP pre (L.map (·.1)) e).used:=by
  have h0:py.b.length=0:=rfl
  dsimp only at zO;omega
 have UY:=hO.used
 have Li:∀n,(∀u,u≤1000000000→n≠nameOf pre u)→((bP pre (L.map (·.1)) e).put (nameOf pre z) ⟨flat [],(flat []).length⟩).file n=e.file n∧((bP pre (L.map (·.1)) e).put (nameOf pre z) ⟨flat [],(flat []).length⟩).get n=e.get n:=fun n Gn=>by
  obtain⟨m1,m2⟩:=Dk.aK (bP pre (L.map (·.1)) e) ⟨flat [],(flat []).length⟩ (Gn z (by omega))
  obtain⟨m3,m4⟩:=rY (l:=L.map (·.1)) (d:=e) fun x hx=>Gn x (b2 x hx)
  exact⟨m1.trans m3,m2.trans m4⟩
 refine⟨⟨hp,fun s hs=>?_,⟨rfl,trivial⟩,fun s hs=>(by cases hs),⟨by show(0:Int)≤z;omega,Int.le_refl _,Int.le_refl _⟩,⟨Int.le_refl _,Int.le_refl _⟩,⟨h1,h2⟩,by show 1≤100000;decide⟩,Dk.dO k1 (by dsimp only;have:=k1.used;omega) (Nat.le_refl _),rfl,rfl,rfl,rfl,rfl,fun u hu hg=>?_,fun n Gn=>?_,fun n Gn=>?_,k3.trans hO.size,by omega,by show(Dk.file _ (nameOf pre z)).safe=(Dk.file _ (nameOf pre z)).b.length;rw[Dk.aW]⟩
 ·
  rw[List.mem_singleton.1 hs]
  exact⟨⟨by show(0:Int)≤z;omega,by show(z:Int)≤_;omega,trivial,fun b hb=>(by cases hb),Nat.zero_le _,iM,Nat.zero_le _⟩,by show nameOf pre z=nameOf pre ((z:Int)).toNat;rw[Int.toNat_natCast],Dk.cB _ _ _,by show(Dk.file _ (nameOf pre z)).b=_;rw[Dk.aW]⟩
 ·
  refine⟨_,.head _,?_⟩
  show((z:Int)).toNat=u
  rw[Int.toNat_natCast]
  by_cases hx:nameOf pre u=nameOf pre z
  ·
   exact(ci hx).symm
  ·
   exfalso
   have Ct:(((bP pre (L.map (·.1)) e).put (nameOf pre z) ⟨flat [],(flat []).length⟩).get (nameOf pre u)).isSome=true:=hg
   rw[(Dk.aK _ _ hx).2]at Ct
   have h5:=l8 Ct
   have hm:u∈L.map (·.1):=by
    rw[←b1,eo,dF,←er];exact⟨hu,h5⟩
   rw[kF hm]at Ct;cases Ct
 ·
  by_cases hx:n=nameOf pre z
  ·
   exact .inr hx
  ·
   left
   rw[(Dk.aK _ _ hx).2]at Gn
   rw[←hO.get];exact l8 Gn
 ·
  obtain⟨m1,m2⟩:=Li n Gn
  refine⟨m1.trans (hO.left n fun p NZ e'=>?_),by rw[m2,hO.get]⟩
  rw[List.take_length]at NZ
  exact Gn p.1 (b2 p.1 (List.mem_map_of_mem NZ)) e'
end Go.Proofs.YtoglbebcdjdkiaaGreatDoor