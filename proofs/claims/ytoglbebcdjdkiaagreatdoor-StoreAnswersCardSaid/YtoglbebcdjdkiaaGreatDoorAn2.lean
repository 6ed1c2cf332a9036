/- Part 2 of a claim's texts: rules for the machine's steps, and steps through functions of the program, under the conditions that each theorem states. -/
import Derived.Test.YtoglbebcdjdkiaaGreatDoorProg
import Derived.Lib.ItoaMem
import Derived.Lib.AtoiAll
import Derived.Lib.Repeat
import Derived.Lib.SlTrimSet
import Derived.Shelf.LaysM
import Derived.Shelf.LaysC
import Derived.Shelf.Small.Wraps
import Derived.Shelf.Strconv.Itoa3
import Derived.Shelf.Strconv.AtoiAll
import Derived.Shelf.Strings.Cut
import Derived.Shelf.Strings.Repeat
import Derived.Shelf.Strings.SlTrimAscii
import Derived.KernelRfl
import Derived.Test.YtoglbebcdjdkiaaGreatDoorRows
import Derived.Lib.LaidTab
import Derived.Shelf.SlIter.Nil
import Derived.Shelf.SortM.Plain
import Derived.Shelf.SortM.SortNone
import Derived.Maps.Range
import Derived.Lib.Strings
import Derived.Test.YtoglbebcdjdkiaaGreatDoorAn1
set_option linter.unusedVariables false
set_option maxRecDepth 20000
set_option maxHeartbeats 8000000
namespace Go.Proofs.YtoglbebcdjdkiaaGreatDoor
open Go Go.Sp
def CU(n:Int):List Value:=[.int .i64 n]
theorem pQ(n:Int):(CU n).length=1:=rfl
def VB(b:Nat)(l:List UInt8):aj:=fun h=>∃s:Option Addr×Nat,True∧bh [an b [.slice s.1 l.length s.2] 115,arr 5 1 s.1 s.2 (fA l)] h
theorem HY:j3 Tryz.prog 58:=⟨_,Tryz.func58,by kernel_rfl,rfl⟩
theorem zf{ns:List Int}{i:Nat}{n:Int}(h:ns[i]?=some n):(ns.take (i+1)).flatMap aF=(ns.take i).flatMap aF++aF n:=by
 rw[List.take_add_one,h,List.flatMap_append];simp
theorem Eu{ns:List Int}(h:∀n∈ns,i64 n):(ns.flatMap aF).length≤ns.length*10:=eW (f:=aF) (k:=10) ns fun n hn=>bB (h n hn)
theorem HZ{t:Tm}{i:Nat}{p:Int}(h:(iU (t.map (·.1)))[i]?=some p):(cx t)[i]?=some (p,aA t p):=by
 unfold cx;rw[List.getElem?_map,h];rfl
theorem oc(l:List Int):(iU l).length=l.length:=List.length_mergeSort l
theorem Ce{l:List Int}{x:Int}:x∈iU l↔x∈l:=List.mem_mergeSort
theorem zg{x:Nt}(h:lq x):(jg x).length≤40:=by
 have h1:=h.ep;have h2:=h.seq;have h3:=h.n;have h4:=h.off;have h5:=h.ON
 unfold cF at h1
 have e1:=bB (n:=x.ep) ⟨by omega,by omega⟩
 have e2:=bB (n:=x.seq) ⟨by omega,by omega⟩
 have e3:=bB (n:=x.n) ⟨by omega,by omega⟩
 have e4:=bB (n:=x.off) ⟨by omega,by omega⟩
 unfold jg;simp only[List.length_append];omega
def gz(t:Tm):Nat:=20+(t.map fun p=>20+p.2.length*40).sum
theorem Ev{p:Int×List Nt}(h1:i64 p.1)(h2:p.2.length≤10000)(h3:∀x∈p.2,lq x):(j6 p).length≤20+p.2.length*40:=by
 have e1:=bB h1
 have e2:=bB (n:=(p.2.length:Int)) ⟨by omega,by omega⟩
 have e3:=eW (f:=jg) (k:=40) p.2 fun x hx=>zg (h3 x hx)
 unfold j6;simp only[List.length_append];omega
theorem rf{α:Type}{f:α→List UInt8}{s:α→Nat}:∀(l:List α),(∀x∈l,(f x).length≤s x)→(l.flatMap f).length≤(l.map s).sum
 |[],_=>Nat.le_refl _
 |x::l,h=>by
  rw[List.flatMap_cons,List.length_append,List.map_cons,List.sum_cons]
  exact Nat.add_le_add (h x (.head _)) (rf l fun y hy=>h y (.tail _ hy))
theorem cC.Ew{t:Tm}(h:cC t){p:Int}(hp:p∈t.map (·.1)):i64 p∧tr p:=by
 obtain⟨x,hx,rfl⟩:=List.mem_map.1 hp
 have:=h.pid x hx
 unfold i64 tr;omega
theorem ri{t:Tm}(hn:(t.map (·.1)).Nodup){p:Int×List Nt}(hp:p∈t):aA t p.1=p.2:=by
 obtain⟨i,hi⟩:=List.getElem?_of_mem hp
 unfold aA;rw[kQ hn hi];rfl
theorem iE{t:Tm}(h:cC t):(cx t).Perm t:=by
 have h1:((t.map (·.1)).map fun p=>(p,aA t p))=t:=by
  rw[List.map_map]
  refine(List.map_congr_left (g:=id) fun p hp=>?_).trans (List.map_id _)
  show(p.1,aA t p.1)=p
  rw[ri h.nodup hp]
 have h2:(cx t).Perm ((t.map (·.1)).map fun p=>(p,aA t p)):=(List.mergeSort_perm _ _).map _
 rwa[h1]at h2
theorem rj{t:Tm}(h:cC t)(hl:t.length≤1000000)(i:Nat):(aF (t.length:Int)++((cx t).take i).flatMap j6).length≤gz t:=by
 have e1:=bB (n:=(t.length:Int)) ⟨by omega,by omega⟩
 have hp:=iE h
 have e2:=rf (f:=j6) (s:=fun p:Int×List Nt=>20+p.2.length*40) ((cx t).take i) fun p NV=>by
  have hm:=hp.mem_iff.1 (List.mem_of_mem_take NV)
  exact Ev (h.Ew (List.mem_map_of_mem hm)).1 (h.len p hm) (h.ok p hm)
 have e3:(((cx t).take i).map fun p:Int×List Nt=>20+p.2.length*40).sum≤(t.map fun p=>20+p.2.length*40).sum:=by
  rw[←(hp.map fun p:Int×List Nt=>20+p.2.length*40).sum_nat]
  have:cx t=(cx t).take i++(cx t).drop i:=(List.take_append_drop _ _).symm
  generalize (cx t).take i=u at*
  rw[this,List.map_append,List.sum_append];omega
 unfold gz;rw[List.length_append];omega
theorem H6(l:List Int):l.map cY=l.flatMap CU:=by
 induction l with
 |nil=>rfl
 |cons x l ih=>rw[List.map_cons,List.flatMap_cons,ih];rfl
theorem Kk(p:Int)(ns:List Nt):j6 (p,ns)=[p,(ns.length:Int)].flatMap aF++ns.flatMap jg:=by unfold j6;simp
theorem Kl(x:Nt):jg x=[x.ep,x.seq,x.n,x.off].flatMap aF:=by unfold jg;simp
theorem Ex{ns:List Nt}{i:Nat}{x:Nt}(h:ns[i]?=some x):(ns.take (i+1)).flatMap jg=(ns.take i).flatMap jg++jg x:=by
 rw[List.take_add_one,h,List.flatMap_append];simp
theorem Ey{t:Tm}{i:Nat}{p:Int×List Nt}(h:t[i]?=some p):(t.take (i+1)).flatMap j6=(t.take i).flatMap j6++j6 p:=by
 rw[List.take_add_one,h,List.flatMap_append];simp
theorem lq.wV{x:Nt}(h:lq x):∀n∈[x.ep,x.seq,x.n,x.off],i64 n:=fun n hn=>by
 have h1:=h.ep;have h2:=h.seq;have h3:=h.n;have h4:=h.off;have h5:=h.ON
 unfold cF at h1
 simp only[List.mem_cons,List.not_mem_nil,or_false]at hn
 unfold i64
 rcases hn with rfl|rfl|rfl|rfl<;>omega
theorem H7(bb:Nat)(l0:List UInt8)(ns:List Int)(na:Option Addr)(nc:Nat)(a:Option Addr)(c:Nat)(H8:∀n∈ns,i64 n)(hl:l0.length+ns.length*10≤1000000000):Cn Tryz.prog 58 [.slice na ns.length nc,.pointer (some ⟨bb,0,none⟩)] (aD na (ns.flatMap CU)) [an bb [.slice a l0.length c] 115,arr 5 1 a c (fA l0)] fun v G=>G=[VB bb (l0++ns.flatMap aF)]:=by
 refine .en Tryz.func58 fun R k=>?_
 refine .ca (an bb [.slice a (l0++(ns.take 0).flatMap aF).length c] 115) (by rw[List.take_zero];simp) ?_
 refine .perm .wh ?_
 refine .ca (arr 5 1 a c (fA (l0++(ns.take 0).flatMap aF))) (by rw[List.take_zero];simp) ?_
 refine .ax fds 3 ?_
 refine .rd (.bP rfl rfl Tryz.underlying31 rfl) ?_
 refine .aH fds 3 ?_
 refine .loop (σ:=Nat×Option Addr×Nat) (fun⟨i,a,c⟩=>i≤ns.length) (fun⟨i,a,c⟩=>ns.length-i) (fun⟨i,a,c⟩=>[(1,.pointer (some ⟨bb,0,none⟩)),(5,.slice na ns.length nc),(6,.int .i64 (ns.length:Nat)),(7,.int .i64 (i:Nat))]) (fun⟨i,a,c⟩=>[an bb [.slice a (l0++(ns.take i).flatMap aF).length c] 115,arr 5 1 a c (fA (l0++(ns.take i).flatMap aF)),R]) (0,a,c) (Nat.zero_le _) .r4 .wh (fun s' hI ih=>?_)
 obtain⟨i,a,c⟩:=s'
 dsimp only at hI ih⊢
 have mm:=hI
 refine .go fds 5 ?_
 refine .aM rfl (fun h1=>?_) (fun h1=>?_)
 ·
  refine .go fds 4 ?_
  obtain⟨n,hn⟩:∃n,ns[i]?=some n:=⟨_,List.getElem?_eq_getElem (by omega)⟩
  have B7:=H8 n (List.mem_of_getElem? hn)
  have Lw:=bB B7
  have jT:=zf hn
  have hle:=Eu (ns:=ns.take i) fun n h=>H8 n (List.mem_of_mem_take h)
  rw[List.length_take]at hle
  have Ai:(l0++(ns.take i).flatMap aF).length=l0.length+((ns.take i).flatMap aF).length:=List.length_append
  refine .tell (φ:=∃b o,na=some ⟨b,o,none⟩) (af.pick .p2 (k.mono fun _ h=>aD.addr h (by rw[au pQ];omega))) (fun hh=>?_)
  obtain⟨b9,o9,h9⟩:=hh
  refine .region ?_
  refine .rd (.indexAddr (b:=b9) (o:=o9) Tryz.underlying31 cc (by show some (Value.slice (na) _ _)=_;rw[h9]) rfl (by omega) (by omega)) ?_
  refine .rd (.load ak rfl (af.one (i:=0) (af.elem (f:=CU) pQ (by decide) (af.pick .p2 (k.mono fun _ h=>h9▸h)) (hn)) rfl)) ?_
  refine .aH fds 2 ?_
  refine .dr [0] [an bb [.slice a (l0++(ns.take i).flatMap aF).length c] 115] ?_
  refine .re 0 rfl (.ld kW rfl .p0 rfl) .q0 ?_
  refine .aq fds [1] ?_
  refine .eg 2 rfl (.fn rfl rfl .nil ah (uX n B7)) ?_
  rintro v _ ⟨G1,hq,rfl⟩
  obtain⟨rfl,rfl⟩:=hq
  simp only[ae]
  refine⟨.inr ⟨_,.q0⟩,?_⟩
  refine .eg 3 rfl (.append rfl rfl Tryz.underlying115 fX rfl (aB.of rfl) (by decide) (by decide) rfl rfl .p1 (n:=(l0++(ns.take i).flatMap aF).length) (m:=(aF n).length) (by rw[ew,Nat.mul_one]) (.JM Tryz.underlying9) (by omega)) ?_
  rintro _ _ ⟨ra,rc,rfl,rn,rfl⟩
  refine ay ?_
  refine .eh 4 rfl (.store Ap rfl rfl .p1 rfl aU) ?_
  rintro _ _ rfl
  refine ay ?_
  refine .dn ?_
  have lX:(l0++(ns.take (i+1)).flatMap aF)=(l0++(ns.take i).flatMap aF)++aF n:=by rw[jT,List.append_assoc]
  refine .ca (an bb [.slice ra (l0++(ns.take (i+1)).flatMap aF).length rc] 115) (by rw[lX,@List.length_append _ (l0++(ns.take i).flatMap aF) (aF n)];rfl) ?_
  refine .perm .wh ?_
  refine .ca (arr 5 1 ra rc (fA (l0++(ns.take (i+1)).flatMap aF))) (by rw[lX,dY (l0++(ns.take i).flatMap aF) (aF n)]) ?_
  refine .ax fds 2 ?_
  refine .rd (.add rfl rfl (by omega) (by omega)) ?_
  refine .aH fds 2 ?_
  exact(ih (i+1,ra,rc) (by show i+1≤ns.length;omega) (by show ns.length-(i+1)<ns.length-i;omega)).to .r4 .wh
 ·
  refine .exit rfl ?_
  obtain rfl:i=ns.length:=by omega
  refine .close (X:=VB bb (l0++ns.flatMap aF)) .cU (fun h H=>⟨(a,c),trivial,by rw[List.take_length]at H;exact H⟩) ?_
  refine .sD Tryz.func58 .nil .cU ?_
  exact⟨[_],rfl,rfl⟩
theorem uZ(bb:Nat)(l0:List UInt8)(ns:List Int)(na:Option Addr)(nc:Nat)(H8:∀n∈ns,i64 n)(hl:l0.length+ns.length*10≤1000000000):Cn Tryz.prog 58 [.slice na ns.length nc,.pointer (some ⟨bb,0,none⟩)] (aD na (ns.flatMap CU)) [VB bb l0] fun v G=>G=[VB bb (l0++ns.flatMap aF)]:=
 Cn.ex HY (fun _ h=>h) fun⟨a,c⟩ _=>H7 bb l0 ns na nc a c H8 hl
theorem Ez(mb:Nat):Cn Tryz.prog 61 [.map (some mb)] (fun _=>True) [] fun v G=>∃kb,v=.func (.func 96) #[] #[.pointer (some ⟨kb,0,none⟩)]∧G=[an kb [.map (some mb)] 91]:=by
 refine .en Tryz.func61 fun R k=>?_
 refine .ax fds 2 ?_
 refine .ef (.box (l:=[.map (some mb)]) rfl rfl (aB.of rfl)) ?_
 rintro _ _ ⟨kb,rfl,rfl⟩
 refine .ax fds 4 ?_
 refine .rd (.makeFunc (cs:=[.pointer (some ⟨kb,0,none⟩)]) rfl rfl) ?_
 refine .aH fds 2 ?_
 refine .aG Tryz.func61 (.t1 rfl) .cU ?_
 exact⟨[_],⟨_,rfl,rfl⟩,rfl⟩
theorem H9(t:Tb)(hT:cC (bf t.m))(hl:t.m.length≤1000000)(hs:gz (bf t.m)≤100000000):Cn Tryz.prog 27 [.pointer (some ⟨t.tb,0,none⟩)] (fun _=>True) [TG t] fun v G=>v=.string (str (dH (bf t.m)))∧G=[TG t]:=by
 refine .en Tryz.func27 fun R k=>?_
 refine .unpack (L:=[an t.tb [.map (some t.mb)] 93,mp cY jW t.mb t.m,cD gI t.m]) .p0 ?_
 simp only[ag,ae]
 have AW:(bf t.m).length=t.m.length:=List.length_map ..
 have OW:(cx (bf t.m)).length=t.m.length:=by unfold cx;rw[List.length_map,oc,List.length_map,AW]
 have oS:(iU (t.m.map (·.1))).length=t.m.length:=by rw[oc,List.length_map]
 refine .ax fds 6 ?_
 refine .ef (.alloc GS rfl (aB.of rfl)) ?_
 rintro _ _ ⟨b3,rfl,rfl⟩
 refine .nil ?_
 refine .cq 5 1 none ?_
 refine .close (X:=VB b3 []) .Gg (fun h H=>⟨(none,0),trivial,H⟩) ?_
 refine .ax fds 2 ?_
 refine .rd (.makeFunc (cs:=[.pointer (some ⟨b3,0,none⟩)]) rfl rfl) ?_
 refine .ax fds 8 ?_
 refine .rd (.ld eA rfl .p1 rfl) ?_
 refine .rd (.Mc rfl rfl Tryz.underlying91 rfl .p2) ?_
 refine .ef (.cr (cs:=CU (t.m.length:Int)) Tryz.underlying31 gR (by decide) rfl rfl rfl (aB.of rfl)) ?_
 rintro _ _ ⟨Qs,rfl,rfl⟩
 refine .sR rfl rfl .q1 ((af.an .p0).mono fun _ h=>.inr ⟨Qs,0,rfl,h⟩) (uZ b3 [] [(t.m.length:Int)] (some ⟨Qs,0,none⟩) 1 (fun n hn=>by rw[List.mem_singleton.1 hn];unfold i64;omega) (by simp)) (fun v G1 hq=>?_)
 obtain rfl:=hq
 simp only[ag,ae]
 refine .nil ?_
 refine .ca (VB b3 (aF ((bf t.m).length:Int)++((cx (bf t.m)).take 0).flatMap j6)) (by rw[AW,List.take_zero];simp) ?_
 refine .ax fds 6 ?_
 refine .rd (.ld eA rfl .p2 rfl) ?_
 refine .fn rfl rfl .nil ah (Ez t.mb) (fun v G1 hq=>?_)
 obtain⟨kb,rfl,rfl⟩:=hq
 simp only[ag,ae]
 refine .fn rfl rfl .nil ((af.an .p0).and (af.OT .p4)) (zc kb t.mb t.m (fun p hp=>(hT.Ew (by rw[gw];exact List.mem_map_of_mem hp)).2) (by omega)) (fun v G1 hq=>?_)
 obtain⟨sa,sc,rfl,rfl⟩:=hq
 simp only[ag,ae]
 refine .rd (.bP rfl rfl Tryz.underlying31 rfl) ?_
 refine .aH fds 2 ?_
 refine .qu (aD sa ((iU (t.m.map (·.1))).flatMap CU)) .p0 (fun _ h=>by rw[←H6];exact h) ?_
 refine .block ?_
 refine .loop (σ:=Nat) (fun i=>i≤t.m.length) (fun i=>t.m.length-i) (fun i=>[(0,.pointer (some ⟨t.tb,0,none⟩)),(3,.pointer (some ⟨b3,0,none⟩)),(4,.func (.func 58) #[] #[.pointer (some ⟨b3,0,none⟩)]),(23,.slice sa t.m.length sc),(24,.int .i64 (t.m.length:Nat)),(25,.int .i64 (i:Nat))]) (fun i=>[VB b3 (aF ((bf t.m).length:Int)++((cx (bf t.m)).take i).flatMap j6),bF (aD sa ((iU (t.m.map (·.1))).flatMap CU)),an t.tb [.map (some t.mb)] 93,mp cY jW t.mb t.m,cD gI t.m,R]) 0 (Nat.zero_le _) .r6 (.cons .p2 (.cons .p0 (.cons .p2 (.cons .p2 (.cons .p2 (.cons .p2 .nil)))))) (fun i hI ih=>?_)
 have mm:=hI
 have MJ:=ih
 refine .go fds 5 ?_
 refine .aM rfl (fun h5=>?_) (fun h5=>?_)
 ·
  refine .go fds 4 ?_
  obtain⟨p,hp⟩:∃p,(iU (t.m.map (·.1)))[i]?=some p:=⟨_,List.getElem?_eq_getElem (by omega)⟩
  have Jl:p∈(bf t.m).map (·.1):=by rw[gw];exact Ce.1 (List.mem_of_getElem? hp)
  have Jm:aA (bf t.m) p=(cj t.m p).ns:=dS _ _
  have ze:(cx (bf t.m))[i]?=some (p,(cj t.m p).ns):=by rw[←Jm];exact HZ (by rw[gw];exact hp)
  have hN:=hT.notes p
  rw[Jm]at hN
  have Qr:=hN.2
  have Cf:∀n∈[p,((cj t.m p).ns.length:Int)],i64 n:=fun n hn=>by
   simp only[List.mem_cons,List.not_mem_nil,or_false]at hn
   rcases hn with rfl|rfl
   ·
    exact(hT.Ew Jl).1
   ·
    unfold i64;omega
  have mi:=rj hT (by omega) i
  refine .tell (φ:=∃b o,sa=some ⟨b,o,none⟩) ((af.bF .p1).mono fun _ h=>aD.addr h (by rw[au pQ];omega)) (fun hh=>?_)
  obtain⟨b9,o9,h9⟩:=hh
  refine .region ?_
  refine .rd (.indexAddr (b:=b9) (o:=o9) Tryz.underlying31 cc (by show some (Value.slice (sa) _ _)=_;rw[h9]) rfl (by omega) (by omega)) ?_
  refine .rd (.load ak rfl (af.one (i:=0) (af.elem (f:=CU) pQ (by decide) ((af.bF .p1).mono fun _ h=>h9▸h) hp) rfl)) ?_
  refine .ax fds 9 ?_
  refine .rd (.ld eA rfl .p2 rfl) ?_
  refine .rd (.move rfl) ?_
  refine .rd (.lookup (q:=p) HK Tryz.underlying91 (fun w=>mO.zero w) rfl rfl .p3) ?_
  refine .al 36 (.slice (cj t.m p).a (cj t.m p).ns.length (cj t.m p).c) rfl (NR t.m p) ?_
  refine .rd (.bP rfl rfl Tryz.underlying89 rfl) ?_
  refine .ef (.buildSlice (n:=2) (cs:=([p,((cj t.m p).ns.length:Int)]:List Int).flatMap CU) Tryz.underlying31 gR rfl (by decide) (by kernel_rfl) (aB.of rfl)) ?_
  rintro _ _ ⟨bq,rfl,rfl⟩
  refine .sR rfl rfl .q1 ((af.an .p0).mono fun _ h=>.inr ⟨bq,0,rfl,h⟩) (uZ b3 (aF ((bf t.m).length:Int)++((cx (bf t.m)).take i).flatMap j6) [p,((cj t.m p).ns.length:Int)] (some ⟨bq,0,none⟩) 2 Cf (by show _+2*10≤_;omega)) (fun v G1 hq=>?_)
  obtain rfl:=hq
  simp only[ag,ae]
  refine .ax fds 6 ?_
  refine .rd (.ld eA rfl .p3 rfl) ?_
  refine .rd (.move rfl) ?_
  refine .rd (.lookup (q:=p) HK Tryz.underlying91 (fun w=>mO.zero w) rfl rfl .p4) ?_
  refine .al 45 (.slice (cj t.m p).a (cj t.m p).ns.length (cj t.m p).c) rfl (NR t.m p) ?_
  refine .rd (.bP rfl rfl Tryz.underlying89 rfl) ?_
  refine .aH fds 2 ?_
  refine .ca (VB b3 ((aF ((bf t.m).length:Int)++((cx (bf t.m)).take i).flatMap j6)++[p,((cj t.m p).ns.length:Int)].flatMap aF++((cj t.m p).ns.take 0).flatMap jg)) (by rw[List.take_zero];simp) ?_
  refine .block ?_
  refine .loop (σ:=Nat) (fun j=>j≤(cj t.m p).ns.length) (fun j=>(cj t.m p).ns.length-j) (fun j=>[(0,.pointer (some ⟨t.tb,0,none⟩)),(3,.pointer (some ⟨b3,0,none⟩)),(4,.func (.func 58) #[] #[.pointer (some ⟨b3,0,none⟩)]),(23,.slice sa t.m.length sc),(24,.int .i64 (t.m.length:Nat)),(25,.int .i64 (i:Nat)),(45,.slice (cj t.m p).a (cj t.m p).ns.length (cj t.m p).c),(46,.int .i64 ((cj t.m p).ns.length:Nat)),(47,.int .i64 (j:Nat))]) (fun j=>[VB b3 ((aF ((bf t.m).length:Int)++((cx (bf t.m)).take i).flatMap j6)++[p,((cj t.m p).ns.length:Int)].flatMap aF++((cj t.m p).ns.take j).flatMap jg),bF (aD sa ((iU (t.m.map (·.1))).flatMap CU)),an t.tb [.map (some t.mb)] 93,mp cY jW t.mb t.m,cD gI t.m,R]) 0 (Nat.zero_le _) .r9 (.cons .p0 (.cons .p1 (.cons .p1 (.cons .p1 (.cons .p1 (.cons .p1 .nil)))))) (fun j hI ih=>?_)
  have BF:=hI
  refine .go fds 5 ?_
  refine .aM rfl (fun MM=>?_) (fun MM=>?_)
  ·
   refine .go fds 4 ?_
   obtain⟨x,hx⟩:∃x,(cj t.m p).ns[j]?=some x:=⟨_,List.getElem?_eq_getElem (by omega)⟩
   have AR:=hN.1 x (List.mem_of_getElem? hx)
   have Km:((aF ((bf t.m).length:Int)++((cx (bf t.m)).take i).flatMap j6)++[p,((cj t.m p).ns.length:Int)].flatMap aF++((cj t.m p).ns.take j).flatMap jg).length≤gz (bf t.m)+20+10000*40:=by
    have h1:=bB (Cf p (.head _))
    have h2:=bB (Cf _ (.tail _ (.head _)))
    have h3:=eW (f:=jg) (k:=40) ((cj t.m p).ns.take j) fun x hx=>zg (hN.1 x (List.mem_of_mem_take hx))
    have h4:((cj t.m p).ns.take j).length≤10000:=by rw[List.length_take];omega
    have gE:=mi
    simp only[List.length_append,List.flatMap_cons,List.flatMap_nil,List.append_nil]at gE⊢;omega
   refine .tell (φ:=∃b o,(cj t.m p).a=some ⟨b,o,none⟩) ((af.cj .p4 p).mono fun _ h=>aD.addr h.1 (by rw[au bY];omega)) (fun hh=>?_)
   obtain⟨R2,o8,h8⟩:=hh
   refine .region ?_
   refine .rd (.indexAddr (b:=R2) (o:=o8) Tryz.underlying89 bE (by show some (Value.slice ((cj t.m p).a) _ _)=_;rw[h8]) rfl (by omega) (by omega)) ?_
   refine .rd (.fT gQ bE rfl rfl (af.elem (f:=fQ) bY (by decide) ((af.cj .p4 p).mono fun _ h=>h8▸h.1) hx)) ?_
   refine .ef (.alloc de rfl (aB.of rfl)) ?_
   rintro _ _ ⟨b8,rfl,rfl⟩
   refine .dc (.storeAll (vs:=fQ x) bE rfl rfl rfl .p0 rfl (aB.of rfl)) ?_
   rintro _ _ rfl
   refine .ax fds 5 ?_
   refine .rd (.ld ak rfl .p0 rfl) ?_
   refine .go fds 2 ?_
   refine .rd (.ld ak rfl .p0 rfl) ?_
   refine .go fds 2 ?_
   refine .rd (.ld ak rfl .p0 rfl) ?_
   refine .rd (.fieldAddr Am rfl) ?_
   refine .rd (.ld ak rfl .p0 rfl) ?_
   refine .ef (.buildSlice (n:=4) (cs:=([x.ep,x.seq,x.n,x.off]:List Int).flatMap CU) Tryz.underlying31 gR rfl (by decide) (by kernel_rfl) (aB.of rfl)) ?_
   rintro _ _ ⟨br,rfl,rfl⟩
   refine .sR rfl rfl .q2 ((af.an .p0).mono fun _ h=>.inr ⟨br,0,rfl,h⟩) (uZ b3 ((aF ((bf t.m).length:Int)++((cx (bf t.m)).take i).flatMap j6)++[p,((cj t.m p).ns.length:Int)].flatMap aF++((cj t.m p).ns.take j).flatMap jg) [x.ep,x.seq,x.n,x.off] (some ⟨br,0,none⟩) 4 AR.wV (by show _+4*10≤_;omega)) (fun v G1 hq=>?_)
   obtain rfl:=hq
   simp only[ag,ae]
   refine .nil ?_
   refine .ca (VB b3 ((aF ((bf t.m).length:Int)++((cx (bf t.m)).take i).flatMap j6)++[p,((cj t.m p).ns.length:Int)].flatMap aF++((cj t.m p).ns.take (j+1)).flatMap jg)) (by rw[Ex hx,Kl,List.append_assoc,List.append_assoc,List.append_assoc]) ?_
   refine .ax fds 2 ?_
   refine .rd (.add rfl rfl (by omega) (by omega)) ?_
   refine .aH fds 2 ?_
   exact(ih (j+1) (by omega) (by omega)).to .r9 (.cons .p0 (.cons .p2 (.cons .p2 (.cons .p2 (.cons .p2 (.cons .p2 .nil))))))
  ·
   obtain rfl:j=(cj t.m p).ns.length:=by omega
   refine .ca (VB b3 (aF ((bf t.m).length:Int)++((cx (bf t.m)).take (i+1)).flatMap j6)) (by rw[Ey ze,Kk,List.take_length,List.append_assoc,List.append_assoc]) ?_
   refine .ax fds 3 ?_
   refine .rd (.add rfl rfl (by omega) (by omega)) ?_
   refine .aH fds 2 ?_
   exact(MJ (i+1) (by omega) (by omega)).to .r6 .jC
 ·
  refine .go fds 2 ?_
  obtain rfl:i=t.m.length:=by omega
  have mi:=rj hT (by omega) t.m.length
  have NW:(aF ((bf t.m).length:Int)++((cx (bf t.m)).take t.m.length).flatMap j6)=(iV (bf t.m)):=by rw[List.take_of_length_le (by omega)];rfl
  rw[NW]at mi
  refine .ca (VB b3 (iV (bf t.m))) (by rw[NW]) ?_
  refine .open_ (σ:=Option Addr×Nat) (φ:=fun _=>True) (B:=fun s=>[an b3 [.slice s.1 (iV (bf t.m)).length s.2] 115,arr 5 1 s.1 s.2 (fA (iV (bf t.m)))]) .p0 (fun h H=>H) (fun s _=>?_)
  obtain⟨va,vc⟩:=s
  simp only[ag,ae]
  refine .dr [0,2] [an b3 [.slice va (iV (bf t.m)).length vc] 115] ?_
  refine .re 0 rfl (.ld kW rfl .p0 rfl) .q0 ?_
  refine .re 2 rfl (.ld kW rfl .p0 rfl) .q0 ?_
  refine .eg 1 rfl (.fn rfl rfl .nil (af.arr .p1) (AM va vc (iV (bf t.m)) (by omega))) ?_
  rintro v _ ⟨G1,hq,rfl⟩
  obtain⟨sb,rfl,rfl⟩:=hq
  simp only[ag,ae]
  refine⟨.inr ⟨_,.q1⟩,?_⟩
  refine .eg 3 rfl (.append rfl rfl Tryz.underlying115 fX rfl (aB.of rfl) (by decide) (by decide) rfl rfl .p0 (n:=4) (m:=(iV (bf t.m)).length) (by rw[ew,Nat.mul_one];rfl) (.nN (af.arr .p2) Tryz.underlying115 (by rw[ew,Nat.mul_one]) (by decide)) (by omega)) ?_
  rintro _ _ ⟨ra,rc,rfl,rn,rfl⟩
  refine ay ?_
  refine .al 70 (.slice ra (summed (iV (bf t.m))).length rc) rfl (by rw[fh]) ?_
  refine .ca (arr 5 1 ra rc (fA (summed (iV (bf t.m))))) (by unfold summed;rw[dY]) ?_
  refine .rs (Δ:=[]) 4 (by kernel_rfl) rfl (.fc (l:=summed (iV (bf t.m))) Tryz.underlying115 Tryz.underlying5 Tryz.underlying9 rfl rfl (af.arr .p0)) (.inl (by kernel_rfl)) ?_
  refine .aq fds [5] ?_
  refine .dn ?_
  refine .pack (L:=[an t.tb [.map (some t.mb)] 93,mp cY jW t.mb t.m,cD gI t.m]) (.cons .p4 (.cons .p4 (.cons .p4 .nil))) ?_
  refine .aG Tryz.func27 (.t1 rfl) .JQ ?_
  exact⟨[_],⟨rfl,rfl⟩,rfl⟩
def gA(x y:Nt):Prop:=x.off<y.off∧x.ep≤y.ep∧(x.ep=y.ep→x.seq+x.n≤y.seq)
def Qt:Nt:=⟨0,0,0,-1⟩
def gL(l:List Nt)(i:Nat):Nt:=(l.take i).getLast?.getD Qt
theorem lY{l:List Nt}{i:Nat}{x:Nt}(h:l[i]?=some x):gL l (i+1)=x:=by
 unfold gL;rw[List.take_add_one,h,List.getLast?_append];rfl
theorem EA{l:List Nt}(hc:l.Pairwise gA)(ho:∀x∈l,lq x){i:Nat}{x:Nt}(h:l[i]?=some x):gA (gL l i) x:=by
 obtain⟨hi,hx⟩:=List.getElem?_eq_some_iff.1 h
 cases i with
 |zero=>
  have h1:=ho x (List.mem_of_getElem? h)
  have h2:=h1.ep;have h3:=h1.seq;have h4:=h1.off
  unfold cF at h2
  exact⟨by show(-1:Int)<_;omega,by show(0:Int)≤_;omega,fun _=>by show(0:Int)+0≤_;omega⟩
 |succ i=>
  rw[lY (List.getElem?_eq_getElem (show i<l.length by omega))]
  have:=List.pairwise_iff_getElem.1 hc i (i+1) (by omega) hi (by omega)
  rw[hx]at this;exact this
theorem EB{l:List Nt}{i:Nat}{x:Nt}(h:l[i]?=some x):(l.drop i).flatMap jg=aF x.ep++(aF x.seq++(aF x.n++(aF x.off++(l.drop (i+1)).flatMap jg))):=by
 obtain⟨hi,rfl⟩:=List.getElem?_eq_some_iff.1 h
 rw[List.drop_eq_getElem_cons hi,List.flatMap_cons,jg,List.append_assoc,List.append_assoc,List.append_assoc]
theorem wW{l:List Nt}(ho:∀x∈l,lq x)(i:Nat):((l.drop i).flatMap jg).length≤l.length*40:=by
 have h2:=eW (f:=jg) (k:=40) (l.drop i) fun e h=>zg (ho e (List.mem_of_mem_drop h))
 rw[List.length_drop]at h2;omega
structure gW(t:Tm):Prop extends cC t where
 chain:∀p∈t,p.2.Pairwise gA
structure jL(u:Tm):Prop extends gW u where
 up:u.Pairwise fun p q=>p.1<q.1
def wX(u:Tm)(i:Nat):Int:=((u.take i).getLast?.map (·.1)).getD 0
theorem ru{u:Tm}{i:Nat}{p:Int×List Nt}(h:u[i]?=some p):wX u (i+1)=p.1:=by
 unfold wX;rw[List.take_add_one,h,List.getLast?_append];rfl
theorem jL.lt{u:Tm}(hu:jL u){i:Nat}{p:Int×List Nt}(h:u[i]?=some p):wX u i<p.1:=by
 obtain⟨hi,hx⟩:=List.getElem?_eq_some_iff.1 h
 cases i with
 |zero=>exact(hu.pid p (List.mem_of_getElem? h)).1
 |succ i=>
  rw[ru (List.getElem?_eq_getElem (show i<u.length by omega))]
  have:=List.pairwise_iff_getElem.1 hu.up i (i+1) (by omega) hi (by omega)
  rw[hx]at this;exact this
theorem jL.fresh{u:Tm}(hu:jL u){i:Nat}{p:Int×List Nt}(h:u[i]?=some p):bK (u.take i) p.1=none:=by
 refine fV.2 (Bool.eq_false_iff.2 fun e=>?_)
 obtain⟨x,hx,hq⟩:=List.any_eq_true.1 e
 obtain⟨j,hj⟩:=List.getElem?_of_mem hx
 have fU:j<i:=by have:=(List.getElem?_eq_some_iff.1 hj).1;rw[List.length_take]at this;omega
 rw[List.getElem?_take_of_lt fU]at hj
 obtain⟨h1,rfl⟩:=List.getElem?_eq_some_iff.1 hj
 obtain⟨h2,rfl⟩:=List.getElem?_eq_some_iff.1 h
 have:=List.pairwise_iff_getElem.1 hu.up j i h1 h2 fU
 have:=of_decide_eq_true hq
 omega
theorem EC{u:Tm}{i:Nat}{p:Int×List Nt}(h:u[i]?=some p):(u.drop i).flatMap j6=aF p.1++(aF (p.2.length:Int)++(p.2.flatMap jg++(u.drop (i+1)).flatMap j6)):=by
 obtain⟨hi,rfl⟩:=List.getElem?_eq_some_iff.1 h
 rw[List.drop_eq_getElem_cons hi,List.flatMap_cons,j6,List.append_assoc,List.append_assoc]
theorem wY{u:Tm}(hu:cC u)(i:Nat):((u.drop i).flatMap j6).length≤gz u:=by
 have h1:=rf (f:=j6) (s:=fun p:Int×List Nt=>20+p.2.length*40) (u.drop i) fun p hp=>by
  have hm:=List.mem_of_mem_drop hp
  have:=hu.pid p hm
  exact Ev (by unfold i64;omega) (hu.len p hm) (hu.ok p hm)
 have h2:((u.drop i).map fun p:Int×List Nt=>20+p.2.length*40).sum≤(u.map fun p=>20+p.2.length*40).sum:=by
  have:u=u.take i++u.drop i:=(List.take_append_drop _ _).symm
  generalize u.drop i=v at*
  rw[this,List.map_append,List.sum_append];omega
 unfold gz;omega
def eR(u:Tm):List UInt8:=aF (u.length:Int)++u.flatMap j6
def gM(u:Tm):List UInt8:=summed (eR u)
theorem ED{u:Tm}(hu:cC u)(hl:u.length≤1000000):(eR u).length≤gz u+20:=by
 have e1:=bB (n:=(u.length:Int)) ⟨by omega,by omega⟩
 have:=wY hu 0
 rw[List.drop_zero]at this
 unfold eR;rw[List.length_append];omega
theorem Cg(t:Tm):(cx t).length=t.length:=by unfold cx;rw[List.length_map,oc,List.length_map]
theorem zh(t:Tm):dH t=gM (cx t):=by unfold dH gM iV eR;rw[Cg]
theorem cC.perm{t u:Tm}(h:cC t)(hp:u.Perm t):cC u:=⟨(hp.map _).nodup_iff.2 h.nodup,fun p hm=>h.pid p (hp.mem_iff.1 hm),fun p hm=>h.ne p (hp.mem_iff.1 hm),fun p hm=>h.ok p (hp.mem_iff.1 hm),fun p hm=>h.len p (hp.mem_iff.1 hm)⟩
theorem EE{l:List Int}(h:l.Nodup):(iU l).Pairwise (·<·):=by
 have h1:(iU l).Pairwise fun a b=>decide (a≤b)=true:=List.pairwise_mergeSort (fun a b c h1 h2=>by have:=of_decide_eq_true h1;have:=of_decide_eq_true h2;exact decide_eq_true (by omega)) (fun a b=>by simp;omega) l
 have h2:(iU l).Nodup:=(List.mergeSort_perm _ _).nodup_iff.2 h
 exact(h1.and h2).imp fun{a b} h=>by have:=of_decide_eq_true h.1;have:=h.2;omega
theorem gW.rows{t:Tm}(h:gW t):jL (cx t):=by
 have hp:=iE h.tocC
 refine⟨⟨h.tocC.perm hp,fun p hm=>h.chain p (hp.mem_iff.1 hm)⟩,?_⟩
 unfold cx
 exact List.pairwise_map.2 (EE h.nodup)
theorem u0{t u:Tm}(hn:(t.map (·.1)).Nodup)(hp:u.Perm t)(q:Int):aA u q=aA t q:=by
 have hu:(u.map (·.1)).Nodup:=(hp.map _).nodup_iff.2 hn
 unfold aA
 cases e:bK t q with
 |some l=>
  obtain⟨i,hi⟩:=List.getElem?_of_mem (hp.mem_iff.2 (eD e))
  rw[kQ hu hi]
 |none=>
  cases e2:bK u q with
  |none=>rfl
  |some l=>
   obtain⟨i,hi⟩:=List.getElem?_of_mem (hp.mem_iff.1 (eD e2))
   rw[kQ hn hi]at e;cases e
theorem ry{t:Tm}(h:cC t)(q:Int):aA (cx t) q=aA t q:=u0 h.nodup (iE h) q
def digit(c:UInt8):Prop:=48≤c.toNat∧c.toNat≤57
def val(acc:Nat)(l:List UInt8):Nat:=l.foldl (fun a c=>a*10+(c.toNat-48)) acc
theorem u3(acc:Nat)(a b:List UInt8):val acc (a++b)=val (val acc a) b:=List.foldl_append ..
theorem nu{u:Nat}(h:u<10):(UInt8.ofNat (48+u)).toNat=48+u:=by simp;omega
theorem jj:∀(u:Nat),∀c∈Lib.decDigits u,digit c:=fun u=>by
 induction u using Nat.strongRecOn with
 |_ u ih=>
  intro c hc
  rw[Lib.decDigits]at hc
  split at hc
  ·
   rename_i h
   rw[List.mem_singleton.1 hc];unfold digit;rw[nu h];omega
  ·
   rcases List.mem_append.1 hc with hc|hc
   ·
    exact ih (u/10) (by omega) c hc
   ·
    rw[List.mem_singleton.1 hc];unfold digit;rw[nu (by omega)];omega
theorem u4(u:Nat):val 0 (Lib.decDigits u)=u:=by
 induction u using Nat.strongRecOn with
 |_ u ih=>
  rw[Lib.decDigits]
  split
  ·
   rename_i h
   show 0*10+((UInt8.ofNat (48+u)).toNat-48)=u
   rw[nu h];omega
  ·
   rw[u3,ih (u/10) (by omega)]
   show u/10*10+((UInt8.ofNat (48+u%10)).toNat-48)=u
   rw[nu (by omega)];omega
theorem tu:∀(l:List UInt8) (acc:Nat),(∀c∈l,digit c)→(acc+1)*10^l.length≤10^18→Lib.parseUint10 acc l=.ok (val acc l)
 |[],_,_,_=>rfl
 |c::l,acc,hd,hb=>by
  obtain⟨h1,h2⟩:=hd c (.head _)
  have hp:1≤10^l.length:=Nat.one_le_pow _ _ (by decide)
  have e:10^(c::l).length=10^l.length*10:=Nat.pow_succ ..
  rw[e,←Nat.mul_assoc,Nat.mul_right_comm]at hb
  have h3:(acc+1)*10≤10^18:=Nat.le_trans (Nat.le_mul_of_pos_right _ hp) hb
  unfold Lib.parseUint10
  rw[if_pos ⟨h1,h2⟩,if_neg (by omega),if_neg (by omega)]
  refine tu l _ (fun x hx=>hd x (.tail _ hx)) (Nat.le_trans (Nat.mul_le_mul_right _ ?_) hb)
  omega
theorem EF{l:List UInt8}(h0:l≠[])(hd:∀c∈l,digit c)(hl:l.length≤18):Lib.atoiAll l=.ok (val 0 l:Int):=by
 cases l with
 |nil=>exact absurd rfl h0
 |cons c l=>
  obtain⟨h1,h2⟩:=hd c (.head _)
  have hp:Lib.parseUint10 0 (c::l)=.ok (val 0 (c::l)):=tu _ _ hd (by rw[Nat.zero_add,Nat.one_mul];exact Nat.pow_le_pow_right (by decide) hl)
  have hv:∀(l:List UInt8) (acc:Nat),(∀c∈l,digit c)→val acc l+1≤(acc+1)*10^l.length:=by
   intro l
   induction l with
   |nil=>intro acc _;show acc+1≤(acc+1)*1;omega
   |cons x l ih=>
    intro acc hx
    obtain⟨h3,h4⟩:=hx x (.head _)
    have h5:=ih (acc*10+(x.toNat-48)) fun y hy=>hx y (.tail _ hy)
    refine Nat.le_trans h5 ?_
    rw[List.length_cons,Nat.pow_succ,Nat.mul_comm (10^l.length) 10,←Nat.mul_assoc]
    exact Nat.mul_le_mul_right _ (by omega)
  have h6:=hv (c::l) 0 hd
  have h7:10^(c::l).length≤10^18:=Nat.pow_le_pow_right (by decide) hl
  unfold Lib.atoiAll
  dsimp only
  rw[if_neg (show¬(c.toNat=43∨c.toNat=45) by omega)]
  unfold Lib.parseMag
  rw[if_neg (by simp),hp]
  dsimp only
  have h8:¬c.toNat=45:=by omega
  simp only[h8,if_false]
  split<;>first|rfl|omega
def pad(u:Nat):List UInt8:=Lib.repeatL [48] (10-(Lib.decDigits u).length)++Lib.decDigits u
theorem gX{u:Nat}(h:u<10^10):(Lib.decDigits u).length≤10:=by
 rw[Lib.decDigits_length]
 by_cases h0:u=0
 ·
  subst h0;rw[Lib.nDigits_small (by decide)];decide
 ·
  have h1:10^(Lib.nDigits u-1)≤u:=by
   obtain⟨k,hk⟩:∃k,k=Lib.nDigits u:=⟨_,rfl⟩
   rw[←hk]
   clear h
   induction k generalizing u with
   |zero=>have:=Lib.nDigits_pos u;omega
   |succ k ih=>
    by_cases h:u<10
    ·
     rw[Lib.nDigits_small h]at hk
     obtain rfl:k=0:=by omega
     show 1≤u;omega
    ·
     rw[Lib.nDigits_big h]at hk
     have Gs:k=Lib.nDigits (u/10):=by omega
     have h2:=ih (u:=u/10) (by omega) Gs
     have hp:=Lib.nDigits_pos (u/10)
     obtain⟨m,rfl⟩:∃m,k=m+1:=⟨k-1,by omega⟩
     show 10^(m+1)≤u
     have h3:10^m≤u/10:=h2
     rw[Nat.pow_succ];omega
  rcases Nat.lt_or_ge 10 (Lib.nDigits u)with h2|h2
  ·
   have h3:10^10≤10^(Lib.nDigits u-1):=Nat.pow_le_pow_right (by decide) (by omega)
   omega
  ·
   exact h2
theorem u5{u:Nat}(h:u<10^10):(pad u).length=10:=by
 have:=gX h
 unfold pad;rw[List.length_append,Lib.repeatL_length];simp;omega
theorem tv:∀(k:Nat),∀c∈Lib.repeatL [48] k,digit c
 |0,_,h=>by cases h
 |k+1,c,h=>by
  rcases List.mem_append.1 h with h|h
  ·
   rw[List.mem_singleton.1 h];exact⟨by decide,by decide⟩
  ·
   exact tv k c h
theorem od(u:Nat):∀c∈pad u,digit c:=fun c h=>by
 rcases List.mem_append.1 h with h|h
 ·
  exact tv _ c h
 ·
  exact jj u c h
theorem AX:∀(k:Nat),val 0 (Lib.repeatL [48] k)=0
 |0=>rfl
 |k+1=>by
  show val 0 ([48]++Lib.repeatL [48] k)=0
  rw[u3];exact AX k
theorem pU(u:Nat):val 0 (pad u)=u:=by unfold pad;rw[u3,AX,u4]
def nameOf(pre:Nm)(u:Nat):Nm:=pre++[45]++pad u++[46,108,111,103]
def aP(pre:Nm):Nm:=pre++[46,109,101,116,97]
theorem ci{pre:Nm}{u v:Nat}(h:nameOf pre u=nameOf pre v):u=v:=by
 unfold nameOf at h
 have h2:=congrArg (val 0) (List.append_cancel_left (List.append_cancel_right h))
 rwa[pU,pU]at h2
theorem dD{pre:Nm}{u:Nat}(h:u<10^10):(nameOf pre u).length=pre.length+15:=by
 unfold nameOf;simp only[List.length_append,u5 h];simp
theorem cM{pre:Nm}{u:Nat}(h:u<10^10):nameOf pre u≠aP pre:=fun e=>by
 have:=congrArg List.length e
 rw[dD h]at this
 unfold aP at this;simp at this
def yn:List UInt8:=[97,98,99,100,101,102,103,104,105,106,107,108,109,110,111,112,113,114,115,116,117,118,119,120,121,122,48,49,50,51,52,53,54,55,56,57,45]
def eS(n:Nm):Prop:=n≠[]∧n.length≤64∧∀c∈n,c∈yn∨c=46
theorem Ch{c:UInt8}(h:digit c):c∈yn:=by
 have key:∀k:Fin 256,48≤(k:Nat)∧(k:Nat)≤57→UInt8.ofNat k∈yn:=by decide+kernel
 have:=key ⟨c.toNat,c.toNat_lt⟩ h
 simpa using this
structure oe(pre:Nm):Prop where
 ne:pre≠[]
 len:pre.length≤40
 yn:∀c∈pre,c∈yn
theorem jM{pre:Nm}(h:oe pre){u:Nat}(hu:u<10^10):eS (nameOf pre u):=by
 refine⟨fun e=>?_,by rw[dD hu];have:=h.len;omega,fun c hc=>?_⟩
 ·
  have:=congrArg List.length e;rw[dD hu]at this;simp at this
 ·
  unfold nameOf at hc
  rcases List.mem_append.1 hc with hc|hc
  ·
   rcases List.mem_append.1 hc with hc|hc
   ·
    rcases List.mem_append.1 hc with hc|hc
    ·
     exact .inl (h.yn c hc)
    ·
     exact .inl (by rw[List.mem_singleton.1 hc];decide)
   ·
    exact .inl (Ch (od u c hc))
  ·
   have:∀x∈([46,108,111,103]:List UInt8),x∈Go.Proofs.YtoglbebcdjdkiaaGreatDoor.yn∨x=46:=by decide
   exact this c hc
theorem u6{pre:Nm}(h:oe pre):eS (aP pre):=by
 refine⟨fun e=>?_,?_,fun c hc=>?_⟩
 ·
  have:=congrArg List.length e;unfold aP at this;simp at this
 ·
  have:=h.len;unfold aP;simp;omega
 ·
  unfold aP at hc
  rcases List.mem_append.1 hc with hc|hc
  ·
   exact .inl (h.yn c hc)
  ·
   have:∀x∈([46,109,101,116,97]:List UInt8),x∈Go.Proofs.YtoglbebcdjdkiaaGreatDoor.yn∨x=46:=by decide
   exact this c hc
theorem zi{α:Type}{p:α→Bool}:∀{l:List α} {x:α},x∈l.takeWhile p→p x=true
 |y::l,x,h=>by
  rw[List.takeWhile_cons]at h
  split at h
  ·
   rename_i hy
   rcases List.mem_cons.1 h with rfl|h
   ·
    exact hy
   ·
    exact zi h
  ·
   cases h
theorem EG{α:Type}{p:α→Bool}:∀{l:List α},(∀x∈l,p x=true)→l.dropWhile p=[]
 |[],_=>rfl
 |y::l,h=>by rw[List.dropWhile_cons,if_pos (h y (.head _))];exact EG fun x hx=>h x (.tail _ hx)
theorem jk{l cs:List UInt8}:Lib.trimS l cs=[]↔∀c∈l,c∈cs:=by
 unfold Lib.trimS Lib.trimLeftS Lib.trimRightS
 constructor
 ·
  intro h c hc
  have h1:∀x∈(List.dropWhile (fun x=>cs.contains x) l.reverse).reverse,cs.contains x=true:=by
   intro x hx
   have:=List.takeWhile_append_dropWhile (p:=fun x=>cs.contains x) (l:=(List.dropWhile (fun x=>cs.contains x) l.reverse).reverse)
   rw[h,List.append_nil]at this
   rw[←this]at hx
   exact zi hx
  have h2:=List.takeWhile_append_dropWhile (p:=fun x=>cs.contains x) (l:=l.reverse)
  have h3:c∈l.reverse:=List.mem_reverse.2 hc
  rw[←h2]at h3
  rcases List.mem_append.1 h3 with h3|h3
  ·
   simpa using zi h3
  ·
   simpa using h1 c (List.mem_reverse.2 h3)
 ·
  intro h
  have h1:List.dropWhile (fun x=>cs.contains x) l.reverse=[]:=EG fun x hx=>by simpa using h x (List.mem_reverse.1 hx)
  rw[h1];rfl
structure Lx where
 lb:Nat
 pre:Nm
 most:Int
 start:Int
 aJ:Int
 bX:List Sx
 ai:Sx
 la:Option Addr
 lc:Nat
def Lx.ar(l:Lx):List Sx:=l.bX++[l.ai]
def sp(s:Sx):List Value:=[.pointer (some ⟨s.b,0,none⟩)]
theorem dO(s:Sx):(sp s).length=1:=rfl
def a6(p:Option Addr)(db:Nat)(pre:Nm)(most start aJ:Int)(la:Option Addr)(n lc:Nat):List Value:=[.pointer p,.pointer (some ⟨db,0,none⟩),aW pre,.int .i64 most,.int .i64 start,.int .i64 aJ,.slice la n lc]
def Lx.cells(l:Lx)(db:Nat):List Value:=a6 (some ⟨l.ai.b,0,none⟩) db l.pre l.most l.start l.aJ l.la (l.bX.length+1) l.lc
def SG(db:Nat)(s:Sx):aj:=pk [an s.b (s.cells db) 110,arr 112 4 s.aa s.ac s.rows,arr 3 1 s.ia s.ic (s.sm.flatMap fI)]
def LG(db:Nat)(l:Lx):aj:=pk [an l.lb (l.cells db) 57,arr 54 1 l.la l.lc (l.ar.flatMap sp),cD (SG db) l.ar]
theorem SG.at{Γ aI db s}(p:bD (SG db s) Γ aI):af Γ (iS db s):=fun A w h=>by
 have h1:=h.map fun _=>p.bh
 have h2:Sat A w ([an s.b (s.cells db) 110,arr 112 4 s.aa s.ac s.rows,arr 3 1 s.ia s.ic (s.sm.flatMap fI)]++aI):=Sat.open_ (σ:=Unit) (φ:=fun _=>True) (B:=fun _=>_) (fun _ h=>⟨(),trivial,h⟩) h1|>.elim fun _ h=>h.2
 exact⟨(af.an .p0) A w h2,(af.arr .p1) A w h2,(af.arr .p2) A w h2⟩
def Lx.all(l:Lx):List aQ:=l.ar.flatMap (·.bs)
def Lx.next(l:Lx):Int:=l.ai.next
def a8(l:Lx):Int:=(l.ar.headD l.ai).base
def jd:Int→List Sx→Prop
 |_,[]=>True
 |n,s::r=>s.base=n∧jd s.next r
structure Lx.ok(l:Lx)(d:Dk):Prop where
 pre:oe l.pre
 gN:∀s∈l.ar,s.ok∧s.nm=nameOf l.pre s.base.toNat∧(d.get s.nm).isSome=true∧(d.file s.nm).b=flat s.bs
 link:jd (a8 l) l.ar
 ne:∀s∈l.bX,s.bs≠[]
 start:0≤l.start∧a8 l≤l.start∧l.start≤l.next
 aJ:l.start≤l.aJ∧l.aJ≤l.next
 most:256≤l.most∧l.most≤1000000
 len:l.ar.length≤100000
theorem Lx.cJ(l:Lx):l.ai∈l.ar:=by unfold Lx.ar;simp
def tw(db:Nat)(l:Lx)(w:World):Prop:=aL l.lb 0 (l.cells db) w∧aD l.la (l.ar.flatMap sp) w∧∀s∈l.ar,iS db s w
theorem af.lH{db:Nat}{l:List Sx}{Γ aI:List aj}(p:bD (cD (SG db) l) Γ aI):af Γ fun w=>∀s∈l,iS db s w:=fun A w h _ hs=>(af.cD p hs (SG.at .p0)) A w h
theorem LG.at{Γ aI db l}(p:bD (LG db l) Γ aI):af Γ (tw db l):=fun A w h=>by
 have h1:=h.map fun _=>p.bh
 have h2:Sat A w ([an l.lb (l.cells db) 57,arr 54 1 l.la l.lc (l.ar.flatMap sp),cD (SG db) l.ar]++aI):=Sat.open_ (σ:=Unit) (φ:=fun _=>True) (B:=fun _=>_) (fun _ h=>⟨(),trivial,h⟩) h1|>.elim fun _ h=>h.2
 exact⟨(af.an .p0) A w h2,(af.arr .p1) A w h2,(af.lH .p2) A w h2⟩
theorem wZ{s:Sx}(h:s.ok){off:Int}(ho:s.base≤off):gU s off 16777216=s.bs.filter fun b=>decide (off<b.en):=by
 have:=h.kC
 unfold gU
 rw[if_neg (by omega),uK _ _ _ (by omega),List.nil_append]
theorem kZ{s:Sx}(h:s.ok){b:aQ}(hb:b∈s.bs):s.base<b.en:=by
 obtain⟨i,hi⟩:=List.getElem?_of_mem hb
 have h1:=Sx.uL h hi
 have h2:=h.chain.mono h.aT (i:=0) (j:=i) (Nat.zero_le _)
 have h3:aC s.base (s.bs.take 0)=s.base:=rfl
 have:=(h.aT b hb).lt
 omega
theorem u7{s:Sx}(h:s.ok):gU s s.base 16777216=s.bs:=by
 rw[wZ h (Int.le_refl _)]
 exact List.filter_eq_self.2 fun b hb=>decide_eq_true (kZ h hb)
def bJ(n:Int)(l:List aQ):List aQ:=l.filter fun b=>decide (n<b.en)
theorem eE(n:Int)(a b:List aQ):bJ n (a++b)=bJ n a++bJ n b:=List.filter_append ..
theorem w6{n:Int}{b:aQ}(h:n<b.en):bJ n [b]=[b]:=by unfold bJ;simp[h]
theorem Ci{n:Int}{b:aQ}(h:¬n<b.en):bJ n [b]=[]:=by unfold bJ;simp[h]
theorem tA{l:Lx}{i:Nat}{s:Sx}(h:l.ar[i]?=some s):(l.ar.take (i+1)).flatMap (·.bs)=(l.ar.take i).flatMap (·.bs)++s.bs:=by
 rw[List.take_add_one,h,List.flatMap_append];simp
theorem tB{xl:List lp}{j:Nat}{y:lp}(h:xl[j]?=some y):(xl.take (j+1)).map (·.1)=(xl.take j).map (·.1)++[y.1]:=by
 rw[List.take_add_one,h,List.map_append];rfl
theorem Ia{l:Lx}{i:Nat}{s:Sx}(h:l.ar[i]?=some s):((l.ar.take i).flatMap (·.bs)).length+s.bs.length≤l.all.length:=by
 rw[←List.length_append,←tA h]
 have e:l.all=(l.ar.take (i+1)).flatMap (·.bs)++(l.ar.drop (i+1)).flatMap (·.bs):=by
  unfold Lx.all;rw[←List.flatMap_append,List.take_append_drop]
 rw[e,List.length_append];omega
theorem kF(n:Int)(l:List aQ):(bJ n l).length≤l.length:=List.length_filter_le ..
theorem tC{l:Lx}{i:Nat}{s:Sx}(h:l.ar[i]?=some s):(l.ar.drop i).flatMap (·.bs)=s.bs++(l.ar.drop (i+1)).flatMap (·.bs):=by
 obtain⟨hi,rfl⟩:=List.getElem?_eq_some_iff.1 h
 rw[List.drop_eq_getElem_cons hi,List.flatMap_cons]
def eY(pre:Nm):Nm:=pre++[46,112,105,100,115]
def ek(pre:Nm):Nm:=pre++[46,101,112,111,99,104,115]
structure St where
 sx:Nat
 l:Lx
 c:Cx
 t:Tb
def St.cells(s:St)(db:Nat):List Value:=[.pointer (some ⟨db,0,none⟩),aW s.l.pre,.pointer (some ⟨s.l.lb,0,none⟩),.pointer (some ⟨s.c.cb,0,none⟩),.pointer (some ⟨s.t.tb,0,none⟩)]
def SS(db:Nat)(s:St):aj:=pk [an s.sx (s.cells db) 80,LG db s.l,CG db s.c,TG s.t]
theorem SS.cells{Γ aI db s}(p:bD (SS db s) Γ aI):af Γ (aL s.sx 0 (s.cells db)):=.pk p (af.an .p0)
theorem SS.log{Γ aI db s}(p:bD (SS db s) Γ aI):af Γ (tw db s.l):=.pk p (LG.at .p1)
theorem SS.cache{Γ aI db s}(p:bD (SS db s) Γ aI):af Γ (jJ db s.c):=.pk p (CG.at .p2)
theorem eS.ext{pre:Nm}(h:oe pre){x:List UInt8}(hl:x.length≤24)(hx:∀c∈x,c∈yn∨c=46):eS (pre++x):=
 ⟨fun e=>h.ne (List.append_eq_nil_iff.1 e).1,by rw[List.length_append];have:=h.len;omega,fun c hc=>by
  rcases List.mem_append.1 hc with hc|hc
  ·
   exact .inl (h.yn c hc)
  ·
   exact hx c hc⟩
theorem og{pre:Nm}(h:oe pre):eS (eY pre):=.ext h (by decide) (by decide)
theorem jm{pre:Nm}(h:oe pre):eS (ek pre):=.ext h (by decide) (by decide)
theorem cK{pre:Nm}{u:Nat}(h:u≤1000000000):eY pre≠nameOf pre u:=fun e=>by
 have:=congrArg List.length e
 rw[dD (by omega)]at this
 unfold eY at this;simp at this
theorem fK{pre:Nm}{u:Nat}(h:u≤1000000000):ek pre≠nameOf pre u:=fun e=>by
 have:=congrArg List.length e
 rw[dD (by omega)]at this
 unfold ek at this;simp at this
theorem w8{pre:Nm}:eY pre≠aP pre:=fun e=>absurd (List.append_cancel_left e) (by decide)
theorem gB{pre:Nm}:ek pre≠aP pre:=fun e=>absurd (List.append_cancel_left e) (by decide)
theorem jo{pre:Nm}:eY pre≠ek pre:=fun e=>absurd (List.append_cancel_left e) (by decide)
def Lx.grow(l:Lx)(b:aQ)(sm:List Nat)(aa:Option Addr)(ac:Nat)(ia:Option Addr)(ic:Nat):Lx:={l with ai:=⟨l.ai.b,l.ai.nm,l.ai.base,l.ai.bs++[b],sm,aa,ac,ia,ic⟩}
def Lx.roll(l:Lx)(sb:Nat)(b:aQ)(sm:List Nat)(aa:Option Addr)(ac:Nat)(ia:Option Addr)(ic:Nat)(qa:Option Addr)(qc:Nat):Lx:={l with bX:=l.ar,ai:=⟨sb,nameOf l.pre l.next.toNat,((l.next.toNat:Nat):Int),[b],sm,aa,ac,ia,ic⟩,la:=qa,lc:=qc}
theorem Ib(l:Lx)(b:aQ)(sm aa ac ia ic):(l.grow b sm aa ac ia ic).ar.flatMap sp=l.ar.flatMap sp:=by
 unfold Lx.ar Lx.grow;rw[List.flatMap_append,List.flatMap_append];rfl
theorem iF{db:Nat}{bX:List Sx}{s:Sx}{h:Hp}(H:bh [SG db s,cD (SG db) bX] h):cD (SG db) (bX++[s]) h:=cD.put (List.perm_append_comm (l₁:=[s]) (l₂:=bX)) H
theorem gY{s:Sx}(h:s.ok)(hn:s.bs≠[]):s.base<s.next:=by
 have h0:0<s.bs.length:=List.length_pos_iff.2 hn
 obtain⟨b,hb,he⟩:=Sx.last h0
 rw[←he];exact kZ h (List.mem_of_getElem? hb)
theorem AY:∀{n:Int} {l:List Sx} {c:Sx},jd n (l++[c])→(∀s∈l,s.ok∧s.bs≠[])→n≤c.base∧∀s∈l,s.base<c.base
 |n,[],c,h,_=>⟨by have:=h.1;omega,fun _ h=>(by cases h)⟩
 |n,x::l,c,h,ho=>by
  obtain⟨h1,h2⟩:=AY (n:=x.next) (l:=l) h.2 fun s hs=>ho s (.tail _ hs)
  have h3:=gY (ho x (.head _)).1 (ho x (.head _)).2
  have h4:x.base=n:=h.1
  refine⟨by omega,fun s hs=>?_⟩
  rcases List.mem_cons.1 hs with rfl|hs
  ·
   omega
  ·
   exact h2 s hs
theorem rz:∀{n:Int} {l:List Sx} {c c':Sx},c'.base=c.base→jd n (l++[c])→jd n (l++[c'])
 |n,[],c,c',e,h=>⟨e.trans h.1,trivial⟩
 |n,x::l,c,c',e,h=>⟨h.1,rz (l:=l) e h.2⟩
theorem tD:∀{n:Int} {l:List Sx} {c c':Sx},c'.base=c.next→jd n (l++[c])→jd n ((l++[c])++[c'])
 |n,[],c,c',e,h=>⟨h.1,e,trivial⟩
 |n,x::l,c,c',e,h=>⟨h.1,tD (l:=l) e h.2⟩
theorem Lx.ok.bX{l:Lx}{d:Dk}(h:l.ok d):∀s∈l.bX,s.ok∧s.bs≠[]:=fun s hs=>⟨(h.gN s (List.mem_append_left _ hs)).1,h.ne s hs⟩
theorem Lx.ok.lt{l:Lx}{d:Dk}(h:l.ok d):a8 l≤l.ai.base∧∀s∈l.bX,s.base<l.ai.base:=AY h.link h.bX
theorem Lx.ok.ai{l:Lx}{d:Dk}(h:l.ok d):l.ai.ok∧l.ai.nm=nameOf l.pre l.ai.base.toNat∧(d.get l.ai.nm).isSome=true∧(d.file l.ai.nm).b=flat l.ai.bs:=h.gN l.ai l.cJ
theorem Lx.ok.kG{l:Lx}{d:Dk}(h:l.ok d){s:Sx}(hs:s∈l.bX):s.nm≠l.ai.nm:=fun e=>by
 obtain⟨h1,h2,_,_⟩:=h.gN s (List.mem_append_left _ hs)
 obtain⟨h3,h4,_,_⟩:=h.ai
 rw[h2,h4]at e
 have:=ci e
 have:=h.lt.2 s hs
 have:=h1.bC
 have:=h3.bC
 omega
theorem oh(l:Lx)(b:aQ)(sm aa ac ia ic):(l.grow b sm aa ac ia ic).next=b.en:=iR _ _ _
theorem EH(l:Lx)(b:aQ)(sm aa ac ia ic):(l.grow b sm aa ac ia ic).all=l.all++[b]:=by
 unfold Lx.all Lx.ar Lx.grow
 rw[List.flatMap_append,List.flatMap_append]
 simp
theorem ol(l:Lx)(b:aQ)(sm aa ac ia ic):a8 (l.grow b sm aa ac ia ic)=a8 l:=by
 unfold a8 Lx.ar Lx.grow
 cases l.bX<;>rfl
theorem Ic{l:Lx}{d:Dk}(h:l.ok d){b:aQ}(hb:b.aT)(hn:b.base=l.next)(yX:l.ai.bs.length<4096){sm:List Nat}{aa:Option Addr}{ac:Nat}{ia:Option Addr}{ic:Nat}(iJ:Ix sm (l.ai.bs.length+1))(qT:l.ai.bs.length+1≤ac):(l.grow b sm aa ac ia ic).ok (d.put l.ai.nm ⟨(d.file l.ai.nm).b++enc b,(d.file l.ai.nm).safe⟩):=by
 obtain⟨h1,h2,h3,h4⟩:=h.ai
 have cO:=hb.lt
 refine⟨h.pre,fun s hs=>?_,by rw[ol];exact rz (c:=l.ai) rfl h.link,h.ne,?_,?_,h.most,by have:=h.len;unfold Lx.ar at this⊢;rw[List.length_append]at this⊢;exact this⟩
 ·
  rcases List.mem_append.1 hs with hs|hs
  ·
   obtain⟨e1,e2,e3,e4⟩:=h.gN s (List.mem_append_left _ hs)
   obtain⟨f1,f2⟩:=Dk.aK d ⟨(d.file l.ai.nm).b++enc b,(d.file l.ai.nm).safe⟩ (h.kG hs)
   exact⟨e1,e2,by rw[f2];exact e3,by rw[f1];exact e4⟩
  ·
   rw[List.mem_singleton.1 hs]
   exact⟨h1.add hb hn yX iJ qT,h2,Dk.cB _ _ _,by show((d.put l.ai.nm _).file l.ai.nm).b=flat (l.ai.bs++[b]);rw[Dk.aV,BV,h4]⟩
 ·
  rw[ol,oh];have:=h.start;exact⟨this.1,this.2.1,by show l.start≤_;omega⟩
 ·
  rw[oh];have:=h.aJ;exact⟨this.1,by show l.aJ≤_;omega⟩
theorem om(l:Lx)(sb)(b:aQ)(sm aa ac ia ic qa qc):(l.roll sb b sm aa ac ia ic qa qc).next=b.en:=rfl
theorem EI(l:Lx)(sb)(b:aQ)(sm aa ac ia ic qa qc):(l.roll sb b sm aa ac ia ic qa qc).all=l.all++[b]:=by
 show(l.ar++[_]).flatMap (fun s:Sx=>s.bs)=_
 rw[List.flatMap_append];rfl
theorem oq(l:Lx)(sb)(b:aQ)(sm aa ac ia ic qa qc):a8 (l.roll sb b sm aa ac ia ic qa qc)=a8 l:=by
 unfold a8 Lx.ar Lx.roll Lx.ar
 cases l.bX<;>rfl
theorem Ie{l:Lx}{d:Dk}(h:l.ok d){b:aQ}(hb:b.aT)(hn:b.base=l.next)(rA:l.most≤((d.file l.ai.nm).b.length:Int))(hlen:l.ar.length<100000){sb:Nat}{sm:List Nat}{aa:Option Addr}{ac:Nat}{ia:Option Addr}{ic:Nat}{qa:Option Addr}{qc:Nat}(iJ:Ix sm 1)(qT:1≤ac){d1 d2 d3:Dk}{f1 f2 f3:Fl}
  (e1:d1=d.put l.ai.nm f1) (e2:d2=d1.put (nameOf l.pre l.next.toNat) f2) (e3:d3=d2.put (nameOf l.pre l.next.toNat) f3) (g1:f1.b=(d.file l.ai.nm).b) (g3:f3.b=enc b):(l.roll sb b sm aa ac ia ic qa qc).ok d3:=by
 obtain⟨h1,h2,h3,h4⟩:=h.ai
 have cO:=hb.lt
 have R3:=h.most
 have dx:l.ai.bs≠[]:=fun e=>by rw[h4,e]at rA;have:(flat ([]:List aQ)).length=0:=rfl;omega
 have MV:=gY h1 dx
 have lX:l.next=l.ai.next:=rfl
 have mi:=h1.bC
 have Kn:=h1.eC
 have Gj:((l.next.toNat:Nat):Int)=l.next:=by omega
 have key:∀s∈l.ar,s.nm≠nameOf l.pre l.next.toNat:=fun s hs e=>by
  obtain⟨k1,k2,_,_⟩:=h.gN s hs
  rw[k2]at e
  have:=ci e
  have:=k1.bC
  rcases List.mem_append.1 hs with hs|hs
  ·
   have:=h.lt.2 s hs;omega
  ·
   have MW:=List.mem_singleton.1 hs;subst MW;omega
 have eF:∀n,n≠nameOf l.pre l.next.toNat→d3.file n=d1.file n∧d3.get n=d1.get n:=fun n dx=>by
  obtain⟨a1,a2⟩:=Dk.aK d2 f3 dx
  obtain⟨b1,b2⟩:=Dk.aK d1 f2 dx
  rw[e3];exact⟨by rw[a1,e2,b1],by rw[a2,e2,b2]⟩
 refine⟨h.pre,fun s hs=>?_,?_,fun s hs=>?_,?_,?_,h.most,?_⟩
 ·
  rcases List.mem_append.1 hs with hs|hs
  ·
   obtain⟨k1,k2,k3,k4⟩:=h.gN s hs
   obtain⟨m1,m2⟩:=eF s.nm (key s hs)
   rcases List.mem_append.1 hs with hi|hi
   ·
    obtain⟨c1,c2⟩:=Dk.aK d f1 (h.kG hi)
    exact⟨k1,k2,by rw[m2,e1,c2];exact k3,by rw[m1,e1,c1];exact k4⟩
   ·
    have MW:=List.mem_singleton.1 hi
    subst MW
    exact⟨k1,k2,by rw[m2,e1];exact Dk.cB _ _ _,by rw[m1,e1,Dk.aV,g1];exact h4⟩
  ·
   rw[List.mem_singleton.1 hs]
   refine⟨⟨by show(0:Int)≤((l.next.toNat:Nat):Int);omega,by show((l.next.toNat:Nat):Int)≤1000000000;omega,⟨by show b.base=((l.next.toNat:Nat):Int);omega,trivial⟩,fun x hx=>by rw[List.mem_singleton.1 hx];exact hb,by show 1≤4096;omega,iJ,qT⟩,by show nameOf l.pre l.next.toNat=nameOf l.pre ((l.next.toNat:Nat):Int).toNat;rw[Int.toNat_natCast],?_,?_⟩
   ·
    show(d3.get (nameOf l.pre l.next.toNat)).isSome=true
    rw[e3];exact Dk.cB _ _ _
   ·
    show(d3.file (nameOf l.pre l.next.toNat)).b=flat [b]
    rw[e3,Dk.aV,g3];simp[flat]
 ·
  rw[oq]
  exact tD (l:=l.bX) (c:=l.ai) (by show((l.next.toNat:Nat):Int)=l.ai.next;omega) h.link
 ·
  rcases List.mem_append.1 hs with hs|hs
  ·
   exact h.ne s hs
  ·
   rw[List.mem_singleton.1 hs];exact dx
 ·
  rw[oq,om];have:=h.start;exact⟨this.1,this.2.1,by show l.start≤_;omega⟩
 ·
  rw[om];have:=h.aJ;exact⟨this.1,by show l.aJ≤_;omega⟩
 ·
  show(l.ar++[_]).length≤100000
  rw[List.length_append];show l.ar.length+1≤100000;omega
theorem rB:∀{n:Int} {l:List Sx},jd n l→(∀s∈l,s.ok)→bS n (l.flatMap fun s=>s.bs)
 |_,[],_,_=>trivial
 |n,s::r,h,ho=>by
  obtain⟨h1,h2⟩:=h
  subst h1
  rw[List.flatMap_cons]
  exact bS.app.2 ⟨(ho s (.head _)).chain,rB h2 fun x hx=>ho x (.tail _ hx)⟩
theorem Lx.ok.chain{l:Lx}{d:Dk}(h:l.ok d):bS (a8 l) l.all:=rB h.link fun s hs=>(h.gN s hs).1
theorem Lx.ok.aT{l:Lx}{d:Dk}(h:l.ok d):∀b∈l.all,b.aT:=fun b hb=>by
 obtain⟨s,hs,hb⟩:=List.mem_flatMap.1 hb
 exact(h.gN s hs).1.aT b hb
theorem ot:∀{n:Int} {l:List Sx} {c:Sx},jd n (l++[c])→aC n ((l++[c]).flatMap fun s=>s.bs)=c.next
 |n,[],c,h=>by
  have:=h.1
  subst this
  show aC c.base ([c].flatMap fun s=>s.bs)=aC c.base c.bs
  simp
 |n,x::l,c,h=>by
  have h1:x.base=n:=h.1
  subst h1
  show aC x.base ((x::(l++[c])).flatMap fun s=>s.bs)=c.next
  rw[List.flatMap_cons,jI]
  exact ot (n:=x.next) (l:=l) h.2
theorem Lx.ok.aC{l:Lx}{d:Dk}(h:l.ok d):Go.Proofs.YtoglbebcdjdkiaaGreatDoor.aC (a8 l) l.all=l.next:=ot h.link
theorem ahead{n:Int}{pre post:List aQ}{b:aQ}(h:bS n (pre++b::post))(hg:∀x∈pre,x.aT):∀x∈pre,x.en≤b.base:=fun x hx=>by
 obtain⟨h1,h2,_⟩:=bS.app.1 h
 obtain⟨i,hi⟩:=List.getElem?_of_mem hx
 have h3:=(h1.at hi).2
 have cO:=(List.getElem?_eq_some_iff.1 hi).1
 have h4:=h1.mono hg (i:=i+1) (j:=pre.length) (by omega)
 rw[List.take_length]at h4
 omega
theorem ou{off:Int}{l:List aQ}(h:∀x∈l,x.en≤off):bJ off l=[]:=List.filter_eq_nil_iff.2 fun x hx=>by have:=h x hx;simp;omega
theorem EJ{n off:Int}{l:List aQ}{b:aQ}(h:bS n l)(hg:∀x∈l,x.aT)(hb:b∈l)(ho:b.base=off):∃r,bJ off l=b::r:=by
 obtain⟨pre,post,rfl⟩:=List.append_of_mem hb
 have h1:=ahead h fun x hx=>hg x (List.mem_append_left _ hx)
 have h2:=(hg b hb).lt
 rw[eE,ou (fun x hx=>by have:=h1 x hx;omega),List.nil_append]
 refine⟨bJ off post,?_⟩
 unfold bJ
 rw[List.filter_cons,if_pos (decide_eq_true (by omega))]
theorem EK{e b o c:Nat}{x:Value}{cs:List Value}{h:Hp}(H:arr e 1 (some ⟨b,o,none⟩) (c+1) (x::cs) h):arr e 1 (some ⟨b,o+1,none⟩) c cs h:=by
 rcases H with⟨h1,_⟩|⟨b',pre,post,h1,h2,h3⟩
 ·
  cases h1
 ·
  cases h1
  refine .inr ⟨b,pre++[x],post,by rw[List.length_append];rfl,?_,?_⟩
  ·
   rw[List.length_cons]at h2;omega
  ·
   rw[List.append_assoc];exact h3
def Lx.less(l:Lx)(la:Option Addr):Lx:={l with bX:=l.bX.tail,la:=la,lc:=l.lc-1}
theorem dL{l:Lx}{x:Sx}{r:List Sx}(h:l.bX=x::r)(la):l.ar=x::(l.less la).ar:=by
 unfold Lx.ar Lx.less;rw[h];rfl
theorem EL{l:Lx}{x:Sx}{r:List Sx}(h:l.bX=x::r)(la):l.all=x.bs++(l.less la).all:=by
 unfold Lx.all;rw[dL h la,List.flatMap_cons]
theorem Cj{l:Lx}{d:Dk}(hl:l.ok d){x:Sx}{r:List Sx}(h:l.bX=x::r)(la):a8 (l.less la)=x.next:=by
 have h1:=hl.link
 rw[dL h la]at h1
 have h2:=h1.2
 unfold a8
 cases e:(l.less la).ar with
 |nil=>unfold Lx.ar at e;exact absurd e (by simp)
 |cons y t=>rw[e]at h2;exact h2.1
theorem Ig{l:Lx}{d:Dk}(hl:l.ok d){x:Sx}{r:List Sx}(h:l.bX=x::r){la:Option Addr}(hn:x.next≤l.start):(l.less la).ok (d.del x.nm):=by
 have h1:=hl.link
 have hb:=Cj hl h la
 rw[dL h la]at h1
 have jB:∀s∈(l.less la).ar,s∈l.ar:=fun s hs=>by rw[dL h la];exact .tail _ hs
 refine⟨hl.pre,fun s hs=>?_,by rw[hb];exact h1.2,fun s hs=>hl.ne s (by rw[h];exact .tail _ (by have:=hs;unfold Lx.less at this;rw[h]at this;exact this)),⟨hl.start.1,by rw[hb];exact hn,hl.start.2.2⟩,hl.aJ,hl.most,by have:=hl.len;rw[dL h la]at this;exact Nat.le_trans (Nat.le_succ _) this⟩
 obtain⟨e1,e2,e3,e4⟩:=hl.gN s (jB s hs)
 have w9:x∈l.ar:=by rw[dL h la];exact .head _
 obtain⟨f1,f2,_,_⟩:=hl.gN x w9
 have dx:s.nm≠x.nm:=fun e=>by
  rw[e2,f2]at e
  have e5:=ci e
  have MX:x∈l.bX:=by rw[h];exact .head _
  have h6:=gY f1 (hl.ne x MX)
  have h7:a8 (l.less la)≤s.base:=by
   have h8:jd (a8 (l.less la)) (l.less la).ar:=by rw[hb];exact h1.2
   have h9:∀s∈(l.less la).bX,s.ok∧s.bs≠[]:=fun t ht=>hl.bX t (by rw[h];exact .tail _ (by have:=ht;unfold Lx.less at this;rw[h]at this;exact this))
   have key:∀(q:List Sx) (n:Int),jd n (q++[l.ai])→(∀t∈q,t.ok∧t.bs≠[])→∀t∈q++[l.ai],n≤t.base:=by
    intro q
    induction q with
    |nil=>intro n hk _ t ht;rw[List.mem_singleton.1 ht];have:=hk.1;omega
    |cons y q ih=>
     intro n hk ho t ht
     rcases List.mem_cons.1 ht with rfl|ht
     ·
      have:=hk.1;omega
     ·
      have R4:=ih y.next hk.2 (fun z hz=>ho z (.tail _ hz)) t ht
      have J6:=gY (ho y (.head _)).1 (ho y (.head _)).2
      have:y.base=n:=hk.1
      omega
   exact key _ _ h8 h9 s hs
  have:=e1.bC
  have:=f1.bC
  omega
 obtain⟨m1,m2⟩:=Dk.cL d dx
 exact⟨e1,e2,by rw[m2];exact e3,by rw[m1];exact e4⟩
theorem EM{l:Lx}{d:Dk}(hl:l.ok d){f:Fl}{st hi:Int}(h0:0≤st)(h1:a8 l≤st)(h2:st≤hi)(h3:hi≤l.next):({l with start:=st,aJ:=hi}:Lx).ok (d.put (aP l.pre) f):=by
 refine⟨hl.pre,fun s hs=>?_,hl.link,hl.ne,⟨h0,h1,by show st≤l.next;omega⟩,⟨h2,h3⟩,hl.most,hl.len⟩
 obtain⟨e1,e2,e3,e4⟩:=hl.gN s hs
 have dx:s.nm≠aP l.pre:=by
  rw[e2];exact cM (by have:=e1.ed;have:=e1.bC;omega)
 obtain⟨m1,m2⟩:=Dk.aK d f dx
 exact⟨e1,e2,by rw[m2];exact e3,by rw[m1];exact e4⟩
theorem Ih{s:Sx}(h:s.ok):∀b∈s.bs,b.en≤s.next:=fun b hb=>by
 obtain⟨i,hi⟩:=List.getElem?_of_mem hb
 have cO:=(List.getElem?_eq_some_iff.1 hi).1
 have h1:=(h.chain.at hi).2
 have h2:=h.chain.mono h.aT (i:=i+1) (j:=s.bs.length) (by omega)
 rw[List.take_length]at h2
 show b.en≤aC s.base s.bs
 omega
theorem Ck{l:Lx}{d:Dk}(hl:l.ok d){x:Sx}{r:List Sx}(h:l.bX=x::r){la:Option Addr}{n:Int}(hn:x.next≤n):bJ n l.all=bJ n (l.less la).all:=by
 have hx:=(hl.gN x (by rw[dL h la];exact .head _)).1
 rw[EL h la,eE,ou (fun b hb=>by have:=Ih hx b hb;omega),List.nil_append]
def Lx.pop(l:Lx)(r:List Sx)(y:Sx):Lx:={l with bX:=r,ai:=y}
theorem jp{l:Lx}{r:List Sx}{y:Sx}(h:l.bX=r++[y]):l.ar=(l.pop r y).ar++[l.ai]:=by
 unfold Lx.ar Lx.pop;rw[h]
theorem Ii{l:Lx}{r:List Sx}{y:Sx}(h:l.bX=r++[y]):l.all=(l.pop r y).all++l.ai.bs:=by
 unfold Lx.all;rw[jp h,List.flatMap_append];simp
theorem rC:∀{n:Int} {l:List Sx} {c:Sx},jd n (l++[c])→jd n l
 |_,[],_,_=>trivial
 |_,_::l,_,h=>⟨h.1,rC (l:=l) h.2⟩
theorem xb:∀{n:Int} {l:List Sx} {y c:Sx},jd n ((l++[y])++[c])→c.base=y.next
 |_,[],_,_,h=>h.2.1
 |_,x::l,_,_,h=>xb (n:=x.next) (l:=l) h.2
theorem rD{l:Lx}{r:List Sx}{y:Sx}(h:l.bX=r++[y]):a8 (l.pop r y)=a8 l:=by
 unfold a8 Lx.ar Lx.pop;rw[h];cases r<;>rfl
theorem Ij{l:Lx}{d:Dk}(hl:l.ok d){r:List Sx}{y:Sx}(h:l.bX=r++[y]):l.ai.base=y.next:=by
 have:=hl.link
 unfold Lx.ar at this
 rw[h]at this
 exact xb this
theorem Ko{l:Lx}{d:Dk}(hl:l.ok d){r:List Sx}{y:Sx}(h:l.bX=r++[y])(hs:l.start≤y.next)(hh:l.aJ≤y.next):(l.pop r y).ok (d.del l.ai.nm):=by
 have EN:=hl.link
 rw[jp h]at EN
 have jB:∀s∈(l.pop r y).ar,s∈l.bX:=fun s hs=>by rw[h];exact hs
 refine⟨hl.pre,fun s hs=>?_,by rw[rD h];exact rC EN,fun s hs=>hl.ne s (jB s (List.mem_append_left _ hs)),⟨hl.start.1,by rw[rD h];exact hl.start.2.1,hs⟩,⟨hl.aJ.1,hh⟩,hl.most,?_⟩
 ·
  obtain⟨e1,e2,e3,e4⟩:=hl.gN s (List.mem_append_left _ (jB s hs))
  obtain⟨m1,m2⟩:=Dk.cL d (hl.kG (jB s hs))
  exact⟨e1,e2,by rw[m2];exact e3,by rw[m1];exact e4⟩
 ·
  have:=hl.len;rw[jp h,List.length_append]at this;omega
theorem xd{l:Lx}{d:Dk}(h:l.ok d){i:Nat}{s:Sx}(hs:l.ar[i]?=some s){b:aQ}(hb:b∈(l.ar.drop i).flatMap fun s=>s.bs):
  s.base≤b.base∧(b∈s.bs∨(b∈(l.ar.drop (i+1)).flatMap (fun s=>s.bs)∧∀x∈s.bs,x.en≤b.base)):=by
 have AZ:=(h.gN s (List.mem_of_getElem? hs)).1
 rw[tC hs]at hb
 by_cases hm:b∈s.bs
 ·
  obtain⟨j,hj⟩:=List.getElem?_of_mem hm
  have h1:=Sx.uL AZ hj
  have h2:=AZ.chain.mono AZ.aT (i:=0) (j:=j) (Nat.zero_le _)
  have h3:aC s.base (s.bs.take 0)=s.base:=rfl
  exact⟨by omega,.inl hm⟩
 ·
  have hc:=(List.mem_append.1 hb).resolve_left hm
  obtain⟨p,q,MY⟩:=List.append_of_mem hc
  have e:l.all=((l.ar.take i).flatMap (fun s=>s.bs)++(s.bs++p))++b::q:=by
   rw[List.append_assoc,List.append_assoc,←MY,←tC hs,←List.flatMap_append,List.take_append_drop];rfl
  have Ik:=h.chain
  have yo:=h.aT
  rw[e]at Ik yo
  have ha:=ahead Ik fun x hx=>yo x (List.mem_append_left _ hx)
  have hx:∀x∈s.bs,x.en≤b.base:=fun x hx=>ha x (List.mem_append_right _ (List.mem_append_left _ hx))
  have cO:i+1<l.ar.length:=by
   rcases Nat.lt_or_ge (i+1) l.ar.length with h1|h1
   ·
    exact h1
   ·
    rw[List.drop_eq_nil_of_le h1]at hc;cases hc
  have jB:s∈l.bX:=by
   have h1:l.ar[i]?=l.bX[i]?:=by
    unfold Lx.ar at cO⊢
    rw[List.length_append]at cO
    exact List.getElem?_append_left (by simp at cO;omega)
   rw[h1]at hs;exact List.mem_of_getElem? hs
  obtain⟨y,hy⟩:=List.exists_mem_of_ne_nil _ (h.ne s jB)
  have h1:=kZ AZ hy
  have h2:=hx y hy
  exact⟨by omega,.inr ⟨hc,hx⟩⟩
theorem ov{s:Sx}(h:s.ok){b:aQ}(hb:b∈s.bs)(hs:s.base≤b.base):gU s b.base 0=[b]:=by
 obtain⟨r,hr⟩:=EJ h.chain h.aT hb rfl
 unfold gU
 rw[if_neg (by omega),nV _ h.aT]
 show(bJ b.base s.bs).take 1=_
 rw[hr];rfl
theorem xe{s:Sx}(h:s.ok){off:Int}(hx:∀x∈s.bs,x.en≤off):gU s off 0=[]:=by
 unfold gU
 split
 ·
  rfl
 ·
  rw[nV _ h.aT]
  show(bJ off s.bs).take 1=_
  rw[ou hx];rfl
end Go.Proofs.YtoglbebcdjdkiaaGreatDoor
namespace Go.Proofs
open Go.Shelf
def Tryz.xf:Go.Shelf.Ren:=⟨fun|160=>64|232=>99|231=>98|227=>100|234=>102|233=>101|236=>104|235=>103|228=>144|271=>147|151=>146|197=>145|120=>181|152=>180|260=>179|137=>210|119=>211|224=>212|225=>213|217=>214|266=>229|n=>n,fun|9=>9|4=>4|3=>3|5=>5|117=>155|116=>154|0=>0|124=>158|21=>21|105=>198|46=>151|119=>246|139=>249|138=>248|n=>n,fun|3=>0|4=>1|n=>n⟩
theorem Tryz.Il:Go.Proofs.Lays.n160 Tryz.prog Tryz.xf:={
 mixed:=by kernel_rfl
 f119:=av Tryz.func211
 f120:=av Tryz.func181
 f137:=av Tryz.func210
 f151:=av Tryz.func146
 f152:=av Tryz.func180
 f160:=av Tryz.func64
 f197:=av Tryz.func145
 f217:=av Tryz.func214
 f224:=av Tryz.func212
 f225:=av Tryz.func213
 f227:=av Tryz.func100
 f228:=av Tryz.func144
 f231:=av Tryz.func98
 f232:=av Tryz.func99
 f233:=av Tryz.func101
 f234:=av Tryz.func102
 f235:=av Tryz.func103
 f236:=av Tryz.func104
 f260:=av Tryz.func179
 f266:=av Tryz.func229
 f271:=av Tryz.func147
 t0:=Tryz.underlying0
 a0:=Tryz.isAgg0
 z0:=Tryz.sizeOf0
 v0:=Tryz.zeroValue0
 t3:=Tryz.underlying3
 a3:=Tryz.isAgg3
 z3:=Tryz.sizeOf3
 v3:=Tryz.zeroValue3
 t4:=Tryz.underlying4
 a4:=Tryz.isAgg4
 z4:=Tryz.sizeOf4
 v4:=Tryz.zeroValue4
 t5:=Tryz.underlying5
 a5:=Tryz.isAgg5
 z5:=Tryz.sizeOf5
 v5:=Tryz.zeroValue5
 t9:=Tryz.underlying9
 a9:=Tryz.isAgg9
 z9:=Tryz.sizeOf9
 v9:=Tryz.zeroValue9
 t21:=Tryz.underlying21
 a21:=Tryz.isAgg21
 z21:=Tryz.sizeOf21
 v21:=Tryz.zeroValue21
 t46:=Tryz.underlying151
 a46:=Tryz.isAgg151
 z46:=Tryz.sizeOf151
 v46:=Tryz.zeroValue151
 t105:=Tryz.underlying198
 a105:=Tryz.isAgg198
 z105:=Tryz.sizeOf198
 v105:=Tryz.zeroValue198
 t116:=Tryz.underlying154
 a116:=Tryz.isAgg154
 z116:=Tryz.sizeOf154
 t117:=Tryz.underlying155
 a117:=Tryz.isAgg155
 z117:=Tryz.sizeOf155
 v117:=Tryz.zeroValue155
 t119:=Tryz.underlying246
 a119:=Tryz.isAgg246
 z119:=Tryz.sizeOf246
 t124:=Tryz.underlying158
 a124:=Tryz.isAgg158
 z124:=Tryz.sizeOf158
 v124:=Tryz.zeroValue158
 t138:=Tryz.underlying248
 a138:=Tryz.isAgg248
 z138:=Tryz.sizeOf248
 v138:=Tryz.zeroValue248
 t139:=Tryz.underlying249
 a139:=Tryz.isAgg249
 z139:=Tryz.sizeOf249
 v139:=Tryz.zeroValue249
 g3:=by kernel_rfl
 g4:=by kernel_rfl}
def Tryz.xg:Go.Shelf.Ren:=⟨fun|103=>108|210=>150|206=>184|n=>n,fun|9=>9|4=>4|24=>159|3=>3|n=>n,fun|n=>n⟩
theorem Tryz.Im:Go.Proofs.Lays.n103 Tryz.prog Tryz.xg:={
 mixed:=by kernel_rfl
 f103:=av Tryz.func108
 f206:=av Tryz.func184
 f210:=av Tryz.func150
 t3:=Tryz.underlying3
 a3:=Tryz.isAgg3
 z3:=Tryz.sizeOf3
 v3:=Tryz.zeroValue3
 t4:=Tryz.underlying4
 a4:=Tryz.isAgg4
 z4:=Tryz.sizeOf4
 v4:=Tryz.zeroValue4
 t9:=Tryz.underlying9
 a9:=Tryz.isAgg9
 z9:=Tryz.sizeOf9
 v9:=Tryz.zeroValue9
 t24:=Tryz.underlying159
 a24:=Tryz.isAgg159
 z24:=Tryz.sizeOf159
 v24:=Tryz.zeroValue159}
def Tryz.xh:Go.Shelf.Ren:=⟨fun|104=>105|211=>148|207=>182|n=>n,fun|9=>9|4=>4|24=>159|3=>3|n=>n,fun|n=>n⟩
theorem Tryz.Io:Go.Proofs.Lays.n104 Tryz.prog Tryz.xh:={
 mixed:=by kernel_rfl
 f104:=av Tryz.func105
 f207:=av Tryz.func182
 f211:=av Tryz.func148
 t3:=Tryz.underlying3
 a3:=Tryz.isAgg3
 z3:=Tryz.sizeOf3
 v3:=Tryz.zeroValue3
 t4:=Tryz.underlying4
 a4:=Tryz.isAgg4
 z4:=Tryz.sizeOf4
 v4:=Tryz.zeroValue4
 t9:=Tryz.underlying9
 a9:=Tryz.isAgg9
 z9:=Tryz.sizeOf9
 v9:=Tryz.zeroValue9
 t24:=Tryz.underlying159
 a24:=Tryz.isAgg159
 z24:=Tryz.sizeOf159
 v24:=Tryz.zeroValue159}
def Tryz.u9:Go.Shelf.Ren:=⟨fun|171=>111|243=>156|246=>190|283=>219|284=>220|285=>221|286=>222|129=>178|317=>233|318=>234|319=>235|320=>236|337=>238|338=>239|n=>n,fun|3=>3|9=>9|2=>2|4=>4|171=>257|0=>0|53=>192|37=>115|5=>5|173=>259|212=>273|51=>196|20=>20|213=>274|46=>151|232=>276|233=>277|n=>n,fun|17=>5|18=>6|19=>7|n=>n⟩
theorem Tryz.EO:Go.Proofs.LaysM.n171 Tryz.prog Tryz.u9:={
 mixed:=by kernel_rfl
 f129:=av Tryz.func178
 f171:=av Tryz.func111
 f243:=av Tryz.func156
 f246:=av Tryz.func190
 f283:=av Tryz.func219
 f284:=av Tryz.func220
 f285:=av Tryz.func221
 f286:=av Tryz.func222
 f317:=av Tryz.func233
 f318:=av Tryz.func234
 f319:=av Tryz.func235
 f320:=av Tryz.func236
 f337:=av Tryz.func238
 f338:=av Tryz.func239
 t0:=Tryz.underlying0
 a0:=Tryz.isAgg0
 z0:=Tryz.sizeOf0
 v0:=Tryz.zeroValue0
 t2:=Tryz.underlying2
 a2:=Tryz.isAgg2
 z2:=Tryz.sizeOf2
 v2:=Tryz.zeroValue2
 t3:=Tryz.underlying3
 a3:=Tryz.isAgg3
 z3:=Tryz.sizeOf3
 v3:=Tryz.zeroValue3
 t4:=Tryz.underlying4
 a4:=Tryz.isAgg4
 z4:=Tryz.sizeOf4
 v4:=Tryz.zeroValue4
 t5:=Tryz.underlying5
 a5:=Tryz.isAgg5
 z5:=Tryz.sizeOf5
 v5:=Tryz.zeroValue5
 t9:=Tryz.underlying9
 a9:=Tryz.isAgg9
 z9:=Tryz.sizeOf9
 v9:=Tryz.zeroValue9
 t20:=Tryz.underlying20
 a20:=Tryz.isAgg20
 z20:=Tryz.sizeOf20
 v20:=Tryz.zeroValue20
 t37:=Tryz.underlying115
 a37:=Tryz.isAgg115
 z37:=Tryz.sizeOf115
 v37:=Tryz.zeroValue115
 t46:=Tryz.underlying151
 a46:=Tryz.isAgg151
 z46:=Tryz.sizeOf151
 v46:=Tryz.zeroValue151
 t51:=Tryz.underlying196
 a51:=Tryz.isAgg196
 z51:=Tryz.sizeOf196
 v51:=Tryz.zeroValue196
 t53:=Tryz.underlying192
 a53:=Tryz.isAgg192
 z53:=Tryz.sizeOf192
 v53:=Tryz.zeroValue192
 t171:=Tryz.underlying257
 a171:=Tryz.isAgg257
 z171:=Tryz.sizeOf257
 v171:=Tryz.zeroValue257
 t173:=Tryz.underlying259
 a173:=Tryz.isAgg259
 z173:=Tryz.sizeOf259
 v173:=Tryz.zeroValue259
 t212:=Tryz.underlying273
 a212:=Tryz.isAgg273
 z212:=Tryz.sizeOf273
 v212:=Tryz.zeroValue273
 t213:=Tryz.underlying274
 a213:=Tryz.isAgg274
 z213:=Tryz.sizeOf274
 t232:=Tryz.underlying276
 a232:=Tryz.isAgg276
 z232:=Tryz.sizeOf276
 v232:=Tryz.zeroValue276
 t233:=Tryz.underlying277
 a233:=Tryz.isAgg277
 z233:=Tryz.sizeOf277
 v233:=Tryz.zeroValue277
 g17:=by kernel_rfl
 g18:=by kernel_rfl
 g19:=by kernel_rfl
 i0:=by kernel_rfl
 i2:=by kernel_rfl
 i3:=by kernel_rfl
 i4:=by kernel_rfl
 i5:=by kernel_rfl
 i9:=by kernel_rfl
 i20:=by kernel_rfl
 i37:=by kernel_rfl
 i46:=by kernel_rfl
 i51:=by kernel_rfl
 i53:=by kernel_rfl
 i171:=by kernel_rfl
 i173:=by kernel_rfl
 i212:=by kernel_rfl
 i232:=by kernel_rfl
 i233:=by kernel_rfl
 m17:=by kernel_rfl
 m18:=by kernel_rfl
 m19:=by kernel_rfl}
def Tryz.vb:Go.Shelf.Ren:=⟨fun|172=>109|244=>151|245=>152|247=>185|279=>186|280=>187|281=>188|282=>189|287=>216|316=>217|171=>111|205=>218|321=>231|322=>232|243=>156|246=>190|283=>219|284=>220|285=>221|286=>222|129=>178|317=>233|318=>234|319=>235|320=>236|337=>238|338=>239|n=>n,fun|9=>9|3=>3|75=>166|76=>167|4=>4|5=>5|167=>223|37=>115|0=>0|85=>224|2=>2|168=>226|53=>192|175=>252|46=>151|210=>255|127=>206|145=>271|143=>269|21=>21|171=>257|173=>259|212=>273|51=>196|20=>20|213=>274|232=>276|233=>277|80=>62|n=>n,fun|15=>3|16=>4|17=>5|18=>6|19=>7|n=>n⟩
theorem Tryz.EP:Go.Proofs.LaysC.n172 Tryz.prog Tryz.vb:={
 mixed:=by kernel_rfl
 f129:=av Tryz.func178
 f171:=av Tryz.func111
 f172:=av Tryz.func109
 f205:=av Tryz.func218
 f243:=av Tryz.func156
 f244:=av Tryz.func151
 f245:=av Tryz.func152
 f246:=av Tryz.func190
 f247:=av Tryz.func185
 f279:=av Tryz.func186
 f280:=av Tryz.func187
 f281:=av Tryz.func188
 f282:=av Tryz.func189
 f283:=av Tryz.func219
 f284:=av Tryz.func220
 f285:=av Tryz.func221
 f286:=av Tryz.func222
 f287:=av Tryz.func216
 f316:=av Tryz.func217
 f317:=av Tryz.func233
 f318:=av Tryz.func234
 f319:=av Tryz.func235
 f320:=av Tryz.func236
 f321:=av Tryz.func231
 f322:=av Tryz.func232
 f337:=av Tryz.func238
 f338:=av Tryz.func239
 t0:=Tryz.underlying0
 a0:=Tryz.isAgg0
 z0:=Tryz.sizeOf0
 v0:=Tryz.zeroValue0
 t2:=Tryz.underlying2
 a2:=Tryz.isAgg2
 z2:=Tryz.sizeOf2
 v2:=Tryz.zeroValue2
 t3:=Tryz.underlying3
 a3:=Tryz.isAgg3
 z3:=Tryz.sizeOf3
 v3:=Tryz.zeroValue3
 t4:=Tryz.underlying4
 a4:=Tryz.isAgg4
 z4:=Tryz.sizeOf4
 v4:=Tryz.zeroValue4
 t5:=Tryz.underlying5
 a5:=Tryz.isAgg5
 z5:=Tryz.sizeOf5
 v5:=Tryz.zeroValue5
 t9:=Tryz.underlying9
 a9:=Tryz.isAgg9
 z9:=Tryz.sizeOf9
 v9:=Tryz.zeroValue9
 t20:=Tryz.underlying20
 a20:=Tryz.isAgg20
 z20:=Tryz.sizeOf20
 v20:=Tryz.zeroValue20
 t21:=Tryz.underlying21
 a21:=Tryz.isAgg21
 z21:=Tryz.sizeOf21
 v21:=Tryz.zeroValue21
 t37:=Tryz.underlying115
 a37:=Tryz.isAgg115
 z37:=Tryz.sizeOf115
 v37:=Tryz.zeroValue115
 t46:=Tryz.underlying151
 a46:=Tryz.isAgg151
 z46:=Tryz.sizeOf151
 v46:=Tryz.zeroValue151
 t51:=Tryz.underlying196
 a51:=Tryz.isAgg196
 z51:=Tryz.sizeOf196
 v51:=Tryz.zeroValue196
 t53:=Tryz.underlying192
 a53:=Tryz.isAgg192
 z53:=Tryz.sizeOf192
 v53:=Tryz.zeroValue192
 t75:=Tryz.underlying166
 a75:=Tryz.isAgg166
 z75:=Tryz.sizeOf166
 v75:=Tryz.zeroValue166
 t76:=Tryz.underlying167
 a76:=Tryz.isAgg167
 z76:=Tryz.sizeOf167
 v76:=Tryz.zeroValue167
 t85:=Tryz.underlying224
 a85:=Tryz.isAgg224
 z85:=Tryz.sizeOf224
 v85:=Tryz.zeroValue224
 t127:=Tryz.underlying206
 a127:=Tryz.isAgg206
 z127:=Tryz.sizeOf206
 v127:=Tryz.zeroValue206
 t143:=Tryz.underlying269
 a143:=Tryz.isAgg269
 z143:=Tryz.sizeOf269
 v143:=Tryz.zeroValue269
 t145:=Tryz.underlying271
 a145:=Tryz.isAgg271
 z145:=Tryz.sizeOf271
 v145:=Tryz.zeroValue271
 t167:=Tryz.underlying223
 a167:=Tryz.isAgg223
 z167:=Tryz.sizeOf223
 v167:=Tryz.zeroValue223
 t168:=Tryz.underlying226
 a168:=Tryz.isAgg226
 z168:=Tryz.sizeOf226
 v168:=Tryz.zeroValue226
 t171:=Tryz.underlying257
 a171:=Tryz.isAgg257
 z171:=Tryz.sizeOf257
 v171:=Tryz.zeroValue257
 t173:=Tryz.underlying259
 a173:=Tryz.isAgg259
 z173:=Tryz.sizeOf259
 v173:=Tryz.zeroValue259
 t175:=Tryz.underlying252
 a175:=Tryz.isAgg252
 z175:=Tryz.sizeOf252
 v175:=Tryz.zeroValue252
 t210:=Tryz.underlying255
 a210:=Tryz.isAgg255
 z210:=Tryz.sizeOf255
 v210:=Tryz.zeroValue255
 t212:=Tryz.underlying273
 a212:=Tryz.isAgg273
 z212:=Tryz.sizeOf273
 v212:=Tryz.zeroValue273
 t213:=Tryz.underlying274
 a213:=Tryz.isAgg274
 z213:=Tryz.sizeOf274
 t232:=Tryz.underlying276
 a232:=Tryz.isAgg276
 z232:=Tryz.sizeOf276
 v232:=Tryz.zeroValue276
 t233:=Tryz.underlying277
 a233:=Tryz.isAgg277
 z233:=Tryz.sizeOf277
 v233:=Tryz.zeroValue277
 g15:=by kernel_rfl
 g16:=by kernel_rfl
 g17:=by kernel_rfl
 g18:=by kernel_rfl
 g19:=by kernel_rfl
 t80:=Tryz.underlying62
 a80:=Tryz.isAgg62
 z80:=Tryz.sizeOf62
 v80:=Tryz.zeroValue62
 i0:=by kernel_rfl
 i2:=by kernel_rfl
 i3:=by kernel_rfl
 i4:=by kernel_rfl
 i5:=by kernel_rfl
 i9:=by kernel_rfl
 i20:=by kernel_rfl
 i21:=by kernel_rfl
 i37:=by kernel_rfl
 i46:=by kernel_rfl
 i51:=by kernel_rfl
 i53:=by kernel_rfl
 i75:=by kernel_rfl
 i76:=by kernel_rfl
 i80:=by kernel_rfl
 i85:=by kernel_rfl
 i127:=by kernel_rfl
 i143:=by kernel_rfl
 i145:=by kernel_rfl
 i167:=by kernel_rfl
 i168:=by kernel_rfl
 i171:=by kernel_rfl
 i173:=by kernel_rfl
 i175:=by kernel_rfl
 i210:=by kernel_rfl
 i212:=by kernel_rfl
 i232:=by kernel_rfl
 i233:=by kernel_rfl
 m15:=by kernel_rfl
 m16:=by kernel_rfl
 m17:=by kernel_rfl
 m18:=by kernel_rfl
 m19:=by kernel_rfl
 c0:=by kernel_rfl
 c2:=by kernel_rfl
 c3:=by kernel_rfl
 c4:=by kernel_rfl
 c5:=by kernel_rfl
 c9:=by kernel_rfl
 c20:=by kernel_rfl
 c21:=by kernel_rfl
 c37:=by kernel_rfl
 c46:=by kernel_rfl
 c51:=by kernel_rfl
 c53:=by kernel_rfl
 c75:=by kernel_rfl
 c76:=by kernel_rfl
 c80:=by kernel_rfl
 c85:=by kernel_rfl
 c127:=by kernel_rfl
 c143:=by kernel_rfl
 c145:=by kernel_rfl
 c167:=by kernel_rfl
 c168:=by kernel_rfl
 c171:=by kernel_rfl
 c173:=by kernel_rfl
 c175:=by kernel_rfl
 c210:=by kernel_rfl
 c212:=by kernel_rfl
 c213:=by kernel_rfl
 c232:=by kernel_rfl
 c233:=by kernel_rfl}
def Tryz.xj:Go.Shelf.Ren:=⟨fun|145=>106|220=>149|219=>183|217=>214|225=>213|224=>212|267=>215|266=>229|314=>230|n=>n,fun|9=>9|4=>4|59=>161|3=>3|5=>5|46=>151|146=>230|51=>196|n=>n,fun|1=>2|n=>n⟩
theorem Tryz.Ip:Go.Proofs.Lays.n145 Tryz.prog Tryz.xj:={
 mixed:=by kernel_rfl
 f145:=av Tryz.func106
 f217:=av Tryz.func214
 f219:=av Tryz.func183
 f220:=av Tryz.func149
 f224:=av Tryz.func212
 f225:=av Tryz.func213
 f266:=av Tryz.func229
 f267:=av Tryz.func215
 f314:=av Tryz.func230
 t3:=Tryz.underlying3
 a3:=Tryz.isAgg3
 z3:=Tryz.sizeOf3
 v3:=Tryz.zeroValue3
 t4:=Tryz.underlying4
 a4:=Tryz.isAgg4
 z4:=Tryz.sizeOf4
 v4:=Tryz.zeroValue4
 t5:=Tryz.underlying5
 a5:=Tryz.isAgg5
 z5:=Tryz.sizeOf5
 v5:=Tryz.zeroValue5
 t9:=Tryz.underlying9
 a9:=Tryz.isAgg9
 z9:=Tryz.sizeOf9
 v9:=Tryz.zeroValue9
 t46:=Tryz.underlying151
 a46:=Tryz.isAgg151
 z46:=Tryz.sizeOf151
 v46:=Tryz.zeroValue151
 t51:=Tryz.underlying196
 a51:=Tryz.isAgg196
 z51:=Tryz.sizeOf196
 v51:=Tryz.zeroValue196
 t59:=Tryz.underlying161
 a59:=Tryz.isAgg161
 z59:=Tryz.sizeOf161
 v59:=Tryz.zeroValue161
 t146:=Tryz.underlying230
 a146:=Tryz.isAgg230
 z146:=Tryz.sizeOf230
 v146:=Tryz.zeroValue230
 g1:=by kernel_rfl}
def Tryz.iW:Go.Shelf.Ren:=⟨fun|105=>112|212=>157|99=>158|165=>159|166=>117|170=>160|169=>118|263=>191|264=>192|206=>184|240=>161|241=>193|276=>194|277=>223|n=>n,fun|9=>9|3=>3|4=>4|20=>20|0=>0|46=>151|109=>203|5=>5|72=>177|76=>167|51=>196|146=>230|53=>192|148=>232|70=>175|37=>115|75=>166|127=>206|164=>234|80=>62|n=>n,fun|n=>n⟩
theorem Tryz.ve:Go.Proofs.Lays.n105 Tryz.prog Tryz.iW:={
 mixed:=by kernel_rfl
 f99:=av Tryz.func158
 f105:=av Tryz.func112
 f165:=av Tryz.func159
 f166:=av Tryz.func117
 f169:=av Tryz.func118
 f170:=av Tryz.func160
 f206:=av Tryz.func184
 f212:=av Tryz.func157
 f240:=av Tryz.func161
 f241:=av Tryz.func193
 f263:=av Tryz.func191
 f264:=av Tryz.func192
 f276:=av Tryz.func194
 f277:=av Tryz.func223
 t0:=Tryz.underlying0
 a0:=Tryz.isAgg0
 z0:=Tryz.sizeOf0
 v0:=Tryz.zeroValue0
 t3:=Tryz.underlying3
 a3:=Tryz.isAgg3
 z3:=Tryz.sizeOf3
 v3:=Tryz.zeroValue3
 t4:=Tryz.underlying4
 a4:=Tryz.isAgg4
 z4:=Tryz.sizeOf4
 v4:=Tryz.zeroValue4
 t5:=Tryz.underlying5
 a5:=Tryz.isAgg5
 z5:=Tryz.sizeOf5
 v5:=Tryz.zeroValue5
 t9:=Tryz.underlying9
 a9:=Tryz.isAgg9
 z9:=Tryz.sizeOf9
 v9:=Tryz.zeroValue9
 t20:=Tryz.underlying20
 a20:=Tryz.isAgg20
 z20:=Tryz.sizeOf20
 v20:=Tryz.zeroValue20
 t37:=Tryz.underlying115
 a37:=Tryz.isAgg115
 z37:=Tryz.sizeOf115
 v37:=Tryz.zeroValue115
 t46:=Tryz.underlying151
 a46:=Tryz.isAgg151
 z46:=Tryz.sizeOf151
 v46:=Tryz.zeroValue151
 t51:=Tryz.underlying196
 a51:=Tryz.isAgg196
 z51:=Tryz.sizeOf196
 v51:=Tryz.zeroValue196
 t53:=Tryz.underlying192
 a53:=Tryz.isAgg192
 z53:=Tryz.sizeOf192
 v53:=Tryz.zeroValue192
 t70:=Tryz.underlying175
 a70:=Tryz.isAgg175
 z70:=Tryz.sizeOf175
 v70:=Tryz.zeroValue175
 t72:=Tryz.underlying177
 a72:=Tryz.isAgg177
 z72:=Tryz.sizeOf177
 v72:=Tryz.zeroValue177
 t75:=Tryz.underlying166
 a75:=Tryz.isAgg166
 z75:=Tryz.sizeOf166
 v75:=Tryz.zeroValue166
 t76:=Tryz.underlying167
 a76:=Tryz.isAgg167
 z76:=Tryz.sizeOf167
 v76:=Tryz.zeroValue167
 t109:=Tryz.underlying203
 a109:=Tryz.isAgg203
 z109:=Tryz.sizeOf203
 v109:=Tryz.zeroValue203
 t127:=Tryz.underlying206
 a127:=Tryz.isAgg206
 z127:=Tryz.sizeOf206
 v127:=Tryz.zeroValue206
 t146:=Tryz.underlying230
 a146:=Tryz.isAgg230
 z146:=Tryz.sizeOf230
 v146:=Tryz.zeroValue230
 t148:=Tryz.underlying232
 a148:=Tryz.isAgg232
 z148:=Tryz.sizeOf232
 v148:=Tryz.zeroValue232
 t164:=Tryz.underlying234
 a164:=Tryz.isAgg234
 z164:=Tryz.sizeOf234
 v164:=Tryz.zeroValue234}
theorem Tryz.fL:Builder.Extra Tryz.prog Tryz.iW:={
 sizeBuilder:=by kernel_rfl
 liesBuilder:=by kernel_rfl
 t5:=Tryz.underlying5
 a5:=Tryz.isAgg5
 z5:=Tryz.sizeOf5
 v5:=Tryz.zeroValue5
 infoByte:=by kernel_rfl
 cellsByte:=by kernel_rfl
 sizeByte:=by kernel_rfl
 neB5:=by decide}
end Go.Proofs
namespace Go.Proofs.YtoglbebcdjdkiaaGreatDoor
open Go Go.Sp Go.RowKit
abbrev A0:String:=(Go.Proofs.YtoglbebcdjdkiaaGreatDoor.Rows.storeOnceRow.laid.getD 2 ("",DataW.nil)).1
def LV(w:World):Prop:=(∃m,w.cell? ⟨2,0,none⟩=some (.int .i64 m))∧Lib.TabIs Tryz.prog w A0 .u64 Lib.pow10Tab
theorem oT(w:World)(k:Nat):Below w.heap.size w (w.drewN k):=⟨rfl,rfl,rfl,Nat.le_refl _,fun _ _=>rfl⟩
theorem zj{w:World}(k:Nat)(os:Array Obj):Below w.heap.size w (Go.Sort.grow (w.drewN k) os):=by
 have h:=oT w k
 refine⟨h.os,h.tape,h.output,Nat.le_trans h.size (by unfold Go.Sort.grow;simp),fun j hj=>?_⟩
 have hs:=h.size
 rw[←h.block j hj]
 unfold Go.Sort.grow
 rw[Array.getElem?_append_left (by omega)]
theorem Kp:j3 Tryz.prog 64:=⟨_,Tryz.func64,by kernel_rfl,rfl⟩
theorem Kq:j3 Tryz.prog 105:=⟨_,Tryz.func105,by kernel_rfl,rfl⟩
theorem Kr:j3 Tryz.prog 106:=⟨_,Tryz.func106,by kernel_rfl,rfl⟩
theorem Ks:j3 Tryz.prog 108:=⟨_,Tryz.func108,by kernel_rfl,rfl⟩
theorem Kt:j3 Tryz.prog 109:=⟨_,Tryz.func109,by kernel_rfl,rfl⟩
theorem Ku:j3 Tryz.prog 111:=⟨_,Tryz.func111,by kernel_rfl,rfl⟩
theorem Kv:j3 Tryz.prog 112:=⟨_,Tryz.func112,by kernel_rfl,rfl⟩
theorem nv(s cs:List UInt8)(hs:s.length≤9223372036854775807)(hc:cs.length<4294967281)(ha:cs.all (fun b=>decide (b.toNat<128))=true):Cn Tryz.prog 64 [.string (str s),.string (str cs)] (fun _=>True) [] fun v G=>v=.string (str (Lib.trimS s cs))∧G=[]:=
 Cn.calls (q:=fun v=>v=.string (str (Lib.trimS s cs))) Kp fun w _=>(Any.strings_Trim_laid Tryz.Il (by kernel_rfl) (str s) (str cs) w (by rw[cT];exact hs) (by rw[cT];exact hc) (ascii_of_all ha)).mono fun e w' ⟨he,hb⟩=>⟨_,he,rfl,hb⟩
theorem Iq(s p:List UInt8):Cn Tryz.prog 108 [.string (str s),.string (str p)] (fun _=>True) [] fun v G=>v=.tuple #[.string (str (Lib.trimPrefix s p)),.bool (Lib.hasPrefix s p)]∧G=[]:=
 Cn.calls (q:=fun v=>v=.tuple #[.string (str (Lib.trimPrefix s p)),.bool (Lib.hasPrefix s p)]) Ks fun w _=>(Any.strings_CutPrefix Tryz.Im (str s) (str p) w).mono fun e w' ⟨he,hw⟩=>⟨_,he,rfl,hw▸Below.refl _ _⟩
theorem A1(s p:List UInt8)(hs:s.length≤9223372036854775807):Cn Tryz.prog 105 [.string (str s),.string (str p)] (fun _=>True) [] fun v G=>v=.tuple #[.string (str (Lib.trimSuffix s p)),.bool (Lib.hasSuffix s p)]∧G=[]:=
 Cn.calls (q:=fun v=>v=.tuple #[.string (str (Lib.trimSuffix s p)),.bool (Lib.hasSuffix s p)]) Kq fun w _=>(Any.strings_CutSuffix Tryz.Io (str s) (str p) w (by rw[cT];exact hs)).mono fun e w' ⟨he,hw⟩=>⟨_,he,rfl,hw▸Below.refl _ _⟩
theorem Kw(s p:List UInt8)(hs:s.length<4294967281):Cn Tryz.prog 106 [.string (str s),.string (str p)] LV [] fun v G=>v=.tuple #[.string (str (Lib.cut s p).1),.string (str (Lib.cut s p).2.1),.bool (Lib.cut s p).2.2]∧G=[]:=
 Cn.calls (q:=fun v=>v=.tuple #[.string (str (Lib.cut s p).1),.string (str (Lib.cut s p).2.1),.bool (Lib.cut s p).2.2]) Kr fun w ⟨⟨m,hm⟩,_⟩=>(Any.strings_Cut Tryz.Ip (str s) (str p) m w (by rw[cT];exact hs) hm).mono fun e w' ⟨he,k,hw⟩=>⟨_,he,rfl,hw▸oT w k⟩
theorem Kx(s:List UInt8)(c:Nat)(hc:c≤1000)(hs:s.length≤1000):Cn Tryz.prog 112 [.string (str s),.int .i64 (c:Int)] (fun _=>True) [] fun v G=>v=.string (str (Lib.repeatL s c))∧G=[]:=
 Cn.calls (q:=fun v=>v=.string (str (Lib.repeatL s c))) Kv fun w _=>(Any.strings_Repeat Tryz.ve Tryz.fL (str s) c w (by omega) (by rw[cT];exact Nat.le_trans (Nat.mul_le_mul hs hc) (by decide))).mono fun e w' ⟨he,hb⟩=>⟨_,he,rfl,hb⟩
theorem vf(n:Nat)(h1:n≤9223372036854775807):Cn Tryz.prog 111 [.int .i64 (n:Int)] LV [] fun v G=>v=.string (str (Lib.decDigits n))∧G=[]:=
 Cn.calls (q:=fun v=>v=.string (str (Lib.decDigits n))) Ku fun w ⟨_,ht⟩=>(Any.strconv_Itoa Tryz.EO (n:Int) (by omega) (by omega) w ht).mono fun e w' ⟨he,k,os,hw⟩=>⟨_,he,by rw[Lib.itoa_nonneg];rfl,by rw[hw];exact zj k os⟩
theorem vg(l:List UInt8)(h0:l≠[])(hd:∀c∈l,digit c)(hl:l.length≤18):Cn Tryz.prog 109 [.string (str l)] (fun _=>True) [] fun v G=>v=.tuple #[.int .i64 (val 0 l:Int),.nilIface]∧G=[]:=
 Cn.calls (q:=fun v=>v=.tuple #[.int .i64 (val 0 l:Int),.nilIface]) Kt fun w _=>(Any.strconv_Atoi_ok Tryz.EP (str l) (by rw[cT];omega) _ (EF h0 hd hl) w).mono fun e w' ⟨he,hw⟩=>⟨_,he,rfl,by
  rcases hw with rfl|⟨t,rfl⟩
  ·
   exact Below.refl _ _
  ·
   exact Lib.bytesWorld_below _ _ _⟩
theorem rE:KL Tryz.prog 9 aW:=(KL.string Tryz.underlying9).Mg str AC
theorem Cl{d:Dk}(hd:d.ok)(db mb:Nat)(n:Nm)(f:Fl):an db [.int .i64 (d.size:Int),.int .i64 ((d.used:Int)+((f.b.length:Int)-((d.file n).b.length:Int))),.map (some mb)] 74=an db ((d.put n f).cells mb) 74:=by
 have:=Dk.cf hd n f
 have e:(d.used:Int)+((f.b.length:Int)-((d.file n).b.length:Int))=((d.put n f).used:Int):=by omega
 rw[e];rfl
theorem Cm{d:Dk}(hd:d.ok)(db mb:Nat)(n:Nm):an db ((d.put n pF).cells mb) 74=an db ((d.del n).cells mb) 74:=by
 have:=Dk.cf hd n pF
 have:=Dk.kv hd n
 have e:(d.put n pF).used=(d.del n).used:=by have:pF.b.length=0:=rfl;omega
 unfold Dk.cells;rw[e];rfl
theorem Ir(d:Dk)(n:Nm)(f:Fl):cQ (d.put n f).fs n=(d.del n).fs:=by
 unfold Dk.put Dk.del bT cQ
 dsimp only
 split
 ·
  rw[List.filter_map]
  have:∀l:Fs,List.map (fun p=>if n=p.1 then(p.1,f)else p) (l.filter (fun p=>!decide (n=p.1)))=l.filter (fun p=>!decide (n=p.1)):=fun l=>by
   refine(List.map_congr_left (g:=id) fun p hp=>?_).trans (List.map_id _)
   have:=(List.mem_filter.1 hp).2
   rw[if_neg (by simpa using this)];rfl
  have e:((fun p:Nm×Fl=>!decide (n=p.1))∘fun p:Nm×Fl=>if n=p.1 then(p.1,f)else p)=fun p=>!decide (n=p.1):=by
   funext p;simp only[Function.comp];split<;>rfl
  rw[e];exact this _
 ·
  rw[List.filter_append];simp
theorem A2(db mb:Nat)(d:Dk)(hd:d.ok):Cn Tryz.prog 138 [.pointer (some ⟨db,0,none⟩)] (fun _=>True) [an db (d.cells mb) 74] fun v G=>v=.int .i64 ((d.size:Int)-(d.used:Int))∧G=[an db (d.cells mb) 74]:=by
 refine .en Tryz.func138 fun R k=>?_
 have hu:=hd.used
 have hz:=hd.size
 refine .go fds 5 ?_
 refine .dr [3,7] [an db (d.cells mb) 74] ?_
 refine .aq fds [0] ?_
 refine .aq fds [1] ?_
 refine .aq fds [2] ?_
 refine .re 3 rfl (.ld ak rfl .p0 rfl) .q0 ?_
 refine .aq fds [4] ?_
 refine .aq fds [5] ?_
 refine .aq fds [6] ?_
 refine .re 7 rfl (.ld ak rfl .p0 rfl) .q0 ?_
 refine .rq 8 rfl (.sub rfl rfl (by omega) (by omega)) ?_
 refine .aq fds [9] ?_
 refine .dn ?_
 refine .aG Tryz.func138 (.t1 rfl) .cU ?_
 exact⟨[_],⟨rfl,rfl⟩,rfl⟩
theorem A3(db mb:Nat)(d:Dk)(n:Nm):Cn Tryz.prog 139 [.pointer (some ⟨db,0,none⟩),aW n] (fun _=>True) [an db (d.cells mb) 74,mp aW Fl.val mb d.fs] fun v G=>v=.int .i64 ((d.file n).b.length:Int)∧G=[an db (d.cells mb) 74,mp aW Fl.val mb d.fs]:=by
 refine .en Tryz.func139 fun R k=>?_
 refine .ax fds 9 ?_
 refine .rd (.ld eB rfl .p0 rfl) ?_
 refine .rd (.move rfl) ?_
 refine .rd (.lookup (q:=n) rE Tryz.underlying72 (fun w=>df.zero w) rfl rfl .p1) ?_
 refine .al 10 ((d.file n).val) rfl (DK d n) ?_
 refine .rd (.field Aq rfl rfl) ?_
 refine .rd (.ey rfl rfl Tryz.underlying9 rfl) ?_
 refine .aH fds 2 ?_
 refine .aG Tryz.func139 (.t1 rfl) .ez ?_
 exact⟨[_,_],⟨rfl,rfl⟩,rfl⟩
theorem jN(db mb:Nat)(d:Dk)(n:Nm):Cn Tryz.prog 35 [.pointer (some ⟨db,0,none⟩),aW n] (fun _=>True) [an db (d.cells mb) 74,mp aW Fl.val mb d.fs] fun v G=>v=.tuple #[.string (str (d.file n).b),.int .i64 (if(d.get n).isSome=true then 0 else 8)]∧G=[an db (d.cells mb) 74,mp aW Fl.val mb d.fs]:=by
 refine .en Tryz.func35 fun R k=>?_
 refine .ax fds 10 ?_
 refine .rd (.ld eB rfl .p0 rfl) ?_
 refine .rd (.move rfl) ?_
 refine .rd (.kq (q:=n) rE Tryz.underlying72 (fun w=>df.zero w) rfl rfl .p1) ?_
 refine .al 14 (.tuple #[(d.file n).val,.bool (d.get n).isSome]) rfl (DL d n) ?_
 refine .go fds 3 ?_
 refine .ef (.alloc df rfl (aB.of rfl)) ?_
 rintro _ _ ⟨b6,rfl,rfl⟩
 refine .dc (.storeAll iP rfl rfl (by rfl) .p0 rfl (aB.of rfl)) ?_
 rintro _ _ rfl
 refine .aH fds 8 ?_
 refine .cond rfl (fun c2=>?_) (fun c2=>?_)
 ·
  refine .go fds 5 ?_
  refine .aG Tryz.func35 (.t2 rfl rfl) .nP ?_
  exact⟨[_,_],⟨by rw[(Mw c2).1,(Mw c2).2];rfl,rfl⟩,rfl⟩
 ·
  refine .ax fds 4 ?_
  refine .rd (.ld aR rfl .p0 rfl) ?_
  refine .aH fds 3 ?_
  refine .aG Tryz.func35 (.t2 rfl rfl) .nP ?_
  exact⟨[_,_],⟨by rw[Mx c2];rfl,rfl⟩,rfl⟩
theorem ow(db mb:Nat)(d:Dk)(n:Nm)(f:Fl)(hd:d.ok)(hf:f.b.length≤16777216):Cn Tryz.prog 46 [.pointer (some ⟨db,0,none⟩),aW n,f.val] (fun _=>True) [an db (d.cells mb) 74,mp aW Fl.val mb d.fs] fun v G=>G=[an db ((d.put n f).cells mb) 74,mp aW Fl.val mb (d.put n f).fs]:=by
 refine .en Tryz.func46 fun R k=>?_
 have hu:=hd.used
 have hz:=hd.size
 have ym:=Dk.jE (d:=d) n
 refine .ax fds 2 ?_
 refine .ef (.box (l:=[.string (str f.b),.int .i64 (f.safe:Int)]) rfl rfl (aB.of rfl)) ?_
 rintro _ _ ⟨b5,rfl,rfl⟩
 refine .aH fds 2 ?_
 refine .dr [3,5,10,12] [an db (d.cells mb) 74,mp aW Fl.val mb d.fs,an b5 [.string (str f.b),.int .i64 (f.safe:Int)] 104] ?_
 refine .aq fds [0] ?_
 refine .aq fds [1] ?_
 refine .aq fds [2] ?_
 refine .re 3 rfl (.ld ak rfl .p0 rfl) .lj ?_
 refine .aq fds [4] ?_
 refine .re 5 rfl (.ld aR rfl .p2 rfl) .lj ?_
 refine .rq 6 rfl (.ey rfl rfl Tryz.underlying9 rfl) ?_
 refine .aq fds [7] ?_
 refine .aq fds [8] ?_
 refine .aq fds [9] ?_
 refine .re 10 rfl (.ld eB rfl .p0 rfl) .lj ?_
 refine .aq fds [11] ?_
 refine .re 12 rfl (.lookup (q:=n) rE Tryz.underlying72 (fun w=>df.zero w) rfl rfl .p1) .lj ?_
 refine .al 18 ((d.file n).val) rfl (DK d n) ?_
 refine .rq 13 rfl (.field Aq rfl rfl) ?_
 refine .rq 14 rfl (.ey rfl rfl Tryz.underlying9 rfl) ?_
 refine .rq 15 rfl (.sub rfl rfl (by omega) (by omega)) ?_
 refine .rq 16 rfl (.add rfl rfl (by omega) (by omega)) ?_
 refine .aq fds [17] ?_
 refine .aq fds [18] ?_
 refine .eh 19 rfl (.store cc rfl rfl .p1 rfl aU) ?_
 rintro _ _ rfl
 refine ay ?_
 refine .dn ?_
 refine .ca (an db ((d.put n f).cells mb) 74) (Cl hd db mb n f) ?_
 refine .dr [3,5] [an db ((d.put n f).cells mb) 74,an b5 [.string (str f.b),.int .i64 (f.safe:Int)] 104] ?_
 refine .aq fds [0] ?_
 refine .aq fds [1] ?_
 refine .aq fds [2] ?_
 refine .re 3 rfl (.ld eB rfl .p0 rfl) .cU ?_
 refine .aq fds [4] ?_
 refine .re 5 rfl (.j4 GV iP rfl .p1 rfl) .cU ?_
 refine .eh 6 rfl (.mapUpdate (u:=f) rE Tryz.underlying72 rfl rfl rfl .p2) ?_
 rintro _ _ rfl
 refine ay ?_
 refine .dn ?_
 refine .sD Tryz.func46 .nil (.cons .p1 (.cons .p0 (.cons .p1 .nil))) ?_
 exact⟨[_,_],rfl,rfl⟩
theorem pV(db mb:Nat)(d:Dk)(n:Nm)(hd:d.ok)(hx:(d.get n).isSome=true):Cn Tryz.prog 92 [.pointer (some ⟨db,0,none⟩),aW n] (fun _=>True) [an db (d.cells mb) 74,mp aW Fl.val mb d.fs] fun v G=>v=.int .i64 0∧G=[an db ((d.put n ⟨(d.file n).b,(d.file n).b.length⟩).cells mb) 74,mp aW Fl.val mb (d.put n ⟨(d.file n).b,(d.file n).b.length⟩).fs]:=by
 refine .en Tryz.func92 fun R k=>?_
 have hu:=hd.used
 have hz:=hd.size
 have ym:=Dk.jE (d:=d) n
 refine .ax fds 9 ?_
 refine .rd (.ld eB rfl .p0 rfl) ?_
 refine .rd (.move rfl) ?_
 refine .rd (.kq (q:=n) rE Tryz.underlying72 (fun w=>df.zero w) rfl rfl .p1) ?_
 refine .al 13 (.tuple #[(d.file n).val,.bool (d.get n).isSome]) rfl (DL d n) ?_
 refine .go fds 3 ?_
 refine .ef (.alloc df rfl (aB.of rfl)) ?_
 rintro _ _ ⟨b5,rfl,rfl⟩
 refine .dc (.storeAll iP rfl rfl (by rfl) .p0 rfl (aB.of rfl)) ?_
 rintro _ _ rfl
 refine .aH fds 2 ?_
 refine .ca (an b5 [.string (str (d.file n).b),.int .i64 ((d.file n).safe:Int)] 104) (rfl) ?_
 refine .ax fds 4 ?_
 refine .al 16 (.bool true) rfl (congrArg Value.bool hx) ?_
 refine .ax fds 9 ?_
 refine .rd (.ld aR rfl .p0 rfl) ?_
 refine .rd (.fieldAddr GU rfl) ?_
 refine .rd (.ld aR rfl .p0 rfl) ?_
 refine .rd (.ey rfl rfl Tryz.underlying9 rfl) ?_
 refine .rd (.build rfl (mP _ _)) ?_
 refine .fn rfl rfl .px ah (ow db mb d n ⟨(d.file n).b,(d.file n).b.length⟩ hd (by show(d.file n).b.length≤_;omega)) (fun v G1 hq=>?_)
 obtain rfl:=hq
 simp only[ag,ae]
 refine .aH fds 5 ?_
 refine .aG Tryz.func92 (.t1 rfl) .GN ?_
 exact⟨[_,_],⟨rfl,rfl⟩,rfl⟩
theorem vh(db mb:Nat)(d:Dk)(n:Nm)(z:Nat)(hd:d.ok)(hx:(d.get n).isSome=true)(hk:z≤(d.file n).b.length):Cn Tryz.prog 134 [.pointer (some ⟨db,0,none⟩),aW n,.int .i64 (z:Int)] (fun _=>True) [an db (d.cells mb) 74,mp aW Fl.val mb d.fs] fun v G=>v=.int .i64 0∧G=[an db ((d.put n ⟨(d.file n).b.take z,min (d.file n).safe z⟩).cells mb) 74,mp aW Fl.val mb (d.put n ⟨(d.file n).b.take z,min (d.file n).safe z⟩).fs]:=by
 refine .en Tryz.func134 fun R k=>?_
 have hu:=hd.used
 have hz:=hd.size
 have ym:=Dk.jE (d:=d) n
 have Lz:=Dk.AD hd (Dk.get_some.1 hx)
 refine .ax fds 9 ?_
 refine .rd (.ld eB rfl .p0 rfl) ?_
 refine .rd (.move rfl) ?_
 refine .rd (.kq (q:=n) rE Tryz.underlying72 (fun w=>df.zero w) rfl rfl .p1) ?_
 refine .al 15 (.tuple #[(d.file n).val,.bool (d.get n).isSome]) rfl (DL d n) ?_
 refine .go fds 3 ?_
 refine .ef (.alloc df rfl (aB.of rfl)) ?_
 rintro _ _ ⟨b7,rfl,rfl⟩
 refine .dc (.storeAll iP rfl rfl (by rfl) .p0 rfl (aB.of rfl)) ?_
 rintro _ _ rfl
 refine .aH fds 2 ?_
 refine .ca (an b7 [.string (str (d.file n).b),.int .i64 ((d.file n).safe:Int)] 104) (rfl) ?_
 refine .ax fds 4 ?_
 refine .al 18 (.bool true) rfl (congrArg Value.bool hx) ?_
 refine .ax fds 9 ?_
 refine .al 21 (.bool false) rfl (aE (by omega)) ?_
 refine .go fds 3 ?_
 refine .on (t:=22) rfl rfl ?_
 refine .rd (.ld aR rfl .p0 rfl) ?_
 refine .on (t:=22) rfl rfl ?_
 refine .rd (.ey rfl rfl Tryz.underlying9 rfl) ?_
 refine .go fds 1 ?_
 refine .al 27 (.bool false) rfl (aE (by omega)) ?_
 refine .aH fds 5 ?_
 refine .dr [3,7] [an db (d.cells mb) 74,mp aW Fl.val mb d.fs,an b7 [.string (str (d.file n).b),.int .i64 ((d.file n).safe:Int)] 104] ?_
 refine .aq fds [0] ?_
 refine .aq fds [1] ?_
 refine .aq fds [2] ?_
 refine .re 3 rfl (.ld aR rfl .p2 rfl) .lj ?_
 refine .aq fds [4] ?_
 refine .rq 5 rfl (.cH (l:=(d.file n).b) (a:=0) (h:=z) Tryz.underlying9 rfl rfl ⟨_,rfl⟩ (by omega) (by omega)) ?_
 refine .aq fds [6] ?_
 refine .re 7 rfl (.ld ak rfl .p2 rfl) .lj ?_
 refine .aq fds [8] ?_
 refine .rq 9 rfl (.min2 rfl rfl rfl) ?_
 refine .al 38 (.int .i64 (((min (d.file n).safe z:Nat):Int))) rfl (congrArg (Value.int .i64) (by omega)) ?_
 refine .rq 10 rfl (.build rfl (mP _ _)) ?_
 refine .al 39 ((Fl.val ⟨(d.file n).b.take z,min (d.file n).safe z⟩)) rfl (by simp[Fl.val]) ?_
 refine .eg 11 rfl (.fn rfl rfl .px ah (ow db mb d n ⟨(d.file n).b.take z,min (d.file n).safe z⟩ hd (by rw[List.length_take];omega))) ?_
 rintro v _ ⟨G1,hq,rfl⟩
 obtain rfl:=hq
 simp only[ag,ae]
 refine ay ?_
 refine .dn ?_
 refine .go fds 4 ?_
 refine .aG Tryz.func134 (.t1 rfl) .GN ?_
 exact⟨[_,_],⟨rfl,rfl⟩,rfl⟩
theorem oy(db mb:Nat)(d:Dk)(n:Nm)(hd:d.ok)(hx:(d.get n).isSome=true):Cn Tryz.prog 68 [.pointer (some ⟨db,0,none⟩),aW n] (fun _=>True) [an db (d.cells mb) 74,mp aW Fl.val mb d.fs] fun v G=>v=.int .i64 0∧G=[an db ((d.del n).cells mb) 74,mp aW Fl.val mb (d.del n).fs]:=by
 refine .en Tryz.func68 fun R k=>?_
 have hu:=hd.used
 have hz:=hd.size
 refine .ax fds 10 ?_
 refine .rd (.ld eB rfl .p0 rfl) ?_
 refine .rd (.move rfl) ?_
 refine .rd (.kq (q:=n) rE Tryz.underlying72 (fun w=>df.zero w) rfl rfl .p1) ?_
 refine .al 13 (.tuple #[(d.file n).val,.bool (d.get n).isSome]) rfl (DL d n) ?_
 refine .go fds 3 ?_
 refine .ef (.alloc df rfl (aB.of rfl)) ?_
 rintro _ _ ⟨b5,rfl,rfl⟩
 refine .dc (.storeAll iP rfl rfl (by rfl) .p0 rfl (aB.of rfl)) ?_
 rintro _ _ rfl
 refine .aH fds 2 ?_
 refine .ca (an b5 [.string (str (d.file n).b),.int .i64 ((d.file n).safe:Int)] 104) (rfl) ?_
 refine .ax fds 3 ?_
 refine .al 16 (.bool true) rfl (congrArg Value.bool hx) ?_
 refine .ax fds 8 ?_
 refine .rd (.build rfl (GW)) ?_
 refine .fn rfl rfl .px ah (ow db mb d n pF hd (by decide)) (fun v G1 hq=>?_)
 obtain rfl:=hq
 simp only[ag,ae]
 refine .ax fds 6 ?_
 refine .rd (.ld eB rfl .p0 rfl) ?_
 refine .rd (.move rfl) ?_
 refine .dc (.BI rE rfl rfl Tryz.underlying72 rfl rfl .p1) ?_
 rintro _ _ rfl
 refine .ca (mp aW Fl.val mb (d.del n).fs) (congrArg _ (Ir d n pF)) ?_
 refine .aH fds 2 ?_
 refine .perm .qy ?_
 refine .ca (an db ((d.del n).cells mb) 74) (Cm hd db mb n) ?_
 refine .go fds 3 ?_
 refine .aG Tryz.func68 (.t1 rfl) .GN ?_
 exact⟨[_,_],⟨rfl,rfl⟩,rfl⟩
theorem EQ(z:Nat)(h1:1≤z)(h2:z≤16777216):Cn Tryz.prog 8 [.int .i64 (z:Int)] (fun _=>True) [] fun v G=>∃db mb,v=.tuple #[.pointer (some ⟨db,0,none⟩),.int .i64 0]∧G=[an db ((Dk.mk z []).cells mb) 74,mp aW Fl.val mb (Dk.mk z []).fs]:=by
 refine .en Tryz.func8 fun R k=>?_
 refine .ax fds 10 ?_
 refine .al 5 (.bool false) rfl (aE (by omega)) ?_
 refine .go fds 3 ?_
 refine .al 8 (.bool false) rfl (aE (by omega)) ?_
 refine .ax fds 7 ?_
 refine .ef (.makeMap (κ:=Nm) (ν:=Fl) (enc:=aW) (bQ:=Fl.val)) ?_
 rintro _ _ ⟨mb,rfl,rfl⟩
 refine .rd (.build rfl (GX _ _)) ?_
 refine .ef (.box (l:=[.int .i64 (z:Int),.int .i64 0,.map (some mb)]) rfl rfl (aB.of rfl)) ?_
 rintro _ _ ⟨db,rfl,rfl⟩
 refine .aH fds 3 ?_
 refine .aG Tryz.func8 (.t2 rfl rfl) .ez ?_
 exact⟨[_,_],⟨_,_,rfl,rfl⟩,rfl⟩
def MZ:List UInt8:=yn++[46]
theorem zk{n:Nm}(h:eS n):Lib.trimS n MZ=[]:=jk.2 fun c hc=>by
 rcases h.2.2 c hc with h|h
 ·
  exact List.mem_append_left _ h
 ·
  exact List.mem_append_right _ (List.mem_singleton.2 h)
theorem ER(n:Nm)(h:eS n):Cn Tryz.prog 167 [aW n] (fun _=>True) [] fun v G=>v=.bool true∧G=[]:=by
 refine .en Tryz.func167 fun R k=>?_
 have hn:=h.2.1
 refine .ax fds 7 ?_
 refine .rd (.Ds (m:=[]) rfl rfl) ?_
 refine .al 4 (.bool true) rfl (congrArg Value.bool (by rw[decide_eq_false h.1];rfl)) ?_
 refine .go fds 2 ?_
 refine .on (t:=5) rfl rfl ?_
 refine .rd (.ey rfl rfl Tryz.underlying9 rfl) ?_
 refine .go fds 1 ?_
 refine .al 8 (.bool true) rfl (bR (by omega)) ?_
 refine .go fds 3 ?_
 refine .on (t:=10) rfl rfl ?_
 refine .fn rfl rfl .nil ah (nv n MZ (by omega) (by decide) (by decide)) (fun v G1 hq=>?_)
 obtain⟨rfl,rfl⟩:=hq
 simp only[ae]
 refine .on (t:=10) rfl rfl ?_
 refine .rd (.NN (m:=[]) rfl rfl) ?_
 refine .al 13 (.bool true) rfl (bR (zk h)) ?_
 refine .aH fds 3 ?_
 refine .aG Tryz.func167 (.t1 rfl) .q0 ?_
 exact⟨[],⟨rfl,rfl⟩,rfl⟩
theorem A4(db mb:Nat)(d:Dk)(n:Nm)(h:eS n)(hr:(d.get n).isSome=true∨d.fs.length<256):Cn Tryz.prog 137 [.pointer (some ⟨db,0,none⟩),aW n] (fun _=>True) [an db (d.cells mb) 74,mp aW Fl.val mb d.fs] fun v G=>v=.int .i64 0∧G=[an db (d.cells mb) 74,mp aW Fl.val mb d.fs]:=by
 refine .en Tryz.func137 fun R k=>?_
 refine .ax fds 8 ?_
 refine .fn rfl rfl .nil ah (ER n h) (fun v G1 hq=>?_)
 obtain⟨rfl,rfl⟩:=hq
 simp only[ae]
 refine .ax fds 10 ?_
 refine .rd (.ld eB rfl .p0 rfl) ?_
 refine .rd (.move rfl) ?_
 refine .rd (.kq (q:=n) rE Tryz.underlying72 (fun w=>df.zero w) rfl rfl .p1) ?_
 refine .al 16 (.tuple #[(d.file n).val,.bool (d.get n).isSome]) rfl (DL d n) ?_
 refine .go fds 3 ?_
 refine .ef (.alloc df rfl (aB.of rfl)) ?_
 rintro _ _ ⟨b5,rfl,rfl⟩
 refine .dc (.storeAll iP rfl rfl (by rfl) .p0 rfl (aB.of rfl)) ?_
 rintro _ _ rfl
 refine .ax fds 7 ?_
 refine .split (t:=21) rfl (fun hz=>?_) (fun hz=>?_)
 ·
  refine .go fds 3 ?_
  refine .on (t:=21) rfl rfl ?_
  refine .rd (.ld eB rfl .p1 rfl) ?_
  refine .on (t:=21) rfl rfl ?_
  refine .rd (.Mc rfl rfl Tryz.underlying72 rfl .p2) ?_
  refine .go fds 1 ?_
  refine .al 27 (.bool false) rfl (aE (by rcases hr with hr|hr;exact absurd hr (by simpa using hz);omega)) ?_
  refine .aH fds 8 ?_
  refine .aG Tryz.func137 (.t1 rfl) .nP ?_
  exact⟨[_,_],⟨rfl,rfl⟩,rfl⟩
 ·
  refine .aH fds 14 ?_
  refine .aG Tryz.func137 (.t1 rfl) .nP ?_
  exact⟨[_,_],⟨rfl,rfl⟩,rfl⟩
theorem tE(db mb:Nat)(d:Dk)(n:Nm)(t:List UInt8)(hd:d.ok)(h:eS n)(hr:(d.get n).isSome=true∨d.fs.length<256)(hl:d.used+t.length≤d.size):Cn Tryz.prog 153 [.pointer (some ⟨db,0,none⟩),aW n,.string (str t)] (fun _=>True) [an db (d.cells mb) 74,mp aW Fl.val mb d.fs] fun v G=>v=.int .i64 0∧G=[an db ((d.put n ⟨(d.file n).b++t,(d.file n).safe⟩).cells mb) 74,mp aW Fl.val mb (d.put n ⟨(d.file n).b++t,(d.file n).safe⟩).fs]:=by
 refine .en Tryz.func153 fun R k=>?_
 have hu:=hd.used
 have hz:=hd.size
 have ym:=Dk.jE (d:=d) n
 refine .ax fds 9 ?_
 refine .fn rfl rfl .cU ah (A4 db mb d n h hr) (fun v G1 hq=>?_)
 obtain⟨rfl,rfl⟩:=hq
 simp only[ag,ae]
 refine .ax fds 6 ?_
 refine .al 14 (.bool false) rfl (congrArg Value.bool (by rfl)) ?_
 refine .ax fds 8 ?_
 refine .rd (.ld eB rfl .p0 rfl) ?_
 refine .rd (.move rfl) ?_
 refine .rd (.lookup (q:=n) rE Tryz.underlying72 (fun w=>df.zero w) rfl rfl .p1) ?_
 refine .al 21 ((d.file n).val) rfl (DK d n) ?_
 refine .ef (.alloc df rfl (aB.of rfl)) ?_
 rintro _ _ ⟨b8,rfl,rfl⟩
 refine .dc (.storeAll iP rfl rfl (by rfl) .p0 rfl (aB.of rfl)) ?_
 rintro _ _ rfl
 refine .nil ?_
 refine .ca (an b8 [.string (str (d.file n).b),.int .i64 ((d.file n).safe:Int)] 104) (rfl) ?_
 refine .ax fds 3 ?_
 refine .rd (.ey rfl rfl Tryz.underlying9 rfl) ?_
 refine .rd (.move rfl) ?_
 refine .fn rfl rfl .q1 ah (A2 db mb d hd) (fun v G1 hq=>?_)
 obtain⟨rfl,rfl⟩:=hq
 simp only[ag,ae]
 refine .rd (.min2 rfl rfl rfl) ?_
 refine .al 26 (.int .i64 (t.length:Int)) rfl (congrArg (Value.int .i64) (by omega)) ?_
 refine .aH fds 3 ?_
 refine .dr [3,9] [an b8 [.string (str (d.file n).b),.int .i64 ((d.file n).safe:Int)] 104] ?_
 refine .aq fds [0] ?_
 refine .aq fds [1] ?_
 refine .aq fds [2] ?_
 refine .re 3 rfl (.ld aR rfl .p0 rfl) .q1 ?_
 refine .aq fds [4] ?_
 refine .aq fds [5] ?_
 refine .rq 6 rfl (.cH (l:=t) (a:=0) (h:=t.length) Tryz.underlying9 rfl rfl ⟨_,rfl⟩ (by omega) (by omega)) ?_
 refine .al 33 (.string (str t)) rfl (by simp) ?_
 refine .rq 7 rfl (.dZ rfl rfl (by omega)) ?_
 refine .aq fds [8] ?_
 refine .re 9 rfl (.ld ak rfl .p0 rfl) .q1 ?_
 refine .rq 10 rfl (.build rfl (mP _ _)) ?_
 refine .al 37 ((Fl.val ⟨(d.file n).b++t,(d.file n).safe⟩)) rfl (by simp[Fl.val]) ?_
 refine .eg 11 rfl (.fn rfl rfl .sI ah (ow db mb d n ⟨(d.file n).b++t,(d.file n).safe⟩ hd (by show((d.file n).b++t).length≤_;rw[List.length_append];omega))) ?_
 rintro v _ ⟨G1,hq,rfl⟩
 obtain rfl:=hq
 simp only[ag,ae]
 refine ay ?_
 refine .dn ?_
 refine .ax fds 5 ?_
 refine .rd (.ey rfl rfl Tryz.underlying9 rfl) ?_
 refine .rd (.lt rfl rfl) ?_
 refine .al 42 (.bool false) rfl (aE (by omega)) ?_
 refine .aH fds 7 ?_
 refine .aG Tryz.func153 (.t1 rfl) .GN ?_
 exact⟨[_,_],⟨rfl,rfl⟩,rfl⟩
theorem lZ(db mb:Nat)(d:Dk)(n:Nm)(t:List UInt8)(hd:d.ok)(h:eS n)(hr:(d.get n).isSome=true∨d.fs.length<256)(hl:d.used+t.length≤d.size+(d.file n).b.length):Cn Tryz.prog 88 [.pointer (some ⟨db,0,none⟩),aW n,.string (str t)] (fun _=>True) [an db (d.cells mb) 74,mp aW Fl.val mb d.fs] fun v G=>v=.int .i64 0∧G=[an db ((d.put n ⟨t,t.length⟩).cells mb) 74,mp aW Fl.val mb (d.put n ⟨t,t.length⟩).fs]:=by
 refine .en Tryz.func88 fun R k=>?_
 have hu:=hd.used
 have hz:=hd.size
 have ym:=Dk.jE (d:=d) n
 refine .ax fds 9 ?_
 refine .fn rfl rfl .cU ah (A4 db mb d n h hr) (fun v G1 hq=>?_)
 obtain⟨rfl,rfl⟩:=hq
 simp only[ag,ae]
 refine .ax fds 6 ?_
 refine .al 12 (.bool false) rfl (congrArg Value.bool (by rfl)) ?_
 refine .ax fds 7 ?_
 refine .rd (.ey rfl rfl Tryz.underlying9 rfl) ?_
 refine .rd (.move rfl) ?_
 refine .fn rfl rfl .q0 ah (A2 db mb d hd) (fun v G1 hq=>?_)
 obtain⟨rfl,rfl⟩:=hq
 simp only[ag,ae]
 refine .go fds 2 ?_
 refine .fn rfl rfl .cU ah (A3 db mb d n) (fun v G1 hq=>?_)
 obtain⟨rfl,rfl⟩:=hq
 simp only[ag,ae]
 refine .rd (.add rfl rfl (by omega) (by omega)) ?_
 refine .rd (.gt rfl rfl) ?_
 refine .al 22 (.bool false) rfl (aE (by omega)) ?_
 refine .ax fds 9 ?_
 refine .rd (.ey rfl rfl Tryz.underlying9 rfl) ?_
 refine .rd (.build rfl (mP _ _)) ?_
 refine .fn rfl rfl .cU ah (ow db mb d n ⟨t,t.length⟩ hd (by show t.length≤_;omega)) (fun v G1 hq=>?_)
 obtain rfl:=hq
 simp only[ag,ae]
 refine .aH fds 5 ?_
 refine .aG Tryz.func88 (.t1 rfl) .ez ?_
 exact⟨[_,_],⟨rfl,rfl⟩,rfl⟩
theorem Is{i j:Nat}(h:i+j≤1000000000000):(Value.int .i64 (IntKind.i64.wrap (((i+j:Nat):Int).fdiv (2^(min 1 IntKind.u64.bits)))))=.int .i64 (((i+j)/2:Nat):Int):=by
 have e:(2:Int)^(min 1 IntKind.u64.bits)=2:=rfl
 rw[e,Int.fdiv_eq_ediv_of_nonneg _ (by omega),wrap_i64 (by omega) (by omega)];rfl
theorem oz(n:Nat)(hn:n≤100000000)(p:Nat→Bool)(hm:∀a b,a≤b→b<n→p a=true→p b=true)(φ:World→Prop)(f:FuncId)(cap:Array Value)(hf:∀i<n,Cn Tryz.prog f (.int .i64 (i:Nat)::cap.toList) φ [] fun v G=>v=.bool (p i)∧G=[]):Cn Tryz.prog 83 [.int .i64 (n:Nat),.func (.func f) #[] cap] φ [] fun v G=>∃z≤n,(∀q<z,p q=false)∧(∀q,z≤q→q<n→p q=true)∧v=.int .i64 (z:Nat)∧G=[]:=by
 refine .en Tryz.func83 fun R k=>?_
 refine .go fds 12 ?_
 refine .loop (σ:=Nat×Nat) (fun⟨i,j⟩=>i≤j∧j≤n∧(∀q<i,p q=false)∧∀q,j≤q→q<n→p q=true) (fun⟨i,j⟩=>j-i) (fun⟨i,j⟩=>[(1,.func (.func f) #[] cap),(5,.int .i64 (i:Nat)),(6,.int .i64 (j:Nat))]) (fun⟨i,j⟩=>[R]) (0,n) ⟨Nat.zero_le _,Nat.le_refl _,fun q h=>absurd h (Nat.not_lt_zero q),fun q h1 h2=>absurd h1 (by omega)⟩ .r3 .q0 (fun s' hI ih=>?_)
 obtain⟨i,j⟩:=s'
 dsimp only at hI ih⊢
 obtain⟨qo,hj,ha,hb⟩:=hI
 refine .go fds 7 ?_
 refine .aM rfl (fun c2=>?_) (fun c2=>?_)
 ·
  refine .ax fds 6 ?_
  refine .rd (.add rfl rfl (by omega) (by omega)) ?_
  refine .rd (.bA Tryz.underlying3 Tryz.underlying151 rfl) ?_
  refine .al 15 (.int .u64 ((i+j:Nat):Int)) rfl (congrArg (Value.int .u64) (by rw[←wrap_u64 (n:=i+j) (by omega)];congr 1)) ?_
  refine .rd (.shr rfl rfl) ?_
  refine .rd (.bA Tryz.underlying151 Tryz.underlying3 rfl) ?_
  refine .al 17 (.int .i64 (((i+j)/2:Nat):Int)) rfl (Is (by omega)) ?_
  refine .ax fds 6 ?_
  have cO:(i+j)/2<n:=by omega
  refine .sR rfl rfl .nil (af.pick .p0 k) (hf ((i+j)/2) cO) (fun v G1 hq=>?_)
  obtain⟨rfl,rfl⟩:=hq
  simp only[ae]
  refine .aH fds 2 ?_
  refine .cond rfl (fun c4=>?_) (fun c4=>?_)
  ·
   refine .ax fds 2 ?_
   refine .rd (.add rfl rfl (by omega) (by omega)) ?_
   refine .aH fds 3 ?_
   exact(ih ((i+j)/2+1,j) ⟨by omega,hj,fun q hq=>by cases e:p q with|false=>rfl|true=>exact absurd (hm q _ (by omega) cO e) (by simpa using c4),hb⟩ (by show j-((i+j)/2+1)<j-i;omega)).to .r3 .q0
  ·
   refine .go fds 5 ?_
   exact(ih (i,(i+j)/2) ⟨by omega,by omega,ha,fun q h1 h2=>hm _ q h1 h2 (by simpa using c4)⟩ (by show(i+j)/2-i<j-i;omega)).to .r3 .q0
 ·
  refine .go fds 6 ?_
  obtain rfl:i=j:=by omega
  refine .aG Tryz.func83 (.t1 rfl) .q0 ?_
  exact⟨[],⟨i,hj,ha,hb,rfl,rfl⟩,rfl⟩
theorem k6(db:Nat)(s:Sx):Cn Tryz.prog 48 [.pointer (some ⟨s.b,0,none⟩)] (iS db s) [] fun v G=>v=.int .i64 s.base∧G=[]:=by
 refine .en Tryz.func48 fun R k=>?_
 refine .ax fds 9 ?_
 refine .rd (.load ak rfl (af.one (i:=2) (af.pick .p0 (k.mono fun _ h=>h.1)) rfl)) ?_
 refine .aH fds 2 ?_
 refine .aG Tryz.func48 (.t1 rfl) .q0 ?_
 exact⟨[],⟨rfl,rfl⟩,rfl⟩
theorem bZ(db:Nat)(s:Sx)(hs:s.ok):Cn Tryz.prog 22 [.pointer (some ⟨s.b,0,none⟩)] (iS db s) [] fun v G=>v=.int .i64 s.next∧G=[]:=by
 refine .en Tryz.func22 fun R k=>?_
 have hl:=hs.len
 refine .ax fds 10 ?_
 refine .rd (.load dz rfl (af.one (i:=3) (af.pick .p0 (k.mono fun _ h=>h.1)) rfl)) ?_
 refine .rd (.bP rfl rfl Tryz.underlying108 rfl) ?_
 refine .aH fds 7 ?_
 refine .aM rfl (fun c2=>?_) (fun c2=>?_)
 ·
  refine .seq ?_
  obtain⟨b,hb,jT⟩:=Sx.last (s:=s) (by omega)
  refine .tell (φ:=∃b o,s.aa=some ⟨b,o,none⟩) (af.pick .p0 (k.mono fun _ h=>aD.addr h.2.1 (by rw[Sx.eP];omega))) (fun hh=>?_)
  obtain⟨b9,o9,h9⟩:=hh
  refine .ax fds 4 ?_
  refine .rd (.load dz rfl (af.one (i:=3) (af.pick .p0 (k.mono fun _ h=>h.1)) rfl)) ?_
  refine .rd (.move rfl) ?_
  refine .rd (.sub rfl rfl (by omega) (by omega)) ?_
  refine .al 16 (.int .i64 ((s.bs.length-1:Nat))) rfl (congrArg (Value.int .i64) (by omega)) ?_
  refine .rd (.indexAddr (b:=b9) (o:=o9) Tryz.underlying108 eU (by show some (Value.slice (s.aa) _ _)=_;rw[h9]) rfl (by omega) (by omega)) ?_
  refine .rd (.fieldAddr GY rfl) ?_
  refine .rd (.load ak rfl (af.one (i:=1) (af.elem (f:=One.cells) One.bU (by decide) (af.pick .p0 (k.mono fun _ h=>h9▸h.2.1)) (nU hb)) rfl)) ?_
  refine .aH fds 2 ?_
  refine .aG Tryz.func22 (.t1 rfl) .q0 ?_
  exact⟨[],⟨by rw[←jT];rfl,rfl⟩,rfl⟩
 ·
  refine .ax fds 6 ?_
  refine .rd (.load ak rfl (af.one (i:=2) (af.pick .p0 (k.mono fun _ h=>h.1)) rfl)) ?_
  refine .aH fds 2 ?_
  refine .aG Tryz.func22 (.t1 rfl) .q0 ?_
  exact⟨[],⟨by rw[Sx.s6 (by omega)];rfl,rfl⟩,rfl⟩
theorem vi(b:aQ)(a:Option Addr)(c:Nat)(h0:0≤b.base)(h1:b.base≤1000000000000)(hl:b.aS.length≤140737488351232):Cn Tryz.prog 154 [.agg (b.cells a c).toArray] (fun _=>True) [] fun v G=>v=.int .i64 b.en∧G=[]:=by
 refine .en Tryz.func154 fun R k=>?_
 refine .ax fds 2 ?_
 refine .ef (.box (l:=b.cells a c) rfl rfl (aB.of rfl)) ?_
 rintro _ _ ⟨b1,rfl,rfl⟩
 refine .ax fds 5 ?_
 refine .rd (.ld ak rfl .p0 rfl) ?_
 refine .rd (.fieldAddr qB rfl) ?_
 refine .rd (.ld gG rfl .p0 rfl) ?_
 refine .rd (.bP rfl rfl Tryz.underlying39 rfl) ?_
 refine .rd (.add rfl rfl (by omega) (by omega)) ?_
 refine .aH fds 2 ?_
 refine .aG Tryz.func154 (.t1 rfl) .q1 ?_
 exact⟨[],⟨rfl,rfl⟩,rfl⟩
theorem nw(db mb:Nat)(d:Dk)(s:Sx):Cn Tryz.prog 125 [.pointer (some ⟨s.b,0,none⟩)] (iS db s) [an db (d.cells mb) 74,mp aW Fl.val mb d.fs] fun v G=>v=.int .i64 ((d.file s.nm).b.length:Int)∧G=[an db (d.cells mb) 74,mp aW Fl.val mb d.fs]:=by
 refine .en Tryz.func125 fun R k=>?_
 refine .go fds 5 ?_
 refine .dr [3,7] [R] ?_
 refine .aq fds [0] ?_
 refine .aq fds [1] ?_
 refine .aq fds [2] ?_
 refine .re 3 rfl (.load dh rfl (af.one (i:=0) (af.pick .p0 (k.mono fun _ h=>h.1)) rfl)) .q2 ?_
 refine .aq fds [4] ?_
 refine .aq fds [5] ?_
 refine .aq fds [6] ?_
 refine .re 7 rfl (.load aR rfl (af.one (i:=1) (af.pick .p0 (k.mono fun _ h=>h.1)) rfl)) .q2 ?_
 refine .eg 8 rfl (.fn rfl rfl .cU ah (A3 db mb d s.nm)) ?_
 rintro v _ ⟨G1,hq,rfl⟩
 obtain⟨rfl,rfl⟩:=hq
 simp only[ag,ae]
 refine ay ?_
 refine .aq fds [9] ?_
 refine .dn ?_
 refine .aG Tryz.func125 (.t1 rfl) .ez ?_
 exact⟨[_,_],⟨rfl,rfl⟩,rfl⟩
theorem rF(db mb:Nat)(d:Dk)(s:Sx)(hd:d.ok)(hx:(d.get s.nm).isSome=true):Cn Tryz.prog 57 [.pointer (some ⟨s.b,0,none⟩)] (iS db s) [an db (d.cells mb) 74,mp aW Fl.val mb d.fs] fun v G=>v=.int .i64 0∧G=[an db ((d.put s.nm ⟨(d.file s.nm).b,(d.file s.nm).b.length⟩).cells mb) 74,mp aW Fl.val mb (d.put s.nm ⟨(d.file s.nm).b,(d.file s.nm).b.length⟩).fs]:=by
 refine .en Tryz.func57 fun R k=>?_
 refine .go fds 5 ?_
 refine .dr [3,7] [R] ?_
 refine .aq fds [0] ?_
 refine .aq fds [1] ?_
 refine .aq fds [2] ?_
 refine .re 3 rfl (.load dh rfl (af.one (i:=0) (af.pick .p0 (k.mono fun _ h=>h.1)) rfl)) .q2 ?_
 refine .aq fds [4] ?_
 refine .aq fds [5] ?_
 refine .aq fds [6] ?_
 refine .re 7 rfl (.load aR rfl (af.one (i:=1) (af.pick .p0 (k.mono fun _ h=>h.1)) rfl)) .q2 ?_
 refine .eg 8 rfl (.fn rfl rfl .cU ah (pV db mb d s.nm hd hx)) ?_
 rintro v _ ⟨G1,hq,rfl⟩
 obtain⟨rfl,rfl⟩:=hq
 simp only[ag,ae]
 refine ay ?_
 refine .aq fds [9] ?_
 refine .dn ?_
 refine .aG Tryz.func57 (.t1 rfl) .ez ?_
 exact⟨[_,_],⟨rfl,rfl⟩,rfl⟩
theorem It(db bx tF i:Nat)(s:Sx)(z:Int)(b:aQ)(hs:s.ok)(hb:s.bs[i]?=some b):Cn Tryz.prog 133 [.int .i64 (i:Nat),.pointer (some ⟨bx,0,none⟩),.pointer (some ⟨tF,0,none⟩)] (fun w=>aL bx 0 [.pointer (some ⟨s.b,0,none⟩)] w∧aL tF 0 [.int .i64 z] w∧iS db s w) [] fun v G=>v=.bool (decide (z<b.en))∧G=[]:=by
 refine .en Tryz.func133 fun R k=>?_
 have hl:=hs.len
 have hi:=(List.getElem?_eq_some_iff.1 hb).1
 refine .tell (φ:=∃b o,s.aa=some ⟨b,o,none⟩) (af.pick .p0 (k.mono fun _ h=>aD.addr h.2.2.2.1 (by rw[Sx.eP];omega))) (fun hh=>?_)
 obtain⟨b9,o9,h9⟩:=hh
 refine .go fds 5 ?_
 refine .dr [0,3,7,8] [R] ?_
 refine .re 0 rfl (.load aN rfl (af.one (i:=0) (af.pick .p0 (k.mono fun _ h=>h.1)) rfl)) .q0 ?_
 refine .aq fds [1] ?_
 refine .aq fds [2] ?_
 refine .re 3 rfl (.load dz rfl (af.one (i:=3) (af.pick .p0 (k.mono fun _ h=>h.2.2.1)) rfl)) .q0 ?_
 refine .aq fds [4] ?_
 refine .rq 5 rfl (.indexAddr (b:=b9) (o:=o9) Tryz.underlying108 eU (by show some (Value.slice (s.aa) _ _)=_;rw[h9]) rfl (by omega) (by omega)) ?_
 refine .aq fds [6] ?_
 refine .re 7 rfl (.load ak rfl (af.one (i:=1) (af.elem (f:=One.cells) One.bU (by decide) (af.pick .p0 (k.mono fun _ h=>h9▸h.2.2.2.1)) (nU hb)) rfl)) .q0 ?_
 refine .re 8 rfl (.load ak rfl (af.one (i:=0) (af.pick .p0 (k.mono fun _ h=>h.2.1)) rfl)) .q0 ?_
 refine .aq fds [9] ?_
 refine .aq fds [10] ?_
 refine .dn ?_
 refine .aG Tryz.func133 (.t1 rfl) .q0 ?_
 exact⟨[],⟨rfl,rfl⟩,rfl⟩
theorem ES(db bx tF i j:Nat)(s:Sx)(z:Int)(b:aQ)(hs:s.ok)(hn:s.sm.length≤4096)(hj:s.sm[i]?=some j)(hb:s.bs[j]?=some b):Cn Tryz.prog 84 [.int .i64 (i:Nat),.pointer (some ⟨bx,0,none⟩),.pointer (some ⟨tF,0,none⟩)] (fun w=>aL bx 0 [.pointer (some ⟨s.b,0,none⟩)] w∧aL tF 0 [.int .i64 z] w∧iS db s w) [] fun v G=>v=.bool (decide (z<b.base))∧G=[]:=by
 refine .en Tryz.func84 fun R k=>?_
 have hl:=hs.len
 have hi:=(List.getElem?_eq_some_iff.1 hj).1
 have Qf:=(List.getElem?_eq_some_iff.1 hb).1
 refine .tell (φ:=∃b o,s.aa=some ⟨b,o,none⟩) (af.pick .p0 (k.mono fun _ h=>aD.addr h.2.2.2.1 (by rw[Sx.eP];omega))) (fun hh=>?_)
 obtain⟨b9,o9,h9⟩:=hh
 refine .tell (φ:=∃b o,s.ia=some ⟨b,o,none⟩) (af.pick .p0 (k.mono fun _ h=>aD.addr h.2.2.2.2 (by rw[Sx.pL];omega))) (fun hh=>?_)
 obtain⟨b8,o8,h8⟩:=hh
 refine .go fds 5 ?_
 refine .dr [0,3,4,7,10,13,14] [R] ?_
 refine .re 0 rfl (.load aN rfl (af.one (i:=0) (af.pick .p0 (k.mono fun _ h=>h.1)) rfl)) .q0 ?_
 refine .aq fds [1] ?_
 refine .aq fds [2] ?_
 refine .re 3 rfl (.load dz rfl (af.one (i:=3) (af.pick .p0 (k.mono fun _ h=>h.2.2.1)) rfl)) .q0 ?_
 refine .re 4 rfl (.load aN rfl (af.one (i:=0) (af.pick .p0 (k.mono fun _ h=>h.1)) rfl)) .q0 ?_
 refine .aq fds [5] ?_
 refine .aq fds [6] ?_
 refine .re 7 rfl (.load iQ rfl (af.one (i:=4) (af.pick .p0 (k.mono fun _ h=>h.2.2.1)) rfl)) .q0 ?_
 refine .aq fds [8] ?_
 refine .rq 9 rfl (.indexAddr (b:=b8) (o:=o8) Tryz.underlying31 cc (by show some (Value.slice (s.ia) _ _)=_;rw[h8]) rfl (by omega) (by omega)) ?_
 refine .re 10 rfl (.load ak rfl (af.one (i:=0) (af.elem (f:=fI) dR (by decide) (af.pick .p0 (k.mono fun _ h=>h8▸h.2.2.2.2)) (hj)) rfl)) .q0 ?_
 refine .rq 11 rfl (.indexAddr (b:=b9) (o:=o9) Tryz.underlying108 eU (by show some (Value.slice (s.aa) _ _)=_;rw[h9]) rfl (by omega) (by omega)) ?_
 refine .aq fds [12] ?_
 refine .re 13 rfl (.load ak rfl (af.one (i:=0) (af.elem (f:=One.cells) One.bU (by decide) (af.pick .p0 (k.mono fun _ h=>h9▸h.2.2.2.1)) (nU hb)) rfl)) .q0 ?_
 refine .re 14 rfl (.load ak rfl (af.one (i:=0) (af.pick .p0 (k.mono fun _ h=>h.2.1)) rfl)) .q0 ?_
 refine .aq fds [15] ?_
 refine .aq fds [16] ?_
 refine .dn ?_
 refine .aG Tryz.func84 (.t1 rfl) .q0 ?_
 exact⟨[],⟨rfl,rfl⟩,rfl⟩
theorem Iu(bx i z:Nat)(hz:z≤100000):Cn Tryz.prog 136 [.int .i64 (i:Nat),.pointer (some ⟨bx,0,none⟩)] (aL bx 0 [.int .i64 (z:Int)]) [] fun v G=>v=.bool (decide ((z:Int)≤(i:Int)))∧G=[]:=by
 refine .en Tryz.func136 fun R k=>?_
 refine .ax fds 7 ?_
 refine .rd (.load ak rfl (af.one (i:=0) (af.pick .p0 (k.mono fun _ h=>h)) rfl)) ?_
 refine .aH fds 3 ?_
 refine .aG Tryz.func136 (.t1 rfl) .q0 ?_
 exact⟨[],⟨rfl,rfl⟩,rfl⟩
theorem kH(lb db:Nat)(p:Option Addr)(pre:Nm)(most start aJ:Int)(la:Option Addr)(n lc:Nat):Cn Tryz.prog 21 [.pointer (some ⟨lb,0,none⟩)] (aL lb 0 (a6 p db pre most start aJ la n lc)) [] fun v G=>v=.int .i64 start∧G=[]:=by
 refine .en Tryz.func21 fun R k=>?_
 refine .ax fds 9 ?_
 refine .rd (.load ak rfl (af.one (i:=4) (af.pick .p0 (k.mono fun _ h=>h)) rfl)) ?_
 refine .aH fds 2 ?_
 refine .aG Tryz.func21 (.t1 rfl) .q0 ?_
 exact⟨[],⟨rfl,rfl⟩,rfl⟩
theorem vj(b:aQ)(a:Option Addr)(c:Nat)(h0:0≤b.base)(h1:b.base≤1000000000000)(hl:b.aS.length≤140737488351232):Cn Tryz.prog 49 [.agg (b.cells a c).toArray] (fun _=>True) [] fun v G=>v=.int .i64 b.en∧G=[]:=by
 refine .en Tryz.func49 fun R k=>?_
 refine .ax fds 2 ?_
 refine .ef (.box (l:=b.cells a c) rfl rfl (aB.of rfl)) ?_
 rintro _ _ ⟨b1,rfl,rfl⟩
 refine .ax fds 5 ?_
 refine .rd (.ld ak rfl .p0 rfl) ?_
 refine .rd (.fieldAddr qB rfl) ?_
 refine .rd (.ld gG rfl .p0 rfl) ?_
 refine .rd (.bP rfl rfl Tryz.underlying39 rfl) ?_
 refine .rd (.add rfl rfl (by omega) (by omega)) ?_
 refine .aH fds 2 ?_
 refine .aG Tryz.func49 (.t1 rfl) .q1 ?_
 exact⟨[],⟨rfl,rfl⟩,rfl⟩
theorem pW(lb db:Nat)(p:Option Addr)(pre:Nm)(most start aJ:Int)(la:Option Addr)(n lc:Nat)(z:Nat)(hz:z≤1000000000)(hp:pre.length≤40):Cn Tryz.prog 69 [.pointer (some ⟨lb,0,none⟩),.int .i64 (z:Int)] (fun w=>aL lb 0 (a6 p db pre most start aJ la n lc) w∧LV w) [] fun v G=>v=aW (nameOf pre z)∧G=[]:=by
 refine .en Tryz.func69 fun R k=>?_
 have hd:=gX (u:=z) (by omega)
 have OW:=Lib.repeatL_length [48] (10-(Lib.decDigits z).length)
 simp only[List.length_cons,List.length_nil]at OW
 refine .ax fds 7 ?_
 refine .fn rfl rfl .nil ((af.pick .p0 (k.mono fun _ h=>h.2))) (vf z (by omega)) (fun v G1 hq=>?_)
 obtain⟨rfl,rfl⟩:=hq
 simp only[ae]
 refine .aH fds 3 ?_
 refine .dr [3] [R] ?_
 refine .aq fds [0] ?_
 refine .aq fds [1] ?_
 refine .aq fds [2] ?_
 refine .re 3 rfl (.load aR rfl (af.one (i:=2) (af.pick .p0 (k.mono fun _ h=>h.1)) rfl)) .q0 ?_
 refine .rq 4 rfl (.dZ (l:=pre) (m:=[45]) rfl rfl (by(repeat rw[List.length_append]);simp only[List.length_cons,List.length_nil];omega)) ?_
 refine .aq fds [5] ?_
 refine .rq 6 rfl (.ey rfl rfl Tryz.underlying9 rfl) ?_
 refine .rq 7 rfl (.sub rfl rfl (by omega) (by omega)) ?_
 refine .al 15 (.int .i64 ((10-(Lib.decDigits z).length:Nat))) rfl (congrArg (Value.int .i64) (by omega)) ?_
 refine .aq fds [10] ?_
 refine .eg 8 rfl (.fn rfl rfl .nil ah (Kx [48] (10-(Lib.decDigits z).length) (by omega) (by decide))) ?_
 rintro v _ ⟨G1,hq,rfl⟩
 obtain⟨rfl,rfl⟩:=hq
 simp only[ae]
 refine⟨.inr ⟨_,.q0⟩,?_⟩
 refine .rq 9 rfl (.dZ (l:=pre++[45]) (m:=Lib.repeatL [48] (10-(Lib.decDigits z).length)) rfl rfl (by(repeat rw[List.length_append]);simp only[List.length_cons,List.length_nil];omega)) ?_
 refine .rq 11 rfl (.dZ (l:=pre++[45]++Lib.repeatL [48] (10-(Lib.decDigits z).length)) (m:=Lib.decDigits z) rfl rfl (by(repeat rw[List.length_append]);simp only[List.length_cons,List.length_nil];omega)) ?_
 refine .rq 12 rfl (.dZ (l:=pre++[45]++Lib.repeatL [48] (10-(Lib.decDigits z).length)++Lib.decDigits z) (m:=[46,108,111,103]) rfl rfl (by(repeat rw[List.length_append]);simp only[List.length_cons,List.length_nil];omega)) ?_
 refine .al 20 (.string (str (nameOf pre z))) rfl (by simp[nameOf,pad]) ?_
 refine .aq fds [13] ?_
 refine .dn ?_
 refine .aG Tryz.func69 (.t1 rfl) .q0 ?_
 exact⟨[],⟨rfl,rfl⟩,rfl⟩
end Go.Proofs.YtoglbebcdjdkiaaGreatDoor
namespace Go.Proofs
open Go.Shelf
def Tryz.rG:Go.Shelf.Ren:=⟨fun|7=>82|10=>129|n=>n,fun|23=>72|26=>9|3=>104|28=>141|0=>0|27=>140|33=>183|4=>4|n=>n,fun|n=>n⟩
theorem Tryz.Ky:Go.Proofs.SlLaysZ.n7 Tryz.prog Tryz.rG:={
 mixed:=by kernel_rfl
 f7:=⟨Tryz.f82.name,by decide,av Tryz.func82⟩
 f10:=⟨Tryz.f129.name,by decide,av Tryz.func129⟩
 t0:=Tryz.underlying0
 a0:=Tryz.isAgg0
 z0:=Tryz.sizeOf0
 v0:=Tryz.zeroValue0
 t4:=Tryz.underlying4
 a4:=Tryz.isAgg4
 z4:=Tryz.sizeOf4
 v4:=Tryz.zeroValue4
 t23:=Tryz.underlying72
 a23:=Tryz.isAgg72
 z23:=Tryz.sizeOf72
 v23:=Tryz.zeroValue72
 t26:=Tryz.underlying9
 a26:=Tryz.isAgg9
 z26:=Tryz.sizeOf9
 v26:=Tryz.zeroValue9
 t27:=Tryz.underlying140
 a27:=Tryz.isAgg140
 z27:=Tryz.sizeOf140
 v27:=Tryz.zeroValue140
 t28:=Tryz.underlying141
 a28:=Tryz.isAgg141
 z28:=Tryz.sizeOf141
 v28:=Tryz.zeroValue141
 t33:=Tryz.underlying183
 a33:=Tryz.isAgg183
 z33:=Tryz.sizeOf183
 v33:=Tryz.zeroValue183}
def Tryz.ny:Go.Shelf.Ren:=⟨fun|6=>81|8=>127|9=>128|11=>164|13=>143|12=>165|23=>177|24=>178|14=>195|15=>196|16=>197|17=>198|18=>199|19=>200|20=>201|21=>202|22=>203|25=>224|26=>205|27=>206|28=>225|29=>226|30=>227|31=>237|n=>n,fun|26=>9|28=>141|24=>101|0=>0|3=>3|37=>151|48=>196|50=>192|4=>4|40=>214|39=>213|45=>163|5=>5|9=>9|51=>241|55=>187|57=>264|58=>265|33=>183|n=>n,fun|n=>n⟩
theorem Tryz.ET:Go.Proofs.SlLaysZ.n6 Tryz.prog Tryz.ny:={
 mixed:=by kernel_rfl
 f6:=⟨Tryz.f81.name,by decide,av Tryz.func81⟩
 f8:=⟨Tryz.f127.name,by decide,av Tryz.func127⟩
 f11:=⟨Tryz.f164.name,by decide,av Tryz.func164⟩
 t0:=Tryz.underlying0
 a0:=Tryz.isAgg0
 z0:=Tryz.sizeOf0
 v0:=Tryz.zeroValue0
 t24:=Tryz.underlying101
 a24:=Tryz.isAgg101
 z24:=Tryz.sizeOf101
 v24:=Tryz.zeroValue101
 t26:=Tryz.underlying9
 a26:=Tryz.isAgg9
 z26:=Tryz.sizeOf9
 v26:=Tryz.zeroValue9
 t28:=Tryz.underlying141
 a28:=Tryz.isAgg141
 z28:=Tryz.sizeOf141
 v28:=Tryz.zeroValue141
 i26:=by kernel_rfl}
def Tryz.xk:Go.Shelf.Ren:=⟨fun|6=>128|8=>143|9=>165|19=>177|20=>178|21=>195|22=>196|23=>197|24=>198|25=>199|26=>200|27=>201|28=>202|29=>203|36=>224|31=>205|32=>206|37=>225|38=>226|39=>227|41=>237|n=>n,fun|27=>101|29=>9|3=>3|32=>151|26=>101|0=>0|44=>196|46=>192|4=>4|36=>214|35=>213|41=>163|5=>5|9=>9|53=>241|57=>187|63=>264|64=>265|n=>n,fun|n=>n⟩
theorem Tryz.A5:Go.Proofs.SlLaysM.n6 Tryz.prog Tryz.xk:={
 mixed:=by kernel_rfl
 f6:=⟨Tryz.f128.name,by decide,av Tryz.func128⟩
 f8:=av Tryz.func143
 f9:=⟨Tryz.f165.name,by decide,av Tryz.func165⟩
 f19:=av Tryz.func177
 f20:=av Tryz.func178
 f21:=⟨Tryz.f195.name,by decide,av Tryz.func195⟩
 f22:=⟨Tryz.f196.name,by decide,av Tryz.func196⟩
 f23:=⟨Tryz.f197.name,by decide,av Tryz.func197⟩
 f24:=⟨Tryz.f198.name,by decide,av Tryz.func198⟩
 f25:=⟨Tryz.f199.name,by decide,av Tryz.func199⟩
 f26:=⟨Tryz.f200.name,by decide,av Tryz.func200⟩
 f27:=⟨Tryz.f201.name,by decide,av Tryz.func201⟩
 f28:=⟨Tryz.f202.name,by decide,av Tryz.func202⟩
 f29:=⟨Tryz.f203.name,by decide,av Tryz.func203⟩
 f31:=av Tryz.func205
 f32:=av Tryz.func206
 f36:=⟨Tryz.f224.name,by decide,av Tryz.func224⟩
 f37:=⟨Tryz.f225.name,by decide,av Tryz.func225⟩
 f38:=⟨Tryz.f226.name,by decide,av Tryz.func226⟩
 f39:=⟨Tryz.f227.name,by decide,av Tryz.func227⟩
 f41:=⟨Tryz.f237.name,by decide,av Tryz.func237⟩
 t0:=Tryz.underlying0
 a0:=Tryz.isAgg0
 z0:=Tryz.sizeOf0
 v0:=Tryz.zeroValue0
 t3:=Tryz.underlying3
 a3:=Tryz.isAgg3
 z3:=Tryz.sizeOf3
 v3:=Tryz.zeroValue3
 t4:=Tryz.underlying4
 a4:=Tryz.isAgg4
 z4:=Tryz.sizeOf4
 v4:=Tryz.zeroValue4
 t5:=Tryz.underlying5
 a5:=Tryz.isAgg5
 z5:=Tryz.sizeOf5
 v5:=Tryz.zeroValue5
 t9:=Tryz.underlying9
 a9:=Tryz.isAgg9
 z9:=Tryz.sizeOf9
 v9:=Tryz.zeroValue9
 t26:=Tryz.underlying101
 a26:=Tryz.isAgg101
 z26:=Tryz.sizeOf101
 v26:=Tryz.zeroValue101
 t27:=Tryz.underlying101
 a27:=Tryz.isAgg101
 z27:=Tryz.sizeOf101
 v27:=Tryz.zeroValue101
 t29:=Tryz.underlying9
 a29:=Tryz.isAgg9
 z29:=Tryz.sizeOf9
 v29:=Tryz.zeroValue9
 t32:=Tryz.underlying151
 a32:=Tryz.isAgg151
 z32:=Tryz.sizeOf151
 v32:=Tryz.zeroValue151
 t35:=Tryz.underlying213
 a35:=Tryz.isAgg213
 z35:=Tryz.sizeOf213
 v35:=Tryz.zeroValue213
 t36:=Tryz.underlying214
 a36:=Tryz.isAgg214
 z36:=Tryz.sizeOf214
 v36:=Tryz.zeroValue214
 t41:=Tryz.underlying163
 a41:=Tryz.isAgg163
 z41:=Tryz.sizeOf163
 v41:=Tryz.zeroValue163
 t44:=Tryz.underlying196
 a44:=Tryz.isAgg196
 z44:=Tryz.sizeOf196
 v44:=Tryz.zeroValue196
 t46:=Tryz.underlying192
 a46:=Tryz.isAgg192
 z46:=Tryz.sizeOf192
 v46:=Tryz.zeroValue192
 t53:=Tryz.underlying241
 a53:=Tryz.isAgg241
 z53:=Tryz.sizeOf241
 v53:=Tryz.zeroValue241
 t57:=Tryz.underlying187
 a57:=Tryz.isAgg187
 z57:=Tryz.sizeOf187
 v57:=Tryz.zeroValue187
 t63:=Tryz.underlying264
 a63:=Tryz.isAgg264
 z63:=Tryz.sizeOf264
 v63:=Tryz.zeroValue264
 t64:=Tryz.underlying265
 a64:=Tryz.isAgg265
 z64:=Tryz.sizeOf265
 v64:=Tryz.zeroValue265}
end Go.Proofs
namespace Go.Proofs.YtoglbebcdjdkiaaGreatDoor
open Go Go.Sp Go.RowKit Go.Maps Go.Sort Go.Shelf
def EU(mb:Nat)(fs:Fs)(w:World):Prop:=∃es clock,w.heap[mb]?=some (.map es clock)∧es.toList.map (fun e=>(e.key,e.val))=fs.map (fun p=>(aW p.1,p.2.val))∧(fs.map (·.1)).Nodup∧
  (es.toList.map (·.born)).Nodup∧∀e∈es.toList,e.born<clock
theorem af.map{Γ aI mb fs}(p:bD (mp aW Fl.val mb fs) Γ aI):af Γ (EU mb fs):=fun _ _ s=>by
 obtain⟨es,clock,h1,h2,h3,h4,h5,_⟩:=(s.map fun _=>p.bh).kp
 exact⟨es,clock,h1,h2,h3,h4,h5⟩
def RB:Value→Option (DataW Unit×List MemPlace):=fun _=>some (.lit (.bool true),[])
def bk(l:List Nm):List Nm:=l.mergeSort fun x y=>decide (x≤y)
theorem EV{n:Nm}(h:n.length≤64):keyOf Tryz.prog 9 (aW n)=some (.string n):=by
 unfold keyOf
 rw[Tryz.underlying9]
 show mapKey Tryz.prog 9 (.string (str n))=_
 unfold mapKey
 rw[Tryz.underlying9]
 show(if(str n).size≤maxLen then _ else none)=_
 rw[if_pos (by rw[cT];unfold maxLen;omega)]
 rfl
theorem Iv{mb:Nat}{fs:Fs}{w:World}(hm:EU mb fs w)(hk:∀p∈fs,p.1.length≤64)(hn:fs.length≤1000000):∃D:DataW Unit,w.ownsMap Tryz.prog 9 RB mb fs.length D∧Maps.size D=fs.length∧(strKeys D).Perm (fs.map (·.1)):=by
 obtain⟨es,clock,h1,h2,h3,h4,h5⟩:=hm
 have hl:es.toList.length=fs.length:=by simpa using congrArg List.length h2
 have BH:∀(i:Nat) (e:MapEntry),es.toList[i]?=some e→∃p:Nm×Fl,fs[i]?=some p∧e.key=aW p.1:=fun i e he=>by
  have:=congrArg (fun l=>l[i]?) h2
  simp only[List.getElem?_map,he,Option.map_some]at this
  cases hp:fs[i]? with
  |none=>rw[hp]at this;cases this
  |some p=>rw[hp]at this;exact⟨p,rfl,(Prod.mk.inj (Option.some.inj this)).1⟩
 have MU:∀(i:Nat) (e:MapEntry),es.toList[i]?=some e→∃p:Nm×Fl,fs[i]?=some p∧WideElems.rd Tryz.prog 9 RB e=some (.string p.1,.lit (.bool true)):=fun i e he=>by
  obtain⟨p,hp,Ki⟩:=BH i e he
  refine⟨p,hp,?_⟩
  unfold WideElems.rd
  rw[Ki,EV (hk p (List.mem_of_getElem? hp))];rfl
 have OU:es.toList.map (WideElems.rg Tryz.prog 9 RB)=fs.map fun p=>(Lit.string p.1,DataW.lit (.bool true)):=by
  apply List.ext_getElem?
  intro i
  rw[List.getElem?_map,List.getElem?_map]
  cases he:es.toList[i]? with
  |none=>
   have:fs[i]?=none:=List.getElem?_eq_none_iff.2 (by have:=List.getElem?_eq_none_iff.1 he;omega)
   rw[this];rfl
  |some e=>
   obtain⟨p,hp,hr⟩:=MU i e he
   rw[hp];simp[WideElems.rg_of hr]
 have Et:es.toList.map (·.key)=fs.map fun p=>aW p.1:=by
  have:=congrArg (List.map Prod.fst) h2
  simpa[List.map_map,Function.comp_def]using this
 have nK:=(MapKept.stamped_iff es clock).2 ⟨h5,h4,by
  have mo:(es.toList.map (·.key)).Nodup:=by
   rw[Et]
   have e:(fs.map fun p=>aW p.1)=(fs.map (·.1)).map aW:=by rw[List.map_map];rfl
   rw[e]
   exact List.Pairwise.map aW (fun a b DY e=>DY (AC a b (by injection e))) h3
  exact List.pairwise_map.1 mo⟩
 refine⟨_,⟨es,clock,h1,⟨by unfold maxLen;have:es.size=es.toList.length:=rfl;omega,nK,fun x hx=>?_⟩,by have:es.size=es.toList.length:=rfl;omega,rfl⟩,?_,?_⟩
 ·
  obtain⟨i,hi⟩:=List.getElem?_of_mem hx
  obtain⟨p,_,hr⟩:=MU i x hi
  exact⟨_,hr⟩
 ·
  show((es.toList.map (WideElems.rg Tryz.prog 9 RB)).foldr DataW.insert []).length=_
  rw[(WideShapes.sorted_perm _).length_eq,List.length_map,hl]
 ·
  show(((es.toList.map (WideElems.rg Tryz.prog 9 RB)).foldr DataW.insert []).map fun p=>strOf p.1).Perm _
  refine((WideShapes.sorted_perm _).map _).trans ?_
  rw[OU,List.map_map]
  exact List.Perm.of_eq rfl
theorem Kz:j3 Tryz.prog 81:=⟨_,Tryz.func81,by kernel_rfl,rfl⟩
theorem Iw(m:Nat):AnyZ.SortsIn Tryz.prog Tryz.ny Fence.wide m:=
 ⟨fun an off cap ss W hH Kj jS=>callsIn_wide.2 (AnyM.slices_Sort_string Tryz.A5 an off cap ss W hH Kj jS),
 fun p cap W=>callsIn_wide.2 (AnyM.slices_Sort_string_none Tryz.A5 p cap W)⟩
theorem Co(kb mb:Nat)(fs:Fs)(hk:∀p∈fs,p.1.length≤64)(hn:fs.length≤1000000):Cn Tryz.prog 81 [.func (.func 129) #[] #[.pointer (some ⟨kb,0,none⟩)]] (fun w=>aL kb 0 [.map (some mb)] w∧EU mb fs w) [] fun v G=>∃a c,v=.slice a fs.length c∧G=[bF (aD a ((bk (fs.map (·.1))).map aW))]:=by
 have hs:∀l:List Nm,(bk l).length=l.length:=fun l=>List.length_mergeSort l
 refine Cn.sV (e:=9) Kz (aB.map _ fun _=>rfl) fun w ⟨hc,hm⟩=>?_
 obtain⟨D,HX,jS,hp⟩:=Iv hm hk hn
 have gy:w.cell? ⟨kb,0,none⟩=some (.map (some mb)):=hc.1 0 _ rfl
 have OV:kb<w.heap.size:=by
  unfold World.cell? at gy
  cases h:w.heap[kb]? with
  |none=>simp[h]at gy
  |some o=>exact(Array.getElem?_eq_some_iff.1 h).1
 have D6:SeqGives Fence.wide 2 Tryz.prog 129 #[.pointer (some ⟨kb,0,none⟩)] encStr (fun ss=>ss.Perm (strKeys D)) (Maps.size D) w:=
  AnyZ.keys_gives (ρ:=Tryz.rG) {Tryz.Ky with} Fence.wide _ trivial rfl (by omega) kb mb _ D w OV gy HX
 have key:=AnyZ.sorted_in Tryz.ET Fence.wide 5 trivial trivial trivial trivial rfl (by omega) (Iw _) (enters_of Tryz.func128 (by kernel_rfl) rfl) 129 #[.pointer (some ⟨kb,0,none⟩)] trivial (enters_of Tryz.func129 (by kernel_rfl) rfl) _ _ (by rw[jS];unfold maxLen;omega) (by rw[jS];omega) _ D6
 refine(callsIn_wide.1 key).mono fun x w' ⟨v,ss,he,hS,ze,_,hb⟩=>⟨v,he,?_,hb⟩
 have h1:ss.mergeSort (fun x y=>decide (x≤y))=bk (fs.map (·.1)):=mergeSort_of_perm (hS.trans hp)
 have h2:ss.length=fs.length:=by rw[(hS.trans hp).length_eq,List.length_map]
 rw[h1,h2]at ze
 exact ze
theorem Iy(mb:Nat):Cn Tryz.prog 82 [.map (some mb)] (fun _=>True) [] fun v G=>∃kb,v=.func (.func 129) #[] #[.pointer (some ⟨kb,0,none⟩)]∧G=[an kb [.map (some mb)] 72]:=by
 refine .en Tryz.func82 fun R k=>?_
 refine .ax fds 2 ?_
 refine .ef (.box (l:=[.map (some mb)]) rfl rfl (aB.of rfl)) ?_
 rintro _ _ ⟨kb,rfl,rfl⟩
 refine .ax fds 4 ?_
 refine .rd (.makeFunc (cs:=[.pointer (some ⟨kb,0,none⟩)]) rfl rfl) ?_
 refine .aH fds 2 ?_
 refine .aG Tryz.func82 (.t1 rfl) .cU ?_
 exact⟨[_],⟨_,rfl,rfl⟩,rfl⟩
theorem xm(db mb:Nat)(d:Dk)(hk:∀p∈d.fs,p.1.length≤64)(hn:d.fs.length≤1000000):Cn Tryz.prog 45 [.pointer (some ⟨db,0,none⟩)] (fun _=>True) [an db (d.cells mb) 74,mp aW Fl.val mb d.fs] fun v G=>∃a c,v=.slice a d.fs.length c∧G=[an db (d.cells mb) 74,mp aW Fl.val mb d.fs,bF (aD a ((bk (d.fs.map (·.1))).map aW))]:=by
 refine .en Tryz.func45 fun R k=>?_
 refine .ax fds 9 ?_
 refine .rd (.ld eB rfl .p0 rfl) ?_
 refine .fn rfl rfl .nil ah (Iy mb) (fun v G1 hq=>?_)
 obtain⟨kb,rfl,rfl⟩:=hq
 simp only[ag,ae]
 refine .fn rfl rfl .nil ((af.an .p0).and (af.map .p2)) (Co kb mb d.fs hk hn) (fun v G1 hq=>?_)
 obtain⟨sa,sc,rfl,rfl⟩:=hq
 simp only[ag,ae]
 refine .aH fds 2 ?_
 refine .aG Tryz.func45 (.t1 rfl) (.cons .p2 (.cons .p2 (.cons .p0 (.cons .p1 .nil)))) ?_
 exact⟨[_,_,_],⟨_,_,rfl,rfl⟩,rfl⟩
theorem EW(db:Nat)(s:Sx)(b:aQ)(hs:s.ok)(hb:b.aT)(hn:b.base=s.next)(hl:s.bs.length<4096):Cn Tryz.prog 155 [.pointer (some ⟨s.b,0,none⟩),.agg (pg s b).cells.toArray] (fun _=>True) [an s.b (s.cells db) 110,arr 112 4 s.aa s.ac s.rows,arr 3 1 s.ia s.ic (s.sm.flatMap fI)] fun v G=>∃sm aa ac ia ic,Ix sm (s.bs.length+1)∧s.bs.length+1≤ac∧G=[an s.b ((Sx.mk s.b s.nm s.base (s.bs++[b]) sm aa ac ia ic).cells db) 110,arr 112 4 aa ac (Sx.mk s.b s.nm s.base (s.bs++[b]) sm aa ac ia ic).rows,arr 3 1 ia ic (sm.flatMap fI)]:=by
 refine .en Tryz.func155 fun R k=>?_
 have oS:=Sx.AJ hs
 have ym:=hs.kC
 have UI:(pg s b).fr=(flat s.bs).length:=rfl
 refine .ax fds 2 ?_
 refine .ef (.box (l:=(pg s b).cells) rfl rfl (aB.of rfl)) ?_
 rintro _ _ ⟨b3,rfl,rfl⟩
 refine .ax fds 7 ?_
 refine .rd (.ld iQ rfl .p1 rfl) ?_
 refine .rd (.bP rfl rfl Tryz.underlying31 rfl) ?_
 refine .aH fds 3 ?_
 refine .sU [4,8,12,16,19] [an s.b (s.cells db) 110,arr 112 4 s.aa s.ac s.rows,arr 3 1 s.ia s.ic (s.sm.flatMap fI),an b3 (pg s b).cells 112] 32 (DV s) (by kernel_rfl) ?_ ?_
 ·
  refine .aq fds [0] ?_
  refine .aq fds [1] ?_
  refine .aq fds [2] ?_
  refine .split (t:=12) rfl (fun hz=>?_) (fun hz=>?_)
  ·
   refine .aq fds [3,4,5,6,7,8,9,10,11,12,13,14,15,16,17,18,19,20,21] ?_
   refine .aq fds [22] ?_
   refine .done (by kernel_rfl) ⟨rfl,?_,by repeat (first|exact Le.refl _|refine Le.skip rfl ?_)⟩
   exact congrArg (fun x=>some (Value.bool x)) (by unfold DV;have:=of_decide_eq_true hz;rw[decide_eq_true (show s.sm.length=0 by omega)];rfl)
  ·
   have AO:s.sm.length≠0:=by have:=of_decide_eq_false hz;omega
   obtain⟨j,x,hj,hx,hg⟩:=Sx.J2 hs AO
   have BF:=(List.getElem?_eq_some_iff.1 hx).1
   have OX:=pK (bs:=s.bs) j
   refine .tell (φ:=∃b o,s.ia=some ⟨b,o,none⟩) ((af.arr .p3).mono fun _ h=>aD.addr h (by rw[Sx.pL];omega)) (fun hh=>?_)
   obtain⟨b8,o8,h8⟩:=hh
   refine .tell (φ:=∃b o,s.aa=some ⟨b,o,none⟩) ((af.arr .p2).mono fun _ h=>aD.addr h (by rw[Sx.eP];omega)) (fun hh=>?_)
   obtain⟨b9,o9,h9⟩:=hh
   refine .aq fds [3] ?_
   refine .vR 4 (t:=12) rfl rfl rfl rfl (by kernel_rfl) (by kernel_rfl) (by kernel_rfl) (.ld ak rfl .p3 rfl) .lC ?_
   refine .aq fds [5] ?_
   refine .aq fds [6] ?_
   refine .aq fds [7] ?_
   refine .vR 8 (t:=12) rfl rfl rfl rfl (by kernel_rfl) (by kernel_rfl) (by kernel_rfl) (.ld dz rfl .p0 rfl) .lC ?_
   refine .aq fds [9] ?_
   refine .aq fds [10] ?_
   refine .aq fds [11] ?_
   refine .vR 12 (t:=12) rfl rfl rfl rfl (by kernel_rfl) (by kernel_rfl) (by kernel_rfl) (.ld iQ rfl .p0 rfl) .lC ?_
   refine .aq fds [13] ?_
   refine .BB 14 (t:=12) rfl rfl rfl (by kernel_rfl) (by kernel_rfl) (by kernel_rfl) (Reads.pure (.sub rfl rfl (by omega) (by omega))) ?_
   refine .al 24 (.int .i64 ((s.sm.length-1:Nat))) rfl (congrArg (Value.int .i64) (by omega)) ?_
   refine .BB 15 (t:=12) rfl rfl rfl (by kernel_rfl) (by kernel_rfl) (by kernel_rfl) (Reads.pure (.indexAddr (b:=b8) (o:=o8) Tryz.underlying31 cc (by show some (Value.slice (s.ia) _ _)=_;rw[h8]) rfl (by omega) (by omega))) ?_
   refine .vR 16 (t:=12) rfl rfl rfl rfl (by kernel_rfl) (by kernel_rfl) (by kernel_rfl) (.load ak rfl (af.one (i:=0) (af.elem (f:=fI) dR (by decide) ((af.arr .p2).mono fun _ h=>h8▸h) (hj)) rfl)) .lC ?_
   refine .BB 17 (t:=12) rfl rfl rfl (by kernel_rfl) (by kernel_rfl) (by kernel_rfl) (Reads.pure (.indexAddr (b:=b9) (o:=o9) Tryz.underlying108 eU (by show some (Value.slice (s.aa) _ _)=_;rw[h9]) rfl (by omega) (by omega))) ?_
   refine .aq fds [18] ?_
   refine .vR 19 (t:=12) rfl rfl rfl rfl (by kernel_rfl) (by kernel_rfl) (by kernel_rfl) (.load ak rfl (af.one (i:=2) (af.elem (f:=One.cells) One.bU (by decide) ((af.arr .p1).mono fun _ h=>h9▸h) (nU hx)) rfl)) .lC ?_
   refine .al 29 (.int .i64 ((flat (s.bs.take j)).length:Int)) rfl (rfl) ?_
   refine .BB 20 (t:=12) rfl rfl rfl (by kernel_rfl) (by kernel_rfl) (by kernel_rfl) (Reads.pure (.sub rfl rfl (by omega) (by omega))) ?_
   refine .aq fds [21] ?_
   refine .aq fds [22] ?_
   refine .done (by kernel_rfl) ⟨rfl,?_,by repeat (first|exact Le.refl _|refine Le.skip rfl ?_)⟩
   exact congrArg (fun x=>some (Value.bool x)) (by unfold DV;rw[decide_eq_false AO,hg];rfl)
 refine .cond rfl (fun c2=>?_) (fun c2=>?_)
 ·
  refine .dr [4,8] [an s.b (s.cells db) 110] ?_
  refine .aq fds [0] ?_
  refine .aq fds [1] ?_
  refine .aq fds [2] ?_
  refine .aq fds [3] ?_
  refine .re 4 rfl (.ld iQ rfl .p0 rfl) .q1 ?_
  refine .aq fds [5] ?_
  refine .aq fds [6] ?_
  refine .aq fds [7] ?_
  refine .re 8 rfl (.ld dz rfl .p0 rfl) .q1 ?_
  refine .rq 9 rfl (.bP rfl rfl Tryz.underlying108 rfl) ?_
  refine .eg 10 rfl (.cr (cs:=[.int .i64 (s.bs.length:Int)]) Tryz.underlying31 gR (by decide) rfl rfl rfl (aB.of rfl)) ?_
  rintro _ _ ⟨bs,rfl,rfl⟩
  refine⟨.inr ⟨_,.q2⟩,?_⟩
  refine .eg 11 rfl (.append rfl rfl Tryz.underlying31 gR rfl (aB.of rfl) (by decide) (by decide) rfl rfl .p4 (n:=s.sm.length) (m:=1) (by rw[Sx.pL,Nat.mul_one]) (.dM .p0 Tryz.underlying31 rfl (by decide)) (by omega)) ?_
  rintro _ _ ⟨ra,rc,rfl,rn,rfl⟩
  refine ay ?_
  refine .aq fds [12] ?_
  refine .aq fds [13] ?_
  refine .eh 14 rfl (.store Ar rfl rfl .p3 rfl aU) ?_
  rintro _ _ rfl
  refine ay ?_
  refine .dn ?_
  refine .ca (an s.b [.pointer (some ⟨db,0,none⟩),aW s.nm,.int .i64 s.base,.slice s.aa s.bs.length s.ac,.slice ra (s.sm.length+1) rc] 110) (rfl) ?_
  refine .dr [4,5] [an s.b [.pointer (some ⟨db,0,none⟩),aW s.nm,.int .i64 s.base,.slice s.aa s.bs.length s.ac,.slice ra (s.sm.length+1) rc] 110,an b3 (pg s b).cells 112] ?_
  refine .aq fds [0] ?_
  refine .aq fds [1] ?_
  refine .aq fds [2] ?_
  refine .aq fds [3] ?_
  refine .re 4 rfl (.ld dz rfl .p0 rfl) (.cons .p0 (.cons .p2 .nil)) ?_
  refine .re 5 rfl (.j4 uA eU rfl .p1 rfl) (.cons .p0 (.cons .p2 .nil)) ?_
  refine .eg 6 rfl (.cr (cs:=(pg s b).cells) Tryz.underlying108 mQ (by decide) rfl rfl rfl (aB.of rfl)) ?_
  rintro _ _ ⟨bq,rfl,rfl⟩
  refine⟨.inr ⟨_,.Ms⟩,?_⟩
  refine .eg 7 rfl (.append rfl rfl Tryz.underlying108 mQ rfl (aB.of rfl) (by decide) (by decide) rfl rfl .p5 (n:=s.bs.length) (m:=1) (Sx.eP s) (.dM .p0 Tryz.underlying108 rfl (by decide)) (by omega)) ?_
  rintro _ _ ⟨qa,qc,rfl,qn,rfl⟩
  refine ay ?_
  refine .aq fds [8] ?_
  refine .aq fds [9] ?_
  refine .eh 10 rfl (.store uB rfl rfl .p2 rfl aU) ?_
  rintro _ _ rfl
  refine ay ?_
  refine .dn ?_
  refine .ca (an s.b ((Sx.mk s.b s.nm s.base (s.bs++[b]) (s.sm++[s.bs.length]) qa qc ra rc).cells db) 110) (by simp[Sx.cells]) ?_
  refine .perm .iB ?_
  refine .ca (arr 112 4 qa qc (Sx.mk s.b s.nm s.base (s.bs++[b]) (s.sm++[s.bs.length]) qa qc ra rc).rows) (congrArg _ (Sx.s7 s b).symm) ?_
  refine .perm .mK ?_
  refine .ca (arr 3 1 ra rc ((s.sm++[s.bs.length]).flatMap fI)) (congrArg _ (wD _ _).symm) ?_
  refine .tell (φ:=s.bs.length+1≤qc) (fun A w h=>by have:=(h.map fun _=>(.p1:bD (arr 112 4 qa qc (Sx.mk s.b s.nm s.base (s.bs++[b]) (s.sm++[s.bs.length]) qa qc ra rc).rows) _ _).bh).jz.1;rw[Sx.eP,List.length_append]at this;simp at this;omega) (fun A6=>?_)
  refine .sD Tryz.func155 .nil (.cons .p2 (.cons .p1 (.cons .p0 (.cons .p3 .nil)))) ?_
  exact⟨[_,_,_],⟨(s.sm++[s.bs.length]),qa,qc,ra,rc,hs.ix.more,A6,rfl⟩,rfl⟩
 ·
  refine .skip ?_
  refine .perm .qz ?_
  refine .ca (an s.b [.pointer (some ⟨db,0,none⟩),aW s.nm,.int .i64 s.base,.slice s.aa s.bs.length s.ac,.slice s.ia s.sm.length s.ic] 110) (rfl) ?_
  refine .dr [4,5] [an s.b [.pointer (some ⟨db,0,none⟩),aW s.nm,.int .i64 s.base,.slice s.aa s.bs.length s.ac,.slice s.ia s.sm.length s.ic] 110,an b3 (pg s b).cells 112] ?_
  refine .aq fds [0] ?_
  refine .aq fds [1] ?_
  refine .aq fds [2] ?_
  refine .aq fds [3] ?_
  refine .re 4 rfl (.ld dz rfl .p0 rfl) .cU ?_
  refine .re 5 rfl (.j4 uA eU rfl .p1 rfl) .cU ?_
  refine .eg 6 rfl (.cr (cs:=(pg s b).cells) Tryz.underlying108 mQ (by decide) rfl rfl rfl (aB.of rfl)) ?_
  rintro _ _ ⟨bq,rfl,rfl⟩
  refine⟨.inr ⟨_,.px⟩,?_⟩
  refine .eg 7 rfl (.append rfl rfl Tryz.underlying108 mQ rfl (aB.of rfl) (by decide) (by decide) rfl rfl .p3 (n:=s.bs.length) (m:=1) (Sx.eP s) (.dM .p0 Tryz.underlying108 rfl (by decide)) (by omega)) ?_
  rintro _ _ ⟨qa,qc,rfl,qn,rfl⟩
  refine ay ?_
  refine .aq fds [8] ?_
  refine .aq fds [9] ?_
  refine .eh 10 rfl (.store uB rfl rfl .p2 rfl aU) ?_
  rintro _ _ rfl
  refine ay ?_
  refine .dn ?_
  refine .ca (an s.b ((Sx.mk s.b s.nm s.base (s.bs++[b]) s.sm qa qc s.ia s.ic).cells db) 110) (by simp[Sx.cells]) ?_
  refine .perm .eT ?_
  refine .ca (arr 112 4 qa qc (Sx.mk s.b s.nm s.base (s.bs++[b]) s.sm qa qc s.ia s.ic).rows) (congrArg _ (Sx.s7 s b).symm) ?_
  refine .tell (φ:=s.bs.length+1≤qc) (fun A w h=>by have:=(h.map fun _=>(.p0:bD (arr 112 4 qa qc (Sx.mk s.b s.nm s.base (s.bs++[b]) s.sm qa qc s.ia s.ic).rows) _ _).bh).jz.1;rw[Sx.eP,List.length_append]at this;simp at this;omega) (fun A6=>?_)
  refine .sD Tryz.func155 .nil (.cons .p1 (.cons .p0 (.cons .p2 (.cons .p2 .nil)))) ?_
  exact⟨[_,_,_],⟨s.sm,qa,qc,s.ia,s.ic,HE hs c2,A6,rfl⟩,rfl⟩
theorem gZ(s:List UInt8)(hl:s.length≤9000000000000000000):Cn Tryz.prog 85 [.string (str s)] (fun _=>True) [] fun v G=>∃a' c',v=.tuple #[.agg ((aX s).1.cells a' c').toArray,.int .i64 (aX s).2.1,.int .i64 (aX s).2.2]∧G=[arr 99 3 a' c' ((aX s).1.aS.flatMap Rec.cells)]:=by
 refine .en Tryz.func85 fun R k=>?_
 refine .ax fds 2 ?_
 refine .ef (.alloc di rfl (aB.of rfl)) ?_
 rintro _ _ ⟨b2,rfl,rfl⟩
 refine .ax fds 7 ?_
 refine .rd (.ey rfl rfl Tryz.underlying9 rfl) ?_
 refine .aH fds 2 ?_
 refine .aM rfl (fun h2=>?_) (fun h2=>?_)
 ·
  refine .ax fds 2 ?_
  refine .rd (.build rfl (mR)) ?_
  refine .dc (.storeAll (vs:=[.int .i64 0,.int .i64 0,.int .i64 0,.int .i64 0,.int .i64 0,.slice none 0 0]) aO rfl rfl rfl .p0 rfl (aB.of rfl)) ?_
  rintro _ _ rfl
  refine .aH fds 3 ?_
  rw[jU (s:=s) (by omega)]
  refine .cq 99 3 none ?_
  refine .aG Tryz.func85 (.cons (.yy bi aO rfl .p1 rfl) (.t2 rfl rfl)) .sI ?_
  exact⟨[_],⟨none,0,rfl,rfl⟩,rfl⟩
 ·
  refine .ax fds 4 ?_
  refine .fn rfl rfl .nil ah (AS s (by omega)) (fun v G1 hq=>?_)
  obtain⟨rfl,rfl⟩:=hq
  simp only[ae]
  refine .aH fds 10 ?_
  refine .aM rfl (fun h4=>?_) (fun h4=>?_)
  ·
   refine .ax fds 2 ?_
   refine .rd (.build rfl (mR)) ?_
   refine .dc (.storeAll (vs:=[.int .i64 0,.int .i64 0,.int .i64 0,.int .i64 0,.int .i64 0,.slice none 0 0]) aO rfl rfl rfl .p0 rfl (aB.of rfl)) ?_
   rintro _ _ rfl
   refine .aH fds 3 ?_
   rw[qM (s:=s) (by omega) (by omega)]
   refine .cq 99 3 none ?_
   refine .aG Tryz.func85 (.cons (.yy bi aO rfl .p1 rfl) (.t2 rfl rfl)) .sI ?_
   exact⟨[_],⟨none,0,rfl,rfl⟩,rfl⟩
  ·
   refine .ax fds 3 ?_
   refine .rd (.ey rfl rfl Tryz.underlying9 rfl) ?_
   refine .rd (.sub rfl rfl (by omega) (by omega)) ?_
   refine .aH fds 4 ?_
   refine .aM rfl (fun h6=>?_) (fun h6=>?_)
   ·
    refine .ax fds 2 ?_
    refine .rd (.build rfl (mR)) ?_
    refine .dc (.storeAll (vs:=[.int .i64 0,.int .i64 0,.int .i64 0,.int .i64 0,.int .i64 0,.slice none 0 0]) aO rfl rfl rfl .p0 rfl (aB.of rfl)) ?_
    rintro _ _ rfl
    refine .aH fds 3 ?_
    rw[lE (s:=s) (by omega) (by omega) (by omega)]
    refine .cq 99 3 none ?_
    refine .aG Tryz.func85 (.cons (.yy bi aO rfl .p1 rfl) (.t2 rfl rfl)) .sI ?_
    exact⟨[_],⟨none,0,rfl,rfl⟩,rfl⟩
   ·
    refine .seq ?_
    have UJ:=HA s
    obtain⟨t,ht⟩:∃t,t=(s.drop 8).take (four s):=⟨_,rfl⟩
    have Qu:t.length≤4088:=by rw[ht,List.length_take];omega
    refine .dr [] [] ?_
    refine .aq fds [0,1] ?_
    refine .rq 2 rfl (.add rfl rfl (by omega) (by omega)) ?_
    refine .al 32 (.int .i64 ((8+four s:Nat):Int)) rfl (by rw[Int.natCast_add];rfl) ?_
    refine .rq 3 rfl (.cH (l:=s) (a:=8) (h:=(8+four s)) Tryz.underlying9 rfl ⟨_,rfl⟩ ⟨_,rfl⟩ (by omega) (by omega)) ?_
    refine .al 33 (.string (str t)) rfl (by rw[ht,Nat.add_sub_cancel_left]) ?_
    refine .aq fds [5] ?_
    refine .rq 6 rfl (.cH (l:=s) (a:=4) (h:=s.length) Tryz.underlying9 rfl ⟨_,rfl⟩ rfl (by omega) (by omega)) ?_
    refine .al 36 (.string (str (s.drop 4))) rfl (by rw[List.take_of_length_le (by rw[List.length_drop];omega)]) ?_
    refine .eg 4 rfl (.fn rfl rfl .nil ah (uW t (by omega))) ?_
    rintro v _ ⟨G1,hq,rfl⟩
    obtain⟨rfl,rfl⟩:=hq
    simp only[ae]
    refine ay ?_
    refine .eg 7 rfl (.fn rfl rfl .nil ah (AS (s.drop 4) (by rw[List.length_drop];omega))) ?_
    rintro v _ ⟨G1,hq,rfl⟩
    obtain⟨rfl,rfl⟩:=hq
    simp only[ae]
    refine ay ?_
    refine .aq fds [8,9] ?_
    refine .dn ?_
    refine .my rfl (fun h8=>?_) (fun h8=>?_)
    ·
     refine .ax fds 2 ?_
     refine .rd (.build rfl (mR)) ?_
     refine .dc (.storeAll (vs:=[.int .i64 0,.int .i64 0,.int .i64 0,.int .i64 0,.int .i64 0,.slice none 0 0]) aO rfl rfl rfl .p0 rfl (aB.of rfl)) ?_
     rintro _ _ rfl
     refine .aH fds 3 ?_
     rw[sJ (s:=s) (by omega) (by omega) (by omega) ht (by omega)]
     refine .cq 99 3 none ?_
     refine .aG Tryz.func85 (.cons (.yy bi aO rfl .p1 rfl) (.t2 rfl rfl)) .sI ?_
     exact⟨[_],⟨none,0,rfl,rfl⟩,rfl⟩
    ·
     have Da:(fx t).toNat=four (s.drop 4):=by omega
     refine .ax fds 6 ?_
     refine .rd (.add rfl rfl (by omega) (by omega)) ?_
     refine .al 42 (.int .i64 ((8+four s:Nat):Int)) rfl (by rw[Int.natCast_add];rfl) ?_
     refine .rd (.cH (l:=s) (a:=8) (h:=(8+four s)) Tryz.underlying9 rfl ⟨_,rfl⟩ ⟨_,rfl⟩ (by omega) (by omega)) ?_
     refine .al 43 (.string (str t)) rfl (by rw[ht,Nat.add_sub_cancel_left]) ?_
     refine .rd (.build rfl (GZ _ _)) ?_
     refine .ef (.box rfl rfl (aB.of rfl)) ?_
     rintro _ _ ⟨Iz,rfl,rfl⟩
     refine .ax fds 4 ?_
     refine .ef (.alloc di rfl (aB.of rfl)) ?_
     rintro _ _ ⟨b7,rfl,rfl⟩
     refine .ax fds 9 ?_
     refine .rd (.build rfl (G0 _ _ _ _ _)) ?_
     refine .aH fds 3 ?_
     refine .loop (σ:=List Int×wm) (fun⟨xs,p⟩=>xs.length≤5∧(∀x∈xs,i64 x)∧p.1.length≤4096∧sY p.2 p.1 (eN pI xs.length t) xs) (fun⟨xs,p⟩=>5-xs.length) (fun⟨xs,p⟩=>[(2,.pointer (some ⟨b2,0,none⟩)),(5,.int .i64 (four s:Int)),(6,.pointer (some ⟨Iz,0,none⟩)),(7,.pointer (some ⟨b7,0,none⟩)),(51,.agg #[.pointer (some ⟨b7,0,none⟩),.pointer (some ⟨b7,1,none⟩),.pointer (some ⟨b7,2,none⟩),.pointer (some ⟨b7,3,none⟩),.pointer (some ⟨b7,4,none⟩)]),(52,.int .i64 (xs.length:Int))]) (fun⟨xs,p⟩=>[an b2 [.int .i64 0,.int .i64 0,.int .i64 0,.int .i64 0,.int .i64 0,.slice none 0 0] 41,an Iz [.string (str p.1),.bool p.2] 186,an b7 (vec xs++[.slice none 0 0]) 41,R]) ([],t,true) ⟨Nat.zero_le _,by simp,by show t.length≤4096;omega,.inl ⟨rfl,rfl⟩⟩ .r6 .Ak (fun s' hI ih=>?_)
     obtain⟨xs,p⟩:=s'
     dsimp only at hI ih⊢
     have h5:=hI.1
     have AW:=hI.2.2.1
     refine .go fds 5 ?_
     refine .aM rfl (fun OY=>?_) (fun OY=>?_)
     ·
      refine .ax fds 5 ?_
      refine .rd (.z1 Tryz.underlying188 G2 G3 rfl rfl (by omega) (by omega) (by rw[Int.toNat_natCast,Nat.mul_one];exact J1 b7 (by omega))) ?_
      refine .ax fds 5 ?_
      refine .fn rfl rfl .q1 ah (ni Iz p (by omega)) (fun v G1 hq=>?_)
      obtain⟨rfl,rfl⟩:=hq
      simp only[ag,ae]
      refine .rd (.nilCheck rfl) ?_
      refine .dc (.store cc rfl rfl .p2 rfl (by rw[List.length_append,HD h5];show xs.length+1≤5+1;omega)) ?_
      rintro _ _ rfl
      refine .ca (an b7 (vec (xs++[(cI p).1])++[.slice none 0 0]) 41) (by rw[HB (by omega)]) ?_
      refine .ax fds 3 ?_
      refine .rd (.add rfl rfl (by omega) (by omega)) ?_
      refine .aH fds 2 ?_
      exact(ih (xs++[(cI p).1],(cI p).2) ⟨by show(xs++[_]).length≤5;rw[List.length_append];show xs.length+1≤5;omega,wx hI.2.1 (qH _),Nat.le_trans (mW p) hI.2.2.1,yW (hI.2.2.2.cI (f:=fun xs x=>xs++[x]))⟩ (by show 5-(xs++[_]).length<5-xs.length;rw[List.length_append];show 5-(xs.length+1)<_;omega)).to (.cons rfl (.cons rfl (.cons rfl (.cons rfl (.cons rfl (.cons (by show _=some (Value.int .i64 ((xs++[(cI p).1]).length:Int));rw[List.length_append];rfl) .nil)))))) .Ak
     ·
      obtain⟨x0,x1,x2,x3,x4,rfl⟩:=HC (show xs.length=5 by omega)
      obtain⟨_,NX,OZ,M0⟩:=hI
      clear ih h5 AW
      have AW:=OZ
      refine .perm .wi ?_
      refine .ca (an b7 [.int .i64 x0,.int .i64 x1,.int .i64 x2,.int .i64 x3,.int .i64 x4,.slice none 0 0] 41) (rfl) ?_
      refine .ax fds 5 ?_
      refine .fn rfl rfl .q2 ah (ni Iz p (by omega)) (fun v G1 hq=>?_)
      obtain⟨rfl,rfl⟩:=hq
      simp only[ag,ae]
      refine .aH fds 2 ?_
      have hH:sY (cI p).2.2 (cI p).2.1 (gv t) ([x0,x1,x2,x3,x4],(cI p).1):=M0.cI (f:=fun a b=>(a,b))
      have Qv:=qH p.1
      have M1:=Nat.le_trans (mW p) AW
      obtain⟨n,hn⟩:∃n,n=(cI p).1:=⟨_,rfl⟩
      obtain⟨q,hq⟩:∃q,q=(cI p).2:=⟨_,rfl⟩
      rw[←hn,←hq]at hH
      rw[←hq]at M1
      have O0:i64 n:=by rw[hn];exact Qv
      obtain⟨B7,Lw⟩:=O0
      rw[←hq]
      refine .al 10 (.int .i64 (n-(([]:List Rec).length:Int))) rfl (by rw[hn];simp) ?_
      clear Qv hn hq M0
      refine .cq 99 3 none ?_
      refine .block ?_
      refine .loop (σ:=List Rec×wm×Option Addr×Nat) (fun⟨rs,p,a',c'⟩=>Lv n rs∧p.1.length≤4096∧sY p.2 p.1 (eO rs.length t) (([x0,x1,x2,x3,x4],n),rs)) (fun⟨rs,p,a',c'⟩=>65-rs.length) (fun⟨rs,p,a',c'⟩=>[(2,.pointer (some ⟨b2,0,none⟩)),(5,.int .i64 (four s:Int)),(6,.pointer (some ⟨Iz,0,none⟩)),(7,.pointer (some ⟨b7,0,none⟩)),(10,.int .i64 (n-(rs.length:Int)))]) (fun⟨rs,p,a',c'⟩=>[an b2 [.int .i64 0,.int .i64 0,.int .i64 0,.int .i64 0,.int .i64 0,.slice none 0 0] 41,an Iz [.string (str p.1),.bool p.2] 186,an b7 [.int .i64 x0,.int .i64 x1,.int .i64 x2,.int .i64 x3,.int .i64 x4,.slice a' rs.length c'] 41,arr 99 3 a' c' (rs.flatMap Rec.cells),R]) ([],q,none,0) ⟨.nil n,M1,yR hH⟩ .r5 (.cons .p3 (.cons .p1 (.cons .p1 (.cons .p0 (.cons .p0 .nil))))) (fun s' hI ih=>?_)
      obtain⟨rs,p,a',c'⟩:=s'
      dsimp only at hI ih⊢
      have hm:=hI.1.most
      have AW:=hI.2.1
      refine .ax fds 3 ?_
      refine aZ.join 14 75 (decide (0<n-(rs.length:Int)∧p.2=true∧rs.length≤64)) ?_ ?_
      ·
       refine .go fds 3 ?_
       refine .split (t:=64) rfl (fun xn=>?_) (fun xn=>?_)
       ·
        replace xn:=of_decide_eq_true xn
        refine .go fds 3 ?_
        refine .on (t:=64) rfl rfl ?_
        refine .rd (.ld gp rfl .p1 rfl) ?_
        refine .go fds 2 ?_
        refine .split (t:=70) rfl (fun EX=>?_) (fun EX=>?_)
        ·
         refine .go fds 1 ?_
         refine .on (t:=70) rfl rfl ?_
         refine .rd (.ld gG rfl .p2 rfl) ?_
         refine .on (t:=70) rfl rfl ?_
         refine .rd (.bP rfl rfl Tryz.underlying39 rfl) ?_
         refine .go fds 2 ?_
         refine .nil ⟨rfl,?_,by repeat (first|exact Le.refl _|refine Le.skip rfl ?_)⟩
         exact congrArg (fun x=>some (Value.bool x)) (decide_eq_decide.2 (by rw[EX];exact⟨fun h=>⟨by omega,rfl,by omega⟩,fun h=>by have:=h.2.2;omega⟩))
        ·
         refine .go fds 5 ?_
         refine .nil ⟨rfl,?_,by repeat (first|exact Le.refl _|refine Le.skip rfl ?_)⟩
         exact congrArg (fun x=>some (Value.bool x)) ((decide_eq_false (p:=0<n-(rs.length:Int)∧p.2=true∧rs.length≤64) (by rw[EX];simp)).symm)
       ·
        replace xn:=of_decide_eq_false xn
        refine .go fds 11 ?_
        refine .nil ⟨rfl,?_,by repeat (first|exact Le.refl _|refine Le.skip rfl ?_)⟩
        exact congrArg (fun x=>some (Value.bool x)) ((decide_eq_false (by omega)).symm)
      refine .nil ?_
      refine .aM rfl (fun Kc=>?_) (fun Kc=>?_)
      ·
       refine .go fds 4 ?_
       have OW:=mW p
       have R5:=uF 1000 (cI p).2
       refine .ax fds 2 ?_
       refine .fn rfl rfl .q1 ah (ni Iz p (by omega)) (fun v G1 hq=>?_)
       obtain⟨rfl,rfl⟩:=hq
       simp only[ag,ae]
       refine .rd (.build rfl (G4 _)) ?_
       refine .ef (.alloc iO rfl (aB.of rfl)) ?_
       rintro _ _ ⟨R6,rfl,rfl⟩
       refine .dc (.storeAll fE rfl rfl rfl .p0 rfl (aB.of rfl)) ?_
       rintro _ _ rfl
       refine .ax fds 4 ?_
       refine .fn rfl rfl .q1 ah (tg Iz (cI p).2 1000 (by omega)) (fun v G1 hq=>?_)
       obtain⟨rfl,rfl⟩:=hq
       simp only[ag,ae]
       refine .rd (.fieldAddr G5 rfl) ?_
       refine .dc (.store fF rfl rfl .p1 rfl aU) ?_
       rintro _ _ rfl
       refine .ax fds 4 ?_
       refine .fn rfl rfl .q1 ah (tg Iz (lm 1000 (cI p).2).2 1000 (by omega)) (fun v G1 hq=>?_)
       obtain⟨rfl,rfl⟩:=hq
       simp only[ag,ae]
       refine .rd (.fieldAddr G6 rfl) ?_
       refine .dc (.store fF rfl rfl .p1 rfl aU) ?_
       rintro _ _ rfl
       refine .nil ?_
       obtain⟨tm,IA⟩:∃tm,tm=(cI p).1:=⟨_,rfl⟩
       obtain⟨k,hk⟩:∃k,k=(lm 1000 (cI p).2).1:=⟨_,rfl⟩
       obtain⟨v,hv⟩:∃v,v=(lm 1000 (lm 1000 (cI p).2).2).1:=⟨_,rfl⟩
       refine .ca (an R6 (Rec.cells ⟨k,v,tm⟩) 99) (by rw[IA,hk,hv];rfl) ?_
       refine .ax fds 2 ?_
       refine .rd (.ld gG rfl .p3 rfl) ?_
       refine .rd (.j4 py fE rfl .p0 rfl) ?_
       refine .ef (.cr (cs:=Rec.cells ⟨k,v,tm⟩) Tryz.underlying39 iO (by decide) rfl rfl rfl (aB.of rfl)) ?_
       rintro _ _ ⟨bs,rfl,rfl⟩
       refine .ef (.append rfl rfl Tryz.underlying39 iO rfl (aB.of rfl) (by decide) (by decide) rfl rfl .p5 (n:=rs.length) (m:=1) (by rw[au Rec.bU]) (.dM (ys:=Rec.cells ⟨k,v,tm⟩) .p0 Tryz.underlying39 rfl (by decide)) (by omega)) ?_
       rintro _ _ ⟨ra,rc,rfl,rn,rfl⟩
       refine .rd (.fieldAddr qB rfl) ?_
       refine .dc (.store Au rfl rfl .p5 rfl aU) ?_
       rintro _ _ rfl
       refine .nil ?_
       refine .perm .iB ?_
       refine .ca (arr 99 3 ra rc ((rs++[(⟨k,v,tm⟩:Rec)]).flatMap Rec.cells)) (by rw[List.flatMap_append];simp) ?_
       refine .perm .iB ?_
       refine .ca (an b7 [.int .i64 x0,.int .i64 x1,.int .i64 x2,.int .i64 x3,.int .i64 x4,.slice ra (rs++[(⟨k,v,tm⟩:Rec)]).length rc] 41) (by rw[List.length_append];rfl) ?_
       refine .ax fds 3 ?_
       refine .rd (.sub rfl rfl (by omega) (by omega)) ?_
       refine .aH fds 2 ?_
       have LA:=((hI.2.2.cI (f:=fun a b=>(a,b))).lm 1000 (f:=fun a b=>(a,b))).lm 1000 (f:=fun a b=>(a,b))
       rw[←IA,←hk,←hv]at LA
       have Qw:=yS (r:=⟨k,v,tm⟩) LA
       exact(ih (rs++[(⟨k,v,tm⟩:Rec)],(lm 1000 (lm 1000 (cI p).2).2).2,ra,rc) ⟨hI.1.snoc (by omega) (by omega) ⟨by show i64 tm;rw[IA];exact qH _,by have:=wu (m:=1000) (cI p).2 (by decide);show k.length≤1000;rw[hk];omega,by have:=wu (m:=1000) (lm 1000 (cI p).2).2 (by decide);show v.length≤1000;rw[hv];omega⟩,Nat.le_trans (uF _ _) (Nat.le_trans (uF _ _) (Nat.le_trans (mW p) hI.2.1)),by rw[List.length_append];exact Qw⟩ (by show 65-(rs++[_]).length<_;rw[List.length_append];show 65-(rs.length+1)<65-rs.length;omega)).to (.cons rfl (.cons rfl (.cons rfl (.cons rfl (.cons (by show _=some (Value.int .i64 (n-((rs++[(⟨k,v,tm⟩:Rec)]).length:Int)));rw[List.length_append];exact congrArg (fun z=>some (Value.int .i64 z)) (by show n-(rs.length:Int)-1=n-((rs.length+1:Nat):Int);omega)) .nil))))) (.cons .p5 (.cons .p4 (.cons .p0 (.cons .p0 (.cons .p2 .nil)))))
      ·
       have R7:(mr [x0,x1,x2,x3,x4] rs).fits:=DR rfl NX hI.1.ok hm
       have hle:=hI.1.le
       refine .ax fds 4 ?_
       refine aZ.join 17 109 (!decide (p.2=true∧p.1=[]∧right (mr [x0,x1,x2,x3,x4] rs)=0)) ?_ ?_
       ·
        refine .go fds 3 ?_
        refine .rd (.ld gp rfl .p1 rfl) ?_
        refine .go fds 2 ?_
        refine .split (t:=98) rfl (fun EY=>?_) (fun EY=>?_)
        ·
         refine .go fds 11 ?_
         refine .nil ⟨rfl,?_,by repeat (first|exact Le.refl _|refine Le.skip rfl ?_)⟩
         exact congrArg (fun x=>some (Value.bool x)) (by simp[EY])
        ·
         refine .go fds 3 ?_
         refine .on (t:=98) rfl rfl ?_
         refine .rd (.ld aR rfl .p1 rfl) ?_
         refine .on (t:=98) rfl rfl ?_
         refine .rd (.Ds rfl rfl) ?_
         refine .go fds 2 ?_
         refine .split (t:=105) rfl (fun rH=>?_) (fun rH=>?_)
         ·
          simp at rH
          refine .go fds 4 ?_
          refine .nil ⟨rfl,?_,by repeat (first|exact Le.refl _|refine Le.skip rfl ?_)⟩
          exact congrArg (fun x=>some (Value.bool x)) (by simp[rH])
         ·
          simp at rH
          refine .on (t:=105) rfl rfl ?_
          refine .rd (.j4 bi aO rfl .p2 rfl) ?_
          refine .on (t:=105) rfl rfl ?_
          refine .fn rfl rfl .nil (af.arr .p3) (qX (mr [x0,x1,x2,x3,x4] rs) a' c' R7) (fun v G1 hq=>?_)
          obtain⟨rfl,rfl⟩:=hq
          simp only[ae]
          refine .go fds 2 ?_
          refine .nil ⟨rfl,?_,by repeat (first|exact Le.refl _|refine Le.skip rfl ?_)⟩
          exact congrArg (fun x=>some (Value.bool x)) (by simp[EY,rH])
       refine .nil ?_
       refine .my rfl (fun Ea=>?_) (fun Ea=>?_)
       ·
        have mC:fH t=none:=by
         refine BU hI.2.2 Ea (fun hg h1 h2=>?_) (fun hg h1 h2=>?_) (fun hg=>hH.head hI.2.2)
         ·
          have LS:(rs.length:Int)≤n:=by
           rcases hle with rfl|hle
           ·
            simp;omega
           ·
            exact hle
          have h0:¬0<n-(rs.length:Int):=fun h=>Kc ⟨h,hg,by omega⟩
          omega
         ·
          rcases hle with rfl|hle
          ·
           simp;omega
          ·
           exact hle
        refine .ax fds 2 ?_
        refine .rd (.build rfl (mR)) ?_
        refine .dc (.storeAll (vs:=[.int .i64 0,.int .i64 0,.int .i64 0,.int .i64 0,.int .i64 0,.slice none 0 0]) aO rfl rfl rfl .p0 rfl (aB.of rfl)) ?_
        rintro _ _ rfl
        refine .aH fds 3 ?_
        rw[uH (s:=s) (by omega) (by omega) (by omega) ht Da mC]
        refine .cq 99 3 none ?_
        refine .aG Tryz.func85 (.cons (.yy bi aO rfl .p1 rfl) (.t2 rfl rfl)) .JQ ?_
        exact⟨[_],⟨none,0,rfl,rfl⟩,rfl⟩
       ·
        have CT:1≤rs.length∧rs.length≤64:=qN Ea.2.2
        have R8:(rs.length:Int)=n:=by
         have h0:¬0<n-(rs.length:Int):=fun h=>Kc ⟨h,Ea.1,CT.2⟩
         rcases hle with rfl|hle
         ·
          simp at CT
         ·
          omega
        have O1:fH t=some (mr [x0,x1,x2,x3,x4] rs):=yV hI.2.2 R8 Ea.1 Ea.2.1 Ea.2.2 (by omega)
        refine .ax fds 3 ?_
        refine .rd (.j4 bi aO rfl .p2 rfl) ?_
        refine .rd (.move rfl) ?_
        refine .rd (.add rfl rfl (by omega) (by omega)) ?_
        refine .dc (.storeAll (vs:=aQ.cells (mr [x0,x1,x2,x3,x4] rs) a' c') aO rfl rfl rfl .p0 rfl (aB.of rfl)) ?_
        rintro _ _ rfl
        refine .aH fds 3 ?_
        rw[lF (s:=s) (by omega) (by omega) (by omega) ht Da O1]
        refine .aG Tryz.func85 (.cons (.yy bi aO rfl .p0 rfl) (.t2 rfl rfl)) .vI ?_
        exact⟨[_],⟨a',c',rfl,rfl⟩,rfl⟩
theorem vk{b:Nat}{x y:Int}(h:x=y):cZ [.pointer (some ⟨b,0,none⟩),.int .i64 x,.int .i64 0]=.tuple #[.pointer (some ⟨b,0,none⟩),.int .i64 y,.int .i64 0]:=by subst h;rfl
theorem KA{x:List UInt8}{a:Option Addr}{c:Nat}{b:aQ}{n k:Int}(h:aX x=(b,n,k)):Value.tuple #[.agg ((aX x).1.cells a c).toArray,.int .i64 (aX x).2.1,.int .i64 (aX x).2.2]=.tuple #[.agg (b.cells a c).toArray,.int .i64 n,.int .i64 k]:=by rw[h]
theorem zl(db mb:Nat)(d:Dk)(nm:Nm)(base:Int)(bs:List aQ)(rest:List UInt8)(hd:d.ok)(ph:eS nm)(hr:(d.get nm).isSome=true∨d.fs.length<256)(ht:(d.file nm).b=flat bs++rest)(EZ:rest=[]∨(aX rest).2.2≠0)(h0:0≤base)(h1:base≤1000000000)(hc:bS base bs)(hg:∀b∈bs,b.aT)(hl:bs.length≤4096):Cn Tryz.prog 110 [.pointer (some ⟨db,0,none⟩),aW nm,.int .i64 base] (fun _=>True) [an db (d.cells mb) 74,mp aW Fl.val mb d.fs] fun v G=>∃sb sm aa ac ia ic,v=.tuple #[.pointer (some ⟨sb,0,none⟩),.int .i64 (rest.length:Int),.int .i64 0]∧Ix sm bs.length∧bs.length≤ac∧G=[an db (((d.put nm ⟨flat bs,(flat bs).length⟩)).cells mb) 74,mp aW Fl.val mb ((d.put nm ⟨flat bs,(flat bs).length⟩)).fs]++[an sb ((Sx.mk sb nm base bs sm aa ac ia ic).cells db) 110,arr 112 4 aa ac (Sx.mk sb nm base bs sm aa ac ia ic).rows,arr 3 1 ia ic (sm.flatMap fI)]:=by
 refine .en Tryz.func110 fun R k=>?_
 have hu:=hd.used
 have hz:=hd.size
 have ym:=Dk.jE (d:=d) nm
 have hlen:(flat bs++rest).length≤16777216:=by rw[←ht];omega
 have Qx:(flat bs++rest).length=(flat bs).length+rest.length:=List.length_append
 have AF:(d.put nm ⟨(d.file nm).b++[],(d.file nm).safe⟩).ok:=Dk.DW hd nm
 refine .ax fds 11 ?_
 refine .al 18 (.bool false) rfl (aE (by omega)) ?_
 refine .go fds 3 ?_
 refine .al 21 (.bool false) rfl (aE (by omega)) ?_
 refine .ax fds 9 ?_
 refine .fn rfl rfl .cU ah (tE db mb d nm [] hd ph hr (by simp;omega)) (fun v G1 hq=>?_)
 obtain⟨rfl,rfl⟩:=hq
 simp only[ag,ae]
 refine .ax fds 14 ?_
 refine .rd (.build rfl (G7 _ _ _)) ?_
 refine .ef (.box (l:=[.pointer (some ⟨db,0,none⟩),aW nm,.int .i64 base,.slice none 0 0,.slice none 0 0]) rfl rfl (aB.of rfl)) ?_
 rintro _ _ ⟨oU,rfl,rfl⟩
 refine .ax fds 6 ?_
 refine .fn rfl rfl .px ah (jN db mb (d.put nm ⟨(d.file nm).b++[],(d.file nm).safe⟩) nm) (fun v G1 hq=>?_)
 obtain⟨rfl,rfl⟩:=hq
 simp only[ag,ae]
 refine .al 37 (.tuple #[.string (str (flat bs++rest)),.int .i64 0]) rfl (by rw[Dk.aV,if_pos (Dk.cB _ _ _),ht,List.append_nil]) ?_
 refine .aH fds 10 ?_
 refine .perm .wi ?_
 refine .ca (an oU ((Sx.mk oU nm base (bs.take 0) [] none 0 none 0).cells db) 110) (rfl) ?_
 refine .cq 112 4 none ?_
 refine .cq 3 1 none ?_
 refine .go fds 2 ?_
 refine .loop (σ:=Nat×List Nat×Option Addr×Nat×Option Addr×Nat) (fun⟨i,sm,aa,ac,ia,ic⟩=>i≤bs.length∧Ix sm i∧i≤ac) (fun⟨i,sm,aa,ac,ia,ic⟩=>bs.length-i) (fun⟨i,sm,aa,ac,ia,ic⟩=>[(0,.pointer (some ⟨db,0,none⟩)),(1,aW nm),(10,.pointer (some ⟨oU,0,none⟩)),(11,.string (str (flat bs++rest))),(13,.int .i64 ((flat (bs.take i)).length:Int))]) (fun⟨i,sm,aa,ac,ia,ic⟩=>[an oU ((Sx.mk oU nm base (bs.take i) sm aa ac ia ic).cells db) 110,arr 112 4 aa ac (Sx.mk oU nm base (bs.take i) sm aa ac ia ic).rows,arr 3 1 ia ic (sm.flatMap fI),an db ((d.put nm ⟨(d.file nm).b++[],(d.file nm).safe⟩).cells mb) 74,mp aW Fl.val mb (d.put nm ⟨(d.file nm).b++[],(d.file nm).safe⟩).fs,R]) (0,[],none,0,none,0) ⟨Nat.zero_le _,Ix.nil,Nat.le_refl _⟩ .r5 (.cons .p2 (.cons .p1 (.cons .p0 (.cons .p0 (.cons .p0 (.cons .p0 .nil)))))) (fun s' hI ih=>?_)
 obtain⟨i,sm,aa,ac,ia,ic⟩:=s'
 dsimp only at hI ih⊢
 obtain⟨jB,iJ,qT⟩:=hI
 have OX:(flat (bs.take i)).length≤(flat bs).length:=pK i
 refine .ax fds 5 ?_
 refine .rd (.ey rfl rfl Tryz.underlying9 rfl) ?_
 refine .go fds 2 ?_
 refine .split (t:=44) rfl (fun g9=>?_) (fun g9=>?_)
 ·
  replace g9:=of_decide_eq_true g9
  refine .go fds 3 ?_
  refine .on (t:=44) rfl rfl ?_
  refine .rd (.ld dz rfl .p0 rfl) ?_
  refine .on (t:=44) rfl rfl ?_
  refine .rd (.bP rfl rfl Tryz.underlying108 rfl) ?_
  refine .aH fds 3 ?_
  refine .aM rfl (fun c9=>?_) (fun c9=>?_)
  ·
   refine .ax fds 4 ?_
   rcases Nat.lt_or_ge i bs.length with hi|hi
   ·
    obtain⟨b,hb⟩:∃b,bs[i]?=some b:=⟨_,List.getElem?_eq_getElem hi⟩
    have yo:=hg b (List.mem_of_getElem? hb)
    have uV:=ir (rest:=rest) hb
    have oA:=(hc.at hb).1
    have Jn:=HG (b:=oU) (nm:=nm) (aa:=aa) (ia:=ia) (ic:=ic) h0 h1 hc hg hl jB iJ qT
    have yg:=yo.uJ
    have mi:=yo.base
    have gE:=yo.en
    have kO:=yo.uI
    have vJ:=yo.lt
    have C2:(flat (bs.take (i+1))).length=(flat (bs.take i)).length+(enc b).length:=by rw[List.take_add_one,hb,kB,List.length_append];simp[flat]
    refine .go fds 2 ?_
    refine .rd (.cH (l:=(flat bs++rest)) (a:=(flat (bs.take i)).length) (h:=(flat bs++rest).length) Tryz.underlying9 rfl ⟨_,rfl⟩ rfl (by omega) (by omega)) ?_
    refine .al 55 (.string (str (enc b++(flat (bs.drop (i+1))++rest)))) rfl (by rw[List.take_of_length_le (by rw[List.length_drop];omega),uV]) ?_
    refine .fn rfl rfl .nil ah (gZ (enc b++(flat (bs.drop (i+1))++rest)) (by rw[←uV,List.length_drop];omega)) (fun v G1 hq=>?_)
    obtain⟨ba,bc,rfl,rfl⟩:=hq
    simp only[ag,ae]
    refine .al 56 (.tuple #[.agg (b.cells ba bc).toArray,.int .i64 ((enc b).length:Int),.int .i64 0]) rfl (KA (BZ yo _)) ?_
    refine .go fds 4 ?_
    refine .ef (.alloc di rfl (aB.of rfl)) ?_
    rintro _ _ ⟨J9,rfl,rfl⟩
    refine .dc (.storeAll aO rfl rfl (by rfl) .p0 rfl (aB.of rfl)) ?_
    rintro _ _ rfl
    refine .aH fds 3 ?_
    refine .ca (an J9 (b.cells ba bc) 41) (rfl) ?_
    refine .go fds 2 ?_
    refine .dr [4,10] [an J9 (b.cells ba bc) 41] ?_
    refine .aq fds [0] ?_
    refine .aq fds [1] ?_
    refine .al 61 (.bool false) rfl (congrArg Value.bool (by rfl)) ?_
    refine .aq fds [2] ?_
    refine .aq fds [3] ?_
    refine .vR 4 (t:=62) rfl rfl rfl rfl (by kernel_rfl) (by kernel_rfl) (by kernel_rfl) (.ld ak rfl .p0 rfl) .q0 ?_
    refine .aq fds [5] ?_
    refine .GD 6 (t:=62) (by kernel_rfl) rfl rfl rfl (.fn rfl rfl .nil ((af.an .p2).and ((af.arr .p3).and (af.arr .p4))) (bZ db (Sx.mk oU nm base (bs.take i) sm aa ac ia ic) Jn)) ?_
    rintro v _ ⟨G1,hq,rfl⟩
    obtain⟨rfl,rfl⟩:=hq
    simp only[ae]
    refine⟨.inr ⟨_,.q0⟩,?_⟩
    refine .aq fds [7] ?_
    refine .al 67 (.bool false) rfl (congrArg Value.bool (by rw[decide_eq_true (show b.base=Sx.next (Sx.mk oU nm base (bs.take i) sm aa ac ia ic)from oA)];rfl)) ?_
    refine .aq fds [8] ?_
    refine .aq fds [9] ?_
    refine .vR 10 (t:=69) rfl rfl rfl rfl (by kernel_rfl) (by kernel_rfl) (by kernel_rfl) (.j4 bi aO rfl .p0 rfl) .q0 ?_
    refine .GD 11 (t:=69) (by kernel_rfl) rfl rfl rfl (.fn rfl rfl .nil ah (vi b ba bc (by omega) (by omega) (by omega))) ?_
    rintro v _ ⟨G1,hq,rfl⟩
    obtain⟨rfl,rfl⟩:=hq
    simp only[ae]
    refine ay ?_
    refine .aq fds [12] ?_
    refine .al 72 (.bool false) rfl (aE (by omega)) ?_
    refine .aq fds [13] ?_
    refine .dn ?_
    refine .go fds 3 ?_
    refine .dr [2,3] [an J9 (b.cells ba bc) 41] ?_
    refine .aq fds [0] ?_
    refine .aq fds [1] ?_
    refine .re 2 rfl (.ld ak rfl .p0 rfl) .q0 ?_
    refine .re 3 rfl (.j4 bi aO rfl .p0 rfl) .q0 ?_
    refine .aq fds [5] ?_
    refine .aq fds [6] ?_
    refine .aq fds [7] ?_
    refine .rq 8 rfl (.add rfl rfl (by omega) (by omega)) ?_
    refine .eg 4 rfl (.fn rfl rfl .nil ah (vi b ba bc (by omega) (by omega) (by omega))) ?_
    rintro v _ ⟨G1,hq,rfl⟩
    obtain⟨rfl,rfl⟩:=hq
    simp only[ae]
    refine⟨.inr ⟨_,.q0⟩,?_⟩
    refine .rq 9 rfl (.build rfl (Av _ _ _ _)) ?_
    refine .al 83 (.agg (pg (Sx.mk oU nm base (bs.take i) sm aa ac ia ic) b).cells.toArray) rfl (rfl) ?_
    refine .eg 10 rfl (.fn rfl rfl (.cons .p2 (.cons .p2 (.cons .p2 .nil))) ah (EW db (Sx.mk oU nm base (bs.take i) sm aa ac ia ic) b Jn yo oA (by show(bs.take i).length<4096;rw[List.length_take];omega))) ?_
    rintro v _ ⟨G1,hq,rfl⟩
    obtain⟨O2,NY,NZ,O3,O4,zm,zn,rfl⟩:=hq
    simp only[ag,ae]
    refine ay ?_
    refine .dn ?_
    have cO:(bs.take i).length=i:=by rw[List.length_take];omega
    refine .ca (an oU ((Sx.mk oU nm base (bs.take (i+1)) O2 NY NZ O3 O4).cells db) 110) (by rw[←nX hb]) ?_
    refine .perm .kS ?_
    refine .ca (arr 112 4 NY NZ (Sx.mk oU nm base (bs.take (i+1)) O2 NY NZ O3 O4).rows) (by rw[←nX hb]) ?_
    refine .ax fds 3 ?_
    refine .rd (.add rfl rfl (by omega) (by omega)) ?_
    refine .al 87 (.int .i64 (((flat (bs.take (i+1))).length:Nat))) rfl (congrArg (Value.int .i64) (by omega)) ?_
    refine .aH fds 3 ?_
    exact(ih (i+1,O2,NY,NZ,O3,O4) ⟨by omega,by rw[←cO];exact zm,by rw[←cO];exact zn⟩ (by show bs.length-(i+1)<bs.length-i;omega)).to .r5 (.cons .p1 (.cons .p0 (.cons .p0 (.cons .p2 (.cons .p2 (.cons .p2 .nil))))))
   ·
    have UK:i=bs.length:=by omega
    have Qy:bs.take i=bs:=List.take_of_length_le (by omega)
    have uV:(flat bs++rest).drop (flat (bs.take i)).length=rest:=by rw[Qy,List.drop_left]
    have O5:(aX rest).2.2≠0:=by rcases EZ with h|h;exact absurd g9 (by rw[Qy,h];simp);exact h
    refine .go fds 2 ?_
    refine .rd (.cH (l:=(flat bs++rest)) (a:=(flat (bs.take i)).length) (h:=(flat bs++rest).length) Tryz.underlying9 rfl ⟨_,rfl⟩ rfl (by omega) (by omega)) ?_
    refine .al 55 (.string (str (rest))) rfl (by rw[List.take_of_length_le (by rw[List.length_drop];omega),uV]) ?_
    refine .fn rfl rfl .nil ah (gZ rest (by rw[←uV,List.length_drop];omega)) (fun v G1 hq=>?_)
    obtain⟨ba,bc,rfl,rfl⟩:=hq
    simp only[ag,ae]
    refine .go fds 4 ?_
    refine .ef (.alloc di rfl (aB.of rfl)) ?_
    rintro _ _ ⟨J9,rfl,rfl⟩
    refine .dc (.storeAll aO rfl rfl (by rfl) .p0 rfl (aB.of rfl)) ?_
    rintro _ _ rfl
    refine .aH fds 5 ?_
    refine .dr [4,10] [] ?_
    refine .aq fds [0] ?_
    refine .aq fds [1] ?_
    refine .al 61 (.bool true) rfl (congrArg Value.bool (by rw[decide_eq_false O5];rfl)) ?_
    refine .aq fds [2,3,4,5,6,7] ?_
    refine .aq fds [8] ?_
    refine .aq fds [9,10,11,12] ?_
    refine .aq fds [13] ?_
    refine .dn ?_
    refine .go fds 3 ?_
    have cy:bs.take i=bs:=by
     refine List.take_of_length_le ?_
     rcases Nat.lt_or_ge i bs.length with h|h
     ·
      exfalso
      obtain⟨b,hb⟩:∃b,bs[i]?=some b:=⟨_,List.getElem?_eq_getElem h⟩
      have h2:=(hg b (List.mem_of_getElem? hb)).mY
      have h3:=congrArg List.length (ir (rest:=rest) hb)
      simp only[List.length_drop,List.length_append]at h3
      have h5:(bs.take i).length=i:=by rw[List.length_take];omega
      simp only[List.length_append]at*
      omega
     ·
      exact h
    have zm:Ix sm bs.length:=by have:=congrArg List.length cy;rw[List.length_take,Nat.min_eq_left jB]at this;rw[←this];exact iJ
    have zn:bs.length≤ac:=by have:=congrArg List.length cy;rw[List.length_take,Nat.min_eq_left jB]at this;rw[←this];exact qT
    refine .al 13 (.int .i64 ((flat bs).length:Int)) rfl (by rw[cy]) ?_
    refine .perm .kT ?_
    refine .ca (an oU ((Sx.mk oU nm base bs sm aa ac ia ic).cells db) 110) (by rw[cy]) ?_
    refine .perm (.cons .p3 (.cons .p0 (.cons .p0 (.cons .p0 (.cons .p0 (.cons .p0 (.cons .p0 (.cons .p0 .nil)))))))) ?_
    refine .ca (arr 112 4 aa ac (Sx.mk oU nm base bs sm aa ac ia ic).rows) (by rw[cy]) ?_
    refine .ax fds 4 ?_
    refine .fn rfl rfl (.cons .p5 (.cons .p5 .nil)) ah (vh db mb (d.put nm ⟨(d.file nm).b++[],(d.file nm).safe⟩) nm (flat bs).length AF (Dk.cB _ _ _) (by rw[Dk.aV];show _≤((d.file nm).b++[]).length;rw[List.append_nil,ht];omega)) (fun v G1 hq=>?_)
    obtain⟨rfl,rfl⟩:=hq
    simp only[ag,ae]
    refine .ca (an db ((d.put nm ⟨flat bs,min (d.file nm).safe (flat bs).length⟩).cells mb) 74) (by rw[Dk.eX,Dk.aV];show _=_;simp only[List.append_nil,ht,List.take_left]) ?_
    refine .perm .kS ?_
    refine .ca (mp aW Fl.val mb (d.put nm ⟨flat bs,min (d.file nm).safe (flat bs).length⟩).fs) (by rw[Dk.eX,Dk.aV];show _=_;simp only[List.append_nil,ht,List.take_left]) ?_
    refine .aH fds 2 ?_
    have DQ:(d.put nm ⟨flat bs,min (d.file nm).safe (flat bs).length⟩).ok:=Dk.dN hd (by show _+(flat bs).length≤_;have:=congrArg List.length ht;omega) (by show min _ _≤(flat bs).length;omega)
    refine .ax fds 3 ?_
    refine .fn rfl rfl .Gg ah (pV db mb (d.put nm ⟨flat bs,min (d.file nm).safe (flat bs).length⟩) nm DQ (Dk.cB _ _ _)) (fun v G1 hq=>?_)
    obtain⟨rfl,rfl⟩:=hq
    simp only[ag,ae]
    refine .ca (an db ((d.put nm ⟨flat bs,(flat bs).length⟩).cells mb) 74) (by rw[Dk.eX,Dk.aV]) ?_
    refine .perm .kS ?_
    refine .ca (mp aW Fl.val mb (d.put nm ⟨flat bs,(flat bs).length⟩).fs) (by rw[Dk.eX,Dk.aV]) ?_
    refine .ax fds 5 ?_
    refine .rd (.ey rfl rfl Tryz.underlying9 rfl) ?_
    refine .rd (.move rfl) ?_
    refine .rd (.sub rfl rfl (by omega) (by omega)) ?_
    refine .aH fds 4 ?_
    refine .aG Tryz.func110 (.t3 rfl rfl rfl) (.cons .p1 (.cons .p0 (.cons .p1 (.cons .p0 (.cons .p2 (.cons .p2 .nil)))))) ?_
    exact⟨[_,_,_,_,_],⟨oU,sm,aa,ac,ia,ic,vk (by omega),zm,zn,rfl⟩,rfl⟩
  ·
   refine .go fds 2 ?_
   have cy:bs.take i=bs:=by
    refine List.take_of_length_le ?_
    rcases Nat.lt_or_ge i bs.length with h|h
    ·
     exfalso
     obtain⟨b,hb⟩:∃b,bs[i]?=some b:=⟨_,List.getElem?_eq_getElem h⟩
     have h2:=(hg b (List.mem_of_getElem? hb)).mY
     have h3:=congrArg List.length (ir (rest:=rest) hb)
     simp only[List.length_drop,List.length_append]at h3
     have h5:(bs.take i).length=i:=by rw[List.length_take];omega
     simp only[List.length_append]at*
     omega
    ·
     exact h
   have zm:Ix sm bs.length:=by have:=congrArg List.length cy;rw[List.length_take,Nat.min_eq_left jB]at this;rw[←this];exact iJ
   have zn:bs.length≤ac:=by have:=congrArg List.length cy;rw[List.length_take,Nat.min_eq_left jB]at this;rw[←this];exact qT
   refine .al 13 (.int .i64 ((flat bs).length:Int)) rfl (by rw[cy]) ?_
   refine .ca (an oU ((Sx.mk oU nm base bs sm aa ac ia ic).cells db) 110) (by rw[cy]) ?_
   refine .perm .eT ?_
   refine .ca (arr 112 4 aa ac (Sx.mk oU nm base bs sm aa ac ia ic).rows) (by rw[cy]) ?_
   refine .ax fds 4 ?_
   refine .fn rfl rfl .vI ah (vh db mb (d.put nm ⟨(d.file nm).b++[],(d.file nm).safe⟩) nm (flat bs).length AF (Dk.cB _ _ _) (by rw[Dk.aV];show _≤((d.file nm).b++[]).length;rw[List.append_nil,ht];omega)) (fun v G1 hq=>?_)
   obtain⟨rfl,rfl⟩:=hq
   simp only[ag,ae]
   refine .ca (an db ((d.put nm ⟨flat bs,min (d.file nm).safe (flat bs).length⟩).cells mb) 74) (by rw[Dk.eX,Dk.aV];show _=_;simp only[List.append_nil,ht,List.take_left]) ?_
   refine .perm .eT ?_
   refine .ca (mp aW Fl.val mb (d.put nm ⟨flat bs,min (d.file nm).safe (flat bs).length⟩).fs) (by rw[Dk.eX,Dk.aV];show _=_;simp only[List.append_nil,ht,List.take_left]) ?_
   refine .aH fds 2 ?_
   have DQ:(d.put nm ⟨flat bs,min (d.file nm).safe (flat bs).length⟩).ok:=Dk.dN hd (by show _+(flat bs).length≤_;have:=congrArg List.length ht;omega) (by show min _ _≤(flat bs).length;omega)
   refine .ax fds 3 ?_
   refine .fn rfl rfl .Gg ah (pV db mb (d.put nm ⟨flat bs,min (d.file nm).safe (flat bs).length⟩) nm DQ (Dk.cB _ _ _)) (fun v G1 hq=>?_)
   obtain⟨rfl,rfl⟩:=hq
   simp only[ag,ae]
   refine .ca (an db ((d.put nm ⟨flat bs,(flat bs).length⟩).cells mb) 74) (by rw[Dk.eX,Dk.aV]) ?_
   refine .perm .eT ?_
   refine .ca (mp aW Fl.val mb (d.put nm ⟨flat bs,(flat bs).length⟩).fs) (by rw[Dk.eX,Dk.aV]) ?_
   refine .ax fds 5 ?_
   refine .rd (.ey rfl rfl Tryz.underlying9 rfl) ?_
   refine .rd (.move rfl) ?_
   refine .rd (.sub rfl rfl (by omega) (by omega)) ?_
   refine .aH fds 4 ?_
   refine .aG Tryz.func110 (.t3 rfl rfl rfl) (.cons .p1 (.cons .p0 (.cons .p1 (.cons .p0 (.cons .p0 (.cons .p0 .nil)))))) ?_
   exact⟨[_,_,_,_,_],⟨oU,sm,aa,ac,ia,ic,vk (by omega),zm,zn,rfl⟩,rfl⟩
 ·
  replace g9:=of_decide_eq_false g9
  refine .aH fds 11 ?_
  have cy:bs.take i=bs:=by
   refine List.take_of_length_le ?_
   rcases Nat.lt_or_ge i bs.length with h|h
   ·
    exfalso
    obtain⟨b,hb⟩:∃b,bs[i]?=some b:=⟨_,List.getElem?_eq_getElem h⟩
    have h2:=(hg b (List.mem_of_getElem? hb)).mY
    have h3:=congrArg List.length (ir (rest:=rest) hb)
    simp only[List.length_drop,List.length_append]at h3
    have h5:(bs.take i).length=i:=by rw[List.length_take];omega
    simp only[List.length_append]at*
    omega
   ·
    exact h
  have zm:Ix sm bs.length:=by have:=congrArg List.length cy;rw[List.length_take,Nat.min_eq_left jB]at this;rw[←this];exact iJ
  have zn:bs.length≤ac:=by have:=congrArg List.length cy;rw[List.length_take,Nat.min_eq_left jB]at this;rw[←this];exact qT
  refine .al 13 (.int .i64 ((flat bs).length:Int)) rfl (by rw[cy]) ?_
  refine .ca (an oU ((Sx.mk oU nm base bs sm aa ac ia ic).cells db) 110) (by rw[cy]) ?_
  refine .perm .eT ?_
  refine .ca (arr 112 4 aa ac (Sx.mk oU nm base bs sm aa ac ia ic).rows) (by rw[cy]) ?_
  refine .ax fds 4 ?_
  refine .fn rfl rfl .vI ah (vh db mb (d.put nm ⟨(d.file nm).b++[],(d.file nm).safe⟩) nm (flat bs).length AF (Dk.cB _ _ _) (by rw[Dk.aV];show _≤((d.file nm).b++[]).length;rw[List.append_nil,ht];omega)) (fun v G1 hq=>?_)
  obtain⟨rfl,rfl⟩:=hq
  simp only[ag,ae]
  refine .ca (an db ((d.put nm ⟨flat bs,min (d.file nm).safe (flat bs).length⟩).cells mb) 74) (by rw[Dk.eX,Dk.aV];show _=_;simp only[List.append_nil,ht,List.take_left]) ?_
  refine .perm .eT ?_
  refine .ca (mp aW Fl.val mb (d.put nm ⟨flat bs,min (d.file nm).safe (flat bs).length⟩).fs) (by rw[Dk.eX,Dk.aV];show _=_;simp only[List.append_nil,ht,List.take_left]) ?_
  refine .aH fds 2 ?_
  have DQ:(d.put nm ⟨flat bs,min (d.file nm).safe (flat bs).length⟩).ok:=Dk.dN hd (by show _+(flat bs).length≤_;have:=congrArg List.length ht;omega) (by show min _ _≤(flat bs).length;omega)
  refine .ax fds 3 ?_
  refine .fn rfl rfl .Gg ah (pV db mb (d.put nm ⟨flat bs,min (d.file nm).safe (flat bs).length⟩) nm DQ (Dk.cB _ _ _)) (fun v G1 hq=>?_)
  obtain⟨rfl,rfl⟩:=hq
  simp only[ag,ae]
  refine .ca (an db ((d.put nm ⟨flat bs,(flat bs).length⟩).cells mb) 74) (by rw[Dk.eX,Dk.aV]) ?_
  refine .perm .eT ?_
  refine .ca (mp aW Fl.val mb (d.put nm ⟨flat bs,(flat bs).length⟩).fs) (by rw[Dk.eX,Dk.aV]) ?_
  refine .ax fds 5 ?_
  refine .rd (.ey rfl rfl Tryz.underlying9 rfl) ?_
  refine .rd (.move rfl) ?_
  refine .rd (.sub rfl rfl (by omega) (by omega)) ?_
  refine .aH fds 4 ?_
  refine .aG Tryz.func110 (.t3 rfl rfl rfl) (.cons .p1 (.cons .p0 (.cons .p1 (.cons .p0 (.cons .p0 (.cons .p0 .nil)))))) ?_
  exact⟨[_,_,_,_,_],⟨oU,sm,aa,ac,ia,ic,vk (by omega),zm,zn,rfl⟩,rfl⟩
def mt(z w:Nat):List UInt8:=Lib.decDigits z++[32]++Lib.decDigits w++[10]
theorem zo{z w:Nat}(hz:z≤1000000000)(hw:w≤1000000000):(mt z w).length≤22:=by
 have h1:=gX (u:=z) (by omega)
 have h2:=gX (u:=w) (by omega)
 unfold mt;simp only[List.length_append,List.length_cons,List.length_nil];omega
def yp(b:Nat):List Value:=[.pointer (some ⟨b,0,none⟩)]
theorem IB(b:Nat):(yp b).length=1:=rfl
theorem E0(bl:List Nat)(b:Nat):(bl++[b]).flatMap yp=bl.flatMap yp++[.pointer (some ⟨b,0,none⟩)]:=by rw[List.flatMap_append];simp[yp]
theorem IC(lb db mb:Nat)(d:Dk)(p:Option Addr)(pre:Nm)(most start aJ:Int)(la:Option Addr)(n lc:Nat)(z w:Nat)(hz:z≤1000000000)(hw:w≤1000000000)(hd:d.ok)(hp:oe pre)(hr:(d.get (aP pre)).isSome=true∨d.fs.length<256)(hs:d.used+22≤d.size):Cn Tryz.prog 90 [.pointer (some ⟨lb,0,none⟩),.int .i64 (z:Int),.int .i64 (w:Int)] LV [an lb (a6 p db pre most start aJ la n lc) 57,an db (d.cells mb) 74,mp aW Fl.val mb d.fs] fun v G=>v=.int .i64 0∧G=[an lb (a6 p db pre most (z:Int) (w:Int) la n lc) 57,an db ((d.put (aP pre) ⟨mt z w,(mt z w).length⟩).cells mb) 74,mp aW Fl.val mb (d.put (aP pre) ⟨mt z w,(mt z w).length⟩).fs]:=by
 refine .en Tryz.func90 fun R k=>?_
 have h1:=gX (u:=z) (by omega)
 have h2:=gX (u:=w) (by omega)
 have h3:=hp.len
 have h4:=zo hz hw
 refine .go fds 5 ?_
 refine .dr [3,7] [an lb (a6 p db pre most start aJ la n lc) 57] ?_
 refine .aq fds [0] ?_
 refine .aq fds [1] ?_
 refine .aq fds [2] ?_
 refine .re 3 rfl (.ld dh rfl .p0 rfl) .q0 ?_
 refine .aq fds [4] ?_
 refine .aq fds [5] ?_
 refine .aq fds [6] ?_
 refine .re 7 rfl (.ld aR rfl .p0 rfl) .q0 ?_
 refine .rq 8 rfl (.dZ (l:=pre) (m:=[46,109,101,116,97]) rfl rfl (by(repeat rw[List.length_append]);simp only[List.length_cons,List.length_nil];omega)) ?_
 refine .al 16 (.string (str (aP pre))) rfl (rfl) ?_
 refine .aq fds [9] ?_
 refine .aq fds [12] ?_
 refine .eg 10 rfl (.fn rfl rfl .nil ((af.pick .p3 (k.mono fun _ h=>h))) (vf z (by omega))) ?_
 rintro v _ ⟨G1,hq,rfl⟩
 obtain⟨rfl,rfl⟩:=hq
 simp only[ae]
 refine⟨.inr ⟨_,.q0⟩,?_⟩
 refine .rq 11 rfl (.dZ (l:=Lib.decDigits z) (m:=[32]) rfl rfl (by(repeat rw[List.length_append]);simp only[List.length_cons,List.length_nil];omega)) ?_
 refine .eg 13 rfl (.fn rfl rfl .nil ((af.pick .p3 (k.mono fun _ h=>h))) (vf w (by omega))) ?_
 rintro v _ ⟨G1,hq,rfl⟩
 obtain⟨rfl,rfl⟩:=hq
 simp only[ae]
 refine⟨.inr ⟨_,.q0⟩,?_⟩
 refine .rq 14 rfl (.dZ (l:=Lib.decDigits z++[32]) (m:=Lib.decDigits w) rfl rfl (by(repeat rw[List.length_append]);simp only[List.length_cons,List.length_nil];omega)) ?_
 refine .rq 15 rfl (.dZ (l:=Lib.decDigits z++[32]++Lib.decDigits w) (m:=[10]) rfl rfl (by(repeat rw[List.length_append]);simp only[List.length_cons,List.length_nil];omega)) ?_
 refine .al 23 (.string (str (mt z w))) rfl (rfl) ?_
 refine .eg 16 rfl (.fn rfl rfl .px ah (lZ db mb d (aP pre) (mt z w) hd (u6 hp) hr (by omega))) ?_
 rintro v _ ⟨G1,hq,rfl⟩
 obtain⟨rfl,rfl⟩:=hq
 simp only[ag,ae]
 refine ay ?_
 refine .aq fds [17] ?_
 refine .dn ?_
 refine .ax fds 14 ?_
 refine .dc (.store cc rfl rfl .p2 rfl aU) ?_
 rintro _ _ rfl
 refine .go fds 2 ?_
 refine .dc (.store cc rfl rfl .p0 rfl aU) ?_
 rintro _ _ rfl
 refine .aH fds 2 ?_
 refine .ca (an lb (a6 p db pre most (z:Int) (w:Int) la n lc) 57) (rfl) ?_
 refine .go fds 4 ?_
 refine .aG Tryz.func90 (.t1 rfl) .fw ?_
 exact⟨[_,_,_],⟨rfl,rfl⟩,rfl⟩
theorem vl(lb db mb:Nat)(d:Dk)(p:Option Addr)(pre:Nm)(most start aJ:Int)(la:Option Addr)(lc:Nat)(bl:List Nat)(base:Nat)(bs:List aQ)(rest:List UInt8)(hd:d.ok)(hp:oe pre)(hb:base≤1000000000)(hr:(d.get (nameOf pre base)).isSome=true∨d.fs.length<256)(ht:(d.file (nameOf pre base)).b=flat bs++rest)(EZ:rest=[]∨(aX rest).2.2≠0)(hc:bS (base:Int) bs)(hg:∀b∈bs,b.aT)(hl:bs.length≤4096)(yl:bl.length≤1000000):Cn Tryz.prog 67 [.pointer (some ⟨lb,0,none⟩),.int .i64 (base:Int)] LV [an lb (a6 p db pre most start aJ la bl.length lc) 57,arr 54 1 la lc (bl.flatMap yp),an db (d.cells mb) 74,mp aW Fl.val mb d.fs] fun v G=>∃sb sm aa ac ia ic qa qc,v=.int .i64 0∧Ix sm bs.length∧bs.length≤ac∧G=[an lb (a6 (some ⟨sb,0,none⟩) db pre most start aJ qa (bl++[sb]).length qc) 57,arr 54 1 qa qc ((bl++[sb]).flatMap yp),an db ((d.put (nameOf pre base) ⟨flat bs,(flat bs).length⟩).cells mb) 74,mp aW Fl.val mb (d.put (nameOf pre base) ⟨flat bs,(flat bs).length⟩).fs,an sb ((Sx.mk sb (nameOf pre base) (base:Int) bs sm aa ac ia ic).cells db) 110,arr 112 4 aa ac (Sx.mk sb (nameOf pre base) (base:Int) bs sm aa ac ia ic).rows,arr 3 1 ia ic (sm.flatMap fI)]:=by
 refine .en Tryz.func67 fun R k=>?_
 have h3:=hp.len
 refine .go fds 5 ?_
 refine .dr [3] [an lb (a6 p db pre most start aJ la bl.length lc) 57] ?_
 refine .aq fds [0] ?_
 refine .aq fds [1] ?_
 refine .aq fds [2] ?_
 refine .re 3 rfl (.ld dh rfl .p0 rfl) .q0 ?_
 refine .aq fds [4] ?_
 refine .aq fds [5] ?_
 refine .aq fds [7] ?_
 refine .eg 6 rfl (.fn rfl rfl .nil ((af.an .p0).and (af.pick .p4 k)) (pW lb db p pre most start aJ la bl.length lc base hb h3)) ?_
 rintro v _ ⟨G1,hq,rfl⟩
 obtain⟨rfl,rfl⟩:=hq
 simp only[ae]
 refine⟨.inr ⟨_,.q0⟩,?_⟩
 refine .eg 8 rfl (.fn rfl rfl .Jj ah (zl db mb d (nameOf pre base) (base:Int) bs rest hd (jM hp (by omega)) hr ht EZ (by omega) (by omega) hc hg hl)) ?_
 rintro v _ ⟨G1,hq,rfl⟩
 obtain⟨sb,sm,aa,ac,ia,ic,rfl,iJ,qT,rfl⟩:=hq
 simp only[ag,ae]
 refine ay ?_
 refine .aq fds [9] ?_
 refine .aq fds [10] ?_
 refine .aq fds [11] ?_
 refine .aq fds [12] ?_
 refine .aq fds [13] ?_
 refine .aq fds [14] ?_
 refine .aq fds [15] ?_
 refine .dn ?_
 refine .ax fds 13 ?_
 refine .rd (.ld cV rfl .p5 rfl) ?_
 refine .rd (.move rfl) ?_
 refine .ef (.cr (cs:=[.pointer (some ⟨sb,0,none⟩)]) Tryz.underlying55 Aw (by decide) rfl rfl rfl (aB.of rfl)) ?_
 rintro _ _ ⟨bs,rfl,rfl⟩
 refine .ef (.append rfl rfl Tryz.underlying55 Aw rfl (aB.of rfl) (by decide) (by decide) rfl rfl .p7 (n:=bl.length) (m:=1) (au IB _) (.dM .p0 Tryz.underlying55 rfl (by decide)) (by omega)) ?_
 rintro _ _ ⟨qa,qc,rfl,qn,rfl⟩
 refine .go fds 2 ?_
 refine .dc (.store mS rfl rfl .p7 rfl aU) ?_
 rintro _ _ rfl
 refine .ax fds 6 ?_
 refine .dc (.store dQ rfl rfl .p0 rfl aU) ?_
 rintro _ _ rfl
 refine .aH fds 2 ?_
 refine .ca (an lb (a6 (some ⟨sb,0,none⟩) db pre most start aJ qa (bl++[sb]).length qc) 57) (by rw[List.length_append];rfl) ?_
 refine .perm (.cons .p1 (.cons .p0 (.cons .p0 (.cons .p0 (.cons .p0 (.cons .p0 (.cons .p0 (.cons .p0 (.cons .p0 .nil))))))))) ?_
 refine .ca (arr 54 1 qa qc ((bl++[sb]).flatMap yp)) (by rw[E0]) ?_
 refine .go fds 4 ?_
 refine .aG Tryz.func67 (.t1 rfl) (.cons .p1 (.cons .p0 (.cons .p1 (.cons .p1 (.cons .p1 (.cons .p1 (.cons .p1 (.cons .p1 .nil)))))))) ?_
 exact⟨[_,_,_,_,_,_,_],⟨sb,sm,aa,ac,ia,ic,qa,qc,rfl,iJ,qT,rfl⟩,rfl⟩
def mv(l:Lx)(d:Dk):Prop:=∀u,u≤1000000000→(d.get (nameOf l.pre u)).isSome=true→∃s∈l.ar,s.base.toNat=u
def Full(l:Lx)(d:Dk):Prop:=∀s∈l.bX,(d.file s.nm).safe=(d.file s.nm).b.length
structure jq(l:Lx)(d:Dk)(off w:Nat)(l':Lx)(d':Dk):Prop where
 ok:l'.ok d'
 cS:d'.ok
 lb:l'.lb=l.lb
 pre:l'.pre=l.pre
 most:l'.most=l.most
 start:l'.start=(off:Int)
 aJ:l'.aJ=(w:Int)
 ai:l'.ai=l.ai
 E3:bJ off l'.all=bJ off l.all
 size:d'.size=d.size
 used:d'.used≤d.used+22
 len:d'.fs.length≤d.fs.length+1
 own:mv l d→mv l' d'
 sub:∀s∈l'.bX,s∈l.bX
 num:d'.file (aP l.pre)=⟨mt off w,(mt off w).length⟩
 eF:∀n,n≠aP l.pre→(∀s∈l.bX,s∈l'.bX∨n≠s.nm)→d'.get n=d.get n
theorem gC(fs:Fs)(n:Nm)(f:Fl):(bT fs n f).length≤fs.length+1:=by
 unfold bT;split<;>simp
theorem gD{d:Dk}{n:Nm}{f:Fl}(h:(d.get n).isSome=true):(bT d.fs n f).length=d.fs.length:=by
 unfold bT
 rw[if_pos,List.length_map]
 have h1:=ku (Dk.get_some.1 h)
 exact List.any_eq_true.2 ⟨_,h1,by simp⟩
theorem kI(fs:Fs)(n:Nm):(cQ fs n).length≤fs.length:=List.length_filter_le ..
theorem vm:∀(q:List Sx) (c:Sx) (n:Int),jd n (q++[c])→(∀t∈q,t.ok∧t.bs≠[])→∀t∈q++[c],n≤t.base
 |[],c,n,hk,_,t,ht=>by rw[List.mem_singleton.1 ht];have:=hk.1;omega
 |y::q,c,n,hk,ho,t,ht=>by
  rcases List.mem_cons.1 ht with rfl|ht
  ·
   have:=hk.1;omega
  ·
   have R4:=vm q c y.next hk.2 (fun z hz=>ho z (.tail _ hz)) t ht
   have J6:=gY (ho y (.head _)).1 (ho y (.head _)).2
   have:y.base=n:=hk.1
   omega
theorem E4{l:Lx}{d:Dk}(hl:l.ok d){x:Sx}{r:List Sx}(h:l.bX=x::r):∀s∈r++[l.ai],s.nm≠x.nm:=fun s hs e=>by
 have e0:l.ar=x::(r++[l.ai]):=by unfold Lx.ar;rw[h];rfl
 have h1:=hl.link
 rw[e0]at h1
 obtain⟨e1,e2,_,_⟩:=hl.gN s (by rw[e0];exact .tail _ hs)
 obtain⟨f1,f2,_,_⟩:=hl.gN x (by rw[e0];exact .head _)
 rw[e2,f2]at e
 have e5:=ci e
 have MX:x∈l.bX:=by rw[h];exact .head _
 have h6:=gY f1 (hl.ne x MX)
 have h7:=vm r l.ai x.next h1.2 (fun t ht=>hl.bX t (by rw[h];exact .tail _ ht)) s hs
 have:=e1.bC
 have:=f1.bC
 omega
theorem jq.begin{l:Lx}{d:Dk}(hl:l.ok d)(hd:d.ok){off w:Nat}(h1:l.start≤(off:Int))(h2:(off:Int)≤(w:Int))(h3:(w:Int)≤l.next)(hz:off≤1000000000)(hw:w≤1000000000)(hs:d.used+22≤d.size):jq l d off w {l with start:=(off:Int),aJ:=(w:Int)} (d.put (aP l.pre) ⟨mt off w,(mt off w).length⟩):=by
 have hm:=zo hz hw
 have hu:=Dk.cf hd (aP l.pre) ⟨mt off w,(mt off w).length⟩
 dsimp only at hu
 refine⟨EM hl (by omega) (by have:=hl.start;omega) h2 h3,Dk.dN hd (by dsimp only;omega) (Nat.le_refl _),rfl,rfl,rfl,rfl,rfl,rfl,rfl,rfl,by omega,gC _ _ _,fun h u hu hg=>?_,fun s hs=>hs,Dk.aV _ _ _,fun n hn _=>(Dk.aK _ _ hn).2⟩
 rw[(Dk.aK _ _ (cM (by omega))).2]at hg
 exact h u hu hg
theorem jq.step{l l':Lx}{d d':Dk}{off w:Nat}(h:jq l d off w l' d'){x:Sx}{r:List Sx}(hx:l'.bX=x::r)(hn:x.next≤(off:Int))(la:Option Addr):jq l d off w (l'.less la) (d'.del x.nm):=by
 have Jn:=dL hx la
 have w9:x∈l'.ar:=by rw[Jn];exact .head _
 have Cp:(l'.less la).bX=r:=by unfold Lx.less;rw[hx];rfl
 have dx:=E4 h.ok hx
 have R9:x.nm≠aP l.pre:=by
  obtain⟨f1,f2,_,_⟩:=h.ok.gN x w9
  rw[f2,h.pre]
  exact cM (by have:=f1.bC;have:=f1.ed;omega)
 refine⟨Ig h.ok hx (by rw[h.start];exact hn),Dk.uD h.cS _,h.lb,h.pre,h.most,h.start,h.aJ,h.ai,by rw[←Ck h.ok hx hn];exact h.E3,h.size,by have:=Dk.kv h.cS x.nm;have:=h.used;omega,Nat.le_trans (kI _ _) h.len,fun ho u hu hg=>?_,fun s hs=>h.sub s (by rw[hx];rw[Cp]at hs;exact .tail _ hs),?_,fun n hn hs=>?_⟩
 ·
  have lX:nameOf (l'.less la).pre u≠x.nm:=fun e=>by rw[e,Dk.kX,if_pos rfl]at hg;cases hg
  rw[(Dk.cL _ lX).2]at hg
  obtain⟨s,hs,e⟩:=h.own ho u hu hg
  rw[Jn]at hs
  rcases List.mem_cons.1 hs with rfl|hs
  ·
   exfalso
   obtain⟨f1,f2,_,_⟩:=h.ok.gN s w9
   exact lX (by rw[f2,e];rfl)
  ·
   exact⟨s,hs,e⟩
 ·
  rw[(Dk.cL _ R9.symm).1];exact h.num
 ·
  have MX:x∈l.bX:=h.sub x (by rw[hx];exact .head _)
  have lX:n≠x.nm:=by
   rcases hs x MX with hm|hm
   ·
    exfalso
    rw[Cp]at hm
    exact dx x (List.mem_append_left _ hm) rfl
   ·
    exact hm
  rw[(Dk.cL _ lX).2]
  refine h.eF n hn fun s oS=>?_
  rcases hs s oS with hm|hm
  ·
   exact .inl (by rw[hx];rw[Cp]at hm;exact .tail _ hm)
  ·
   exact .inr hm
def sC{St:Type}(d:Nat→St→Bool×St)(s0:St):Nat→St
 |0=>s0
 |i+1=>(d i (sC d s0 i)).2
def bN{St:Type}(d:Nat→St→Bool×St)(s0:St)(i:Nat):Bool:=(d i (sC d s0 i)).1
def kept{St:Type}(d:Nat→St→Bool×St)(s0:St)(ps:List Nat):Nat→List Nat
 |0=>[]
 |j+1=>if bN d s0 j=true then kept d s0 ps j else kept d s0 ps j++(ps[j]?).toList
theorem rI{St:Type}{d:Nat→St→Bool×St}{s0:St}{ps:List Nat}:∀k,(∀j<k,bN d s0 j=false)→kept d s0 ps k=ps.take k
 |0,_=>rfl
 |k+1,h=>by rw[kept,if_neg (by rw[h k (by omega)];decide),rI k fun j hj=>h j (by omega),List.take_add_one]
theorem E5{St:Type}{d:Nat→St→Bool×St}{s0:St}{ps:List Nat}{k:Nat}(h:∀j<k,bN d s0 j=false)(hk:bN d s0 k=true):kept d s0 ps (k+1)=ps.take k:=by rw[kept,if_pos hk,rI k h]
theorem E6{α:Type}{q:List α}{i:Nat}{p:α}(h:i<q.length):(q.set i p).take (i+1)=q.take i++[p]:=by rw[List.take_add_one,List.take_set_of_le (Nat.le_refl i),List.getElem?_set,if_pos rfl,if_pos h];rfl
theorem set_drop{α:Type}{q:List α}{i j:Nat}{p:α}(h:i<j):(q.set i p).drop j=q.drop j:=by rw[List.drop_set_of_lt h]
theorem drop_at{α:Type}{q ps:List α}{j:Nat}(h:q.drop j=ps.drop j):q[j]?=ps[j]?:=by
 have:=congrArg (fun l=>l[0]?) h
 simpa[List.getElem?_drop]using this
theorem tG{α:Type}{q ps:List α}{j:Nat}(h:q.drop j=ps.drop j):q.drop (j+1)=ps.drop (j+1):=by
 rw[←List.drop_drop,←List.drop_drop,h]
def zs(n:Nat):List Value:=(Builtin.zeroCells (Value.int .i64 0).cells n).toList
theorem zq(n:Nat):(zs n).length=n:=by simp[zs,Builtin.zeroCells,Value.cells]
theorem nA(l:List Nat):(l.flatMap fI).length=l.length:=by rw[au dR,Nat.mul_one]
theorem xo(q:List Nat)(i n:Nat)(hi:i+n=q.length){pre post:List Value}:splice (pre++(q.flatMap fI++post)) (pre.length+i) (zs n)=pre++((q.take i).flatMap fI++(zs n++post)):=by
 rw[yA (by rw[zq,nA];omega)]
 unfold splice
 rw[zq,←Go.Sp.iq dR q i,Nat.mul_one,List.drop_eq_nil_of_le (by rw[nA];omega),List.append_nil,List.append_assoc]
theorem oV{d:Nat→Unit→Bool×Unit}{ps:List Nat}{z:Nat}(hd:∀i p,ps[i]?=some p→bN d () i=decide (z≤p)):∀k,k≤ps.length→kept d () ps k=(ps.take k).filter fun i=>decide (i<z)
 |0,_=>rfl
 |k+1,hk=>by
  obtain⟨p,hp⟩:∃p,ps[k]?=some p:=⟨_,List.getElem?_eq_getElem (by omega)⟩
  have ih:=oV hd k (by omega)
  rw[kept,hd k p hp,List.take_add_one,hp,List.filter_append,←ih]
  by_cases h:z≤p
  ·
   rw[if_pos (decide_eq_true h)];simp[show¬p<z by omega]
  ·
   rw[if_neg (by simpa using h)];simp[show p<z by omega]
theorem Cq(ps:List Nat){St:Type}(X:St→aj)(d:Nat→St→Bool×St)(s0:St)(φ:World→Prop)(f:FuncId)(cap:Array Value)(hf:∀(i p:Nat),ps[i]?=some p→Cn Tryz.prog f (.int .i64 ((p:Nat):Int)::cap.toList) φ [X (sC d s0 i)] fun v G=>v=.bool (bN d s0 i)∧G=[X (sC d s0 (i+1))])(a:Option Addr)(c:Nat)(hn:ps.length≤1000000):Cn Tryz.prog 166 [.slice a ps.length c,.func (.func f) #[] cap] (fun w=>aD a (ps.flatMap fI) w∧φ w) [X s0] fun v G=>(∃k<ps.length,bN d s0 k=true∧(∀j<k,bN d s0 j=false)∧v=.int .i64 (k:Nat)∧G=[X (sC d s0 (k+1))])∨((∀j<ps.length,bN d s0 j=false)∧v=.int .i64 (-1)∧G=[X (sC d s0 ps.length)]):=by
 refine .en Tryz.func166 fun R k=>?_
 refine .ax fds 8 ?_
 refine .rd (.bP rfl rfl Tryz.underlying31 rfl) ?_
 refine .aH fds 3 ?_
 refine .loop (σ:=Nat) (fun i=>i≤ps.length∧∀j<i,bN d s0 j=false) (fun i=>ps.length-i) (fun i=>[(0,.slice a ps.length c),(1,.func (.func f) #[] cap),(7,.int .i64 ps.length),(8,.int .i64 (i:Nat))]) (fun i=>[X (sC d s0 i),R]) 0 ⟨Nat.zero_le _,fun j hj=>absurd hj (Nat.not_lt_zero j)⟩ .r4 .cU (fun i hI ih=>?_)
 have hi:=hI.1
 refine .go fds 5 ?_
 refine .aM rfl (fun h2=>?_) (fun h2=>?_)
 ·
  refine .go fds 9 ?_
  obtain⟨p,hp⟩:∃p,ps[i]?=some p:=⟨_,List.getElem?_eq_getElem (by omega)⟩
  refine .tell (φ:=∃b o,a=some ⟨b,o,none⟩) (af.pick .p1 (k.mono fun _ h=>aD.addr h.1 (by rw[nA];omega))) (fun hh=>?_)
  obtain⟨b9,o9,DY⟩:=hh
  refine .ax fds 4 ?_
  refine .rd (.indexAddr (b:=b9) (o:=o9) Tryz.underlying31 cc (by show some (Value.slice a _ _)=_;rw[DY]) rfl (by omega) (by omega)) ?_
  refine .rd (.load ak rfl (af.one (i:=0) (af.elem (f:=fI) dR (by decide) (af.pick .p1 (k.mono fun _ h=>DY▸h.1)) hp) rfl)) ?_
  refine .sR rfl rfl .q0 (af.pick .p0 (k.mono fun _ h=>h.2)) (hf i p hp) (fun v G1 hq=>?_)
  obtain⟨rfl,rfl⟩:=hq
  simp only[ag,ae]
  refine .nil ?_
  refine .cond rfl (fun h4=>?_) (fun h4=>?_)
  ·
   refine .go fds 5 ?_
   refine .aG Tryz.func166 (.t1 rfl) .cU ?_
   exact⟨[_],.inl ⟨i,by omega,h4,hI.2,rfl,rfl⟩,rfl⟩
  ·
   refine .ax fds 3 ?_
   refine .rd (.add rfl rfl (by omega) (by omega)) ?_
   refine .aH fds 2 ?_
   exact(ih (i+1) ⟨by omega,fun j hj=>by rcases Nat.lt_or_eq_of_le (Nat.le_of_lt_succ hj)with h|h;exact hI.2 j h;rw[h];exact h4⟩ (by omega)).to .r4 .cU
 ·
  refine .go fds 5 ?_
  obtain rfl:i=ps.length:=by omega
  refine .aG Tryz.func166 (.t1 rfl) .cU ?_
  exact⟨[_],.inr ⟨hI.2,rfl,rfl⟩,rfl⟩
theorem zu(ps:List Nat){St:Type}(X:St→aj)(d:Nat→St→Bool×St)(s0:St)(φ:World→Prop)(f:FuncId)(cap:Array Value)(hf:∀(i p:Nat),ps[i]?=some p→Cn Tryz.prog f (.int .i64 ((p:Nat):Int)::cap.toList) φ [X (sC d s0 i)] fun v G=>v=.bool (bN d s0 i)∧G=[X (sC d s0 (i+1))])(a:Option Addr)(c:Nat)(hn:ps.length≤1000000):Cn Tryz.prog 135 [.slice a ps.length c,.func (.func f) #[] cap] φ [arr 3 1 a c (ps.flatMap fI),X s0] fun v G=>v=.slice a (kept d s0 ps ps.length).length c∧G=[arr 3 1 a c ((kept d s0 ps ps.length).flatMap fI),X (sC d s0 ps.length)]:=by
 refine .en Tryz.func135 fun R k=>?_
 refine .ax fds 8 ?_
 refine .fn rfl rfl .q1 (fun A w h=>⟨(af.arr .p0) A w h,(af.pick .p1 k) A w h⟩) (Cq ps X d s0 φ f cap hf a c hn) (fun v G1 hq=>?_)
 rcases hq with⟨k0,Sa,Sb,O6,rfl,rfl⟩|⟨O6,rfl,rfl⟩
 ·
  simp only[ag,ae]
  refine .aH fds 8 ?_
  refine .aM rfl (fun h2=>?_) (fun h2=>?_)
  ·
   exact absurd h2 (by omega)
  ·
   refine .go fds 3 ?_
   refine .tell (φ:=ps.length≤c) (fun A w h=>by have:=(h.map fun _=>(.p1:bD (arr 3 1 a c (ps.flatMap fI)) _ _).bh).jz.1;rw[nA]at this;omega) (fun UL=>?_)
   refine .open_ .p1 (fun h=>arr.iy (by omega)) (fun x hx=>?_)
   obtain⟨bb,pre,post⟩:=x
   obtain⟨rfl,hlen⟩:=hx
   dsimp only at hlen
   rw[nA,Nat.mul_one]at hlen
   simp only[ag,ae]
   have O7:=E5 (ps:=ps) O6 Sb
   refine .ax fds 2 ?_
   refine .rd (.add rfl rfl (by omega) (by omega)) ?_
   refine .aH fds 3 ?_
   refine .loop (σ:=Nat×List Nat) (fun⟨j,q⟩=>k0<j∧j≤ps.length∧q.length=ps.length∧(kept d s0 ps j).length<j∧q.take (kept d s0 ps j).length=kept d s0 ps j∧q.drop j=ps.drop j) (fun⟨j,q⟩=>ps.length-j) (fun⟨j,q⟩=>[(0,.slice (some ⟨bb,pre.length,none⟩:Option Addr) ps.length c),(1,.func (.func f) #[] cap),(5,.int .i64 ((kept d s0 ps j).length:Nat)),(6,.int .i64 (j:Nat))]) (fun⟨j,q⟩=>[an bb (pre++(q.flatMap fI++post)) 3,X (sC d s0 j),R]) (k0+1,ps) ⟨Nat.lt_succ_self _,Sa,rfl,by rw[O7,List.length_take];omega,by rw[O7,List.length_take,Nat.min_eq_left (by omega)],rfl⟩ (.cons rfl (.cons rfl (.cons (by show _=some (Value.int .i64 ((kept d s0 ps (k0+1)).length:Nat));rw[O7,List.length_take,Nat.min_eq_left (by omega)];rfl) .r1))) .ez (fun s' hI ih=>?_)
   obtain⟨j,q⟩:=s'
   dsimp only at hI ih⊢
   obtain⟨UM,Qz,Cr,Eb,M2,O8⟩:=hI
   refine .ax fds 5 ?_
   refine .rd (.bP rfl rfl Tryz.underlying31 rfl) ?_
   refine .aH fds 2 ?_
   refine .aM rfl (fun h5=>?_) (fun h5=>?_)
   ·
    refine .go fds 4 ?_
    obtain⟨p,hp⟩:∃p,ps[j]?=some p:=⟨_,List.getElem?_eq_getElem (by omega)⟩
    have Sc:q[j]?=some p:=(drop_at O8).trans hp
    refine .ax fds 3 ?_
    refine .rd (.indexAddr Tryz.underlying31 cc rfl rfl (by omega) (by omega)) ?_
    refine .rd (.load ak rfl (af.one (i:=0) (af.RD dR .p0 Sc) rfl)) ?_
    refine .ax fds 6 ?_
    refine .sR rfl rfl .q1 (af.pick .p1 (k.mono fun _ h=>h)) (hf j p hp) (fun v G1 hq=>?_)
    obtain⟨rfl,rfl⟩:=hq
    simp only[ag,ae]
    refine .aH fds 2 ?_
    rcases h8:bN d s0 j with _|_
    ·
     refine .I7 rfl ?_
     have M3:kept d s0 ps (j+1)=kept d s0 ps j++[p]:=by rw[kept,if_neg (by rw[h8];decide),hp];rfl
     have N0:(kept d s0 ps (j+1)).length=(kept d s0 ps j).length+1:=by rw[M3];simp
     have O9:(q.set (kept d s0 ps j).length p).length=ps.length∧(kept d s0 ps (j+1)).length<j+1∧(q.set (kept d s0 ps j).length p).take (kept d s0 ps (j+1)).length=kept d s0 ps (j+1)∧(q.set (kept d s0 ps j).length p).drop (j+1)=ps.drop (j+1):=⟨by rw[List.length_set];exact Cr,by omega,by rw[N0,E6 (by omega),M2,M3],by rw[set_drop (by omega)];exact tG O8⟩
     refine .ax fds 5 ?_
     refine .rd (.indexAddr Tryz.underlying31 cc rfl rfl (by omega) (by omega)) ?_
     refine .dc (.store (o:=pre.length+(kept d s0 ps j).length) (v:=.int .i64 ((p:Nat):Int)) cc (by show some (Value.pointer (some _))=_;rw[Int.toNat_natCast,Nat.mul_one]) rfl .p1 rfl (by rw[List.length_append,List.length_append,nA];omega)) ?_
     rintro _ _ rfl
     refine .nil ?_
     refine .ca (an bb (pre++((q.set (kept d s0 ps j).length p).flatMap fI++post)) 3) (by rw[Ab (by rw[nA];omega)];have Sd:q[(kept d s0 ps j).length]?=some q[(kept d s0 ps j).length]:=List.getElem?_eq_getElem (by omega);rw[←vV dR q _ _ p Sd 0 (.int .i64 ((p:Nat):Int)) (by decide) rfl,Nat.mul_one];rfl) ?_
     refine .ax fds 2 ?_
     refine .rd (.add rfl rfl (by omega) (by omega)) ?_
     refine .ax fds 5 ?_
     refine .rd (.add rfl rfl (by omega) (by omega)) ?_
     refine .aH fds 2 ?_
     exact(ih (j+1,q.set (kept d s0 ps j).length p) ⟨by show k0<j+1;omega,by show j+1≤_;omega,O9⟩ (by show ps.length-(j+1)<ps.length-j;omega)).to (.cons rfl (.cons rfl (.cons (by show _=some (Value.int .i64 ((kept d s0 ps (j+1)).length:Nat));rw[N0];rfl) .r1))) .ez
    ·
     refine .I8 rfl ?_
     have M3:kept d s0 ps (j+1)=kept d s0 ps j:=by rw[kept,if_pos h8]
     have N0:(kept d s0 ps (j+1)).length=(kept d s0 ps j).length:=by rw[M3]
     have O9:q.length=ps.length∧(kept d s0 ps (j+1)).length<j+1∧q.take (kept d s0 ps (j+1)).length=kept d s0 ps (j+1)∧q.drop (j+1)=ps.drop (j+1):=⟨Cr,by omega,by rw[M3];exact M2,tG O8⟩
     refine .ax fds 4 ?_
     refine .rd (.add rfl rfl (by omega) (by omega)) ?_
     refine .aH fds 2 ?_
     exact(ih (j+1,q) ⟨by show k0<j+1;omega,by show j+1≤_;omega,O9⟩ (by show ps.length-(j+1)<ps.length-j;omega)).to (.cons rfl (.cons rfl (.cons (by show _=some (Value.int .i64 ((kept d s0 ps (j+1)).length:Nat));rw[N0];rfl) .r1))) .wh
   ·
    refine .ax fds 5 ?_
    obtain rfl:j=ps.length:=by omega
    refine .rd (.slice (l:=(kept d s0 ps ps.length).length) (h:=ps.length) (m:=c) Tryz.underlying31 cc rfl rfl ⟨rfl,rfl⟩ ⟨_,rfl⟩ (by omega) (by omega) (by omega)) ?_
    refine .dc (.clear (b:=bb) (o:=pre.length+(kept d s0 ps ps.length).length) (n:=ps.length-(kept d s0 ps ps.length).length) (cap:=c-(kept d s0 ps ps.length).length) rfl rfl Tryz.underlying31 gR rfl (aB.of rfl) (by show some _=some _;rw[if_neg (by omega)];simp[cA]) .p0 (by rw[List.length_append,List.length_append,nA];omega)) ?_
    rintro _ _ rfl
    refine .ax fds 5 ?_
    refine .rd (.slice (l:=0) (h:=(kept d s0 ps ps.length).length) (m:=c) Tryz.underlying31 cc rfl rfl ⟨_,rfl⟩ rfl (by omega) (by omega) (by omega)) ?_
    refine .aH fds 2 ?_
    refine .close (X:=arr 3 1 (some ⟨bb,pre.length,none⟩:Option Addr) c ((kept d s0 ps ps.length).flatMap fI)) .q0 (fun h H=>bh.ik (post:=zs (ps.length-(kept d s0 ps ps.length).length)++post) (by rw[nA,List.length_append,zq];omega) (by rw[←M2.symm.trans M2,←congrArg (List.flatMap fI) M2,←xo q _ _ (by omega)];exact H)) ?_
    refine .aG Tryz.func135 (.t1 rfl) .ez ?_
    exact⟨[_,_],⟨by simp only[cZ];rw[if_neg (by omega)];simp[cA],rfl⟩,rfl⟩
 ·
  simp only[ag,ae]
  refine .aH fds 8 ?_
  refine .aM rfl (fun h2=>?_) (fun h2=>?_)
  ·
   refine .go fds 5 ?_
   have Se:kept d s0 ps ps.length=ps:=by rw[rI _ O6,List.take_length]
   refine .aG Tryz.func135 (.t1 rfl) .wh ?_
   exact⟨[_,_],by rw[Se];exact⟨rfl,rfl⟩,rfl⟩
  ·
   exact absurd rfl h2
theorem Cn.frame{P f}{args:List Value}{φ:World→Prop}{q:Value→Prop}{X:aj}(h:Cn P f args φ [] fun v G=>q v∧G=[]):Cn P f args φ [X] fun v G=>q v∧G=[X]:=fun R kR=>
 (h.ret (Γ:=[X,R]) .nil kR.cons).mono fun v G ⟨G1,⟨hq,h1⟩,h2⟩=>⟨[X],⟨hq,rfl⟩,by rw[h2,h1];rfl⟩
def pC(s:Sx)(off:Int)(i:Nat):Bool:=decide (off<((s.bs[i]?).map (·.en)).getD 0)
theorem xp{s:Sx}{off:Int}{i:Nat}{b:aQ}(hb:s.bs[i]?=some b):pC s off i=decide (off<b.en):=by unfold pC;rw[hb];rfl
theorem ID{s:Sx}(h:s.ok){off:Int}(a b:Nat)(DY:a≤b)(hb:b<s.bs.length)(hp:pC s off a=true):pC s off b=true:=by
 obtain⟨x,hx⟩:∃x,s.bs[a]?=some x:=⟨_,List.getElem?_eq_getElem (by omega)⟩
 obtain⟨y,hy⟩:∃y,s.bs[b]?=some y:=⟨_,List.getElem?_eq_getElem hb⟩
 rw[xp hx]at hp;rw[xp hy]
 have:=Sx.HF h hx hy DY
 exact decide_eq_true (by have:=of_decide_eq_true hp;omega)
theorem Pa{db bx tF:Nat}{s:Sx}{z:Int}(h:s.ok)(i:Nat)(hi:i<s.bs.length):Cn Tryz.prog 133 [.int .i64 (i:Nat),.pointer (some ⟨bx,0,none⟩),.pointer (some ⟨tF,0,none⟩)] (fun w=>aL bx 0 [.pointer (some ⟨s.b,0,none⟩)] w∧aL tF 0 [.int .i64 z] w∧iS db s w) [] fun v G=>v=.bool (pC s z i)∧G=[]:=by
 obtain⟨x,hx⟩:∃x,s.bs[i]?=some x:=⟨_,List.getElem?_eq_getElem hi⟩
 rw[xp hx];exact It db bx tF i s z x h hx
def dC(sm:List Nat)(z:Nat)(i:Nat)(_:Unit):Bool×Unit:=(decide (z≤sm.getD i 0),())
theorem Jo{sm:List Nat}{z i p:Nat}(h:sm[i]?=some p):bN (dC sm z) () i=decide (z≤p):=by
 show decide (z≤sm.getD i 0)=_;rw[List.getD_eq_getElem?_getD,h];rfl
theorem Pb{bx:Nat}{sm:List Nat}{z:Nat}(hz:z≤100000){X:aj}(i p:Nat)(h:sm[i]?=some p):Cn Tryz.prog 136 (.int .i64 ((p:Nat):Int)::(#[.pointer (some ⟨bx,0,none⟩)]:Array Value).toList) (aL bx 0 [.int .i64 (z:Int)]) [(fun _=>X) (sC (dC sm z) () i)] fun v G=>v=.bool (bN (dC sm z) () i)∧G=[(fun _=>X) (sC (dC sm z) () (i+1))]:=by
 rw[Jo h]
 have e:decide (z≤p)=decide ((z:Int)≤(p:Int)):=decide_eq_decide.2 (by omega)
 rw[e]
 exact Cn.frame (q:=fun v=>v=.bool (decide ((z:Int)≤(p:Int)))) (Iu bx p z hz)
theorem xq{sm:List Nat}{z:Nat}:kept (dC sm z) () sm sm.length=sm.filter fun i=>decide (i<z):=by
 rw[oV (z:=z) (fun i p h=>Jo h) sm.length (Nat.le_refl _),List.take_length]
theorem qv{e s a c cs}{h k:Hp}(hl:Hp.le h k)(H:arr e s a c cs h):arr e s a c cs k:=by
 rcases H with H|⟨b,pre,post,e1,e2,H⟩
 ·
  exact .inl H
 ·
  exact .inr ⟨b,pre,post,e1,e2,kg hl H⟩
theorem E7{s:Sx}{z:Nat}(hz:z≤s.bs.length){sm:List Nat}{h k:Hp}(hl:Hp.le h k)(H:arr 112 4 s.aa s.ac s.rows h):arr 112 4 s.aa s.ac (Sx.mk s.b s.nm s.base (s.bs.take z) sm s.aa s.ac s.ia s.ic).rows k:=by
 have e:s.rows=(Sx.mk s.b s.nm s.base (s.bs.take z) sm s.aa s.ac s.ia s.ic).rows++((dB 0 s.bs).drop z).flatMap One.cells:=by
  unfold Sx.rows;dsimp only
  rw[←wA,←List.flatMap_append,List.take_append_drop]
 rw[e]at H
 exact qv hl (arr.shrink H)
theorem tH(db mb:Nat)(d:Dk)(s:Sx)(off:Int)(hd:d.ok)(hs:s.ok)(hx:(d.get s.nm).isSome=true)(hf:(d.file s.nm).b=flat s.bs)(ho:s.base≤off)(CR:off≤1000000000):Cn Tryz.prog 86 [.pointer (some ⟨s.b,0,none⟩),.int .i64 off] (fun _=>True) [an db (d.cells mb) 74,mp aW Fl.val mb d.fs,an s.b (s.cells db) 110,arr 112 4 s.aa s.ac s.rows,arr 3 1 s.ia s.ic (s.sm.flatMap fI)] fun v G=>v=.int .i64 0∧∃z d' sm,z≤s.bs.length∧(∀q<z,pC s off q=false)∧(∀q,z≤q→q<s.bs.length→pC s off q=true)∧Ix sm z∧(z=s.bs.length∧d'=d∨z<s.bs.length∧d'=d.put s.nm ⟨flat (s.bs.take z),min (d.file s.nm).safe (flat (s.bs.take z)).length⟩)∧G=[an db ((Dk.cells d' mb)) 74,mp aW Fl.val mb (Dk.fs d'),an s.b ((Sx.mk s.b s.nm s.base (s.bs.take z) sm s.aa s.ac s.ia s.ic).cells db) 110,arr 112 4 s.aa s.ac (Sx.mk s.b s.nm s.base (s.bs.take z) sm s.aa s.ac s.ia s.ic).rows,arr 3 1 s.ia s.ic (sm.flatMap fI)]:=by
 refine .en Tryz.func86 fun R k=>?_
 have hl:=hs.len
 have iA:=hs.cap
 have ym:=hs.kC
 have mi:=hs.bC
 refine .ax fds 2 ?_
 refine .ef (.box (l:=[.pointer (some ⟨s.b,0,none⟩)]) rfl rfl (aB.of rfl)) ?_
 rintro _ _ ⟨b2,rfl,rfl⟩
 refine .ef (.box (l:=[.int .i64 off]) rfl rfl (aB.of rfl)) ?_
 rintro _ _ ⟨b3,rfl,rfl⟩
 refine .aH fds 4 ?_
 refine .dr [0,1,4] [an b3 [.int .i64 off] 3,an b2 [.pointer (some ⟨s.b,0,none⟩)] 54,an s.b (s.cells db) 110] ?_
 refine .re 0 rfl (.ld ak rfl .p0 rfl) .BO ?_
 refine .re 1 rfl (.ld aN rfl .p1 rfl) .BO ?_
 refine .aq fds [2] ?_
 refine .aq fds [3] ?_
 refine .re 4 rfl (.ld ak rfl .p2 rfl) .BO ?_
 refine .aq fds [5] ?_
 refine .al 11 (.bool false) rfl (aE (by omega)) ?_
 refine .dn ?_
 refine .ax fds 4 ?_
 refine .rd (.ld aN rfl .p1 rfl) ?_
 refine .go fds 2 ?_
 refine .rd (.ld dz rfl .p4 rfl) ?_
 refine .rd (.bP rfl rfl Tryz.underlying108 rfl) ?_
 refine .rd (.makeFunc (cs:=[.pointer (some ⟨b2,0,none⟩),.pointer (some ⟨b3,0,none⟩)]) rfl rfl) ?_
 refine .fn rfl rfl .nil ((af.an .p1).and ((af.an .p0).and ((af.an .p4).and ((af.arr .p5).and (af.arr .p6))))) (oz s.bs.length (by omega) (pC s off) (ID hs) (fun w=>aL b2 0 [.pointer (some ⟨s.b,0,none⟩)] w∧aL b3 0 [.int .i64 off] w∧iS db s w) 133 #[.pointer (some ⟨b2,0,none⟩),.pointer (some ⟨b3,0,none⟩)] (Pa hs)) (fun v G1 hq=>?_)
 obtain⟨z,hz,D9,AO,rfl,rfl⟩:=hq
 simp only[ae]
 refine .ef (.alloc gR rfl (aB.of rfl)) ?_
 rintro _ _ ⟨b5,rfl,rfl⟩
 refine .dc (.store cc rfl rfl .p0 rfl aU) ?_
 rintro _ _ rfl
 refine .nil ?_
 refine .ca (an b5 [.int .i64 (z:Int)] 3) (rfl) ?_
 refine .go fds 2 ?_
 refine .dr [0,1,4] [an b5 [.int .i64 (z:Int)] 3,an b2 [.pointer (some ⟨s.b,0,none⟩)] 54,an s.b (s.cells db) 110] ?_
 refine .re 0 rfl (.ld ak rfl .p0 rfl) (.cons .p0 (.cons .p1 (.cons .p3 .nil))) ?_
 refine .re 1 rfl (.ld aN rfl .p1 rfl) (.cons .p0 (.cons .p1 (.cons .p3 .nil))) ?_
 refine .aq fds [2] ?_
 refine .aq fds [3] ?_
 refine .re 4 rfl (.ld dz rfl .p2 rfl) (.cons .p0 (.cons .p1 (.cons .p3 .nil))) ?_
 refine .rq 5 rfl (.bP rfl rfl Tryz.underlying108 rfl) ?_
 refine .aq fds [6] ?_
 refine .dn ?_
 refine .aM rfl (fun c4=>?_) (fun c4=>?_)
 ·
  refine .seq ?_
  obtain⟨b,hb⟩:∃b,s.bs[z]?=some b:=⟨_,List.getElem?_eq_getElem (by omega)⟩
  have Sf:=wF hb
  have Dz:=pK (bs:=s.bs) z
  have CS:=Sx.AJ hs
  refine .tell (φ:=∃b o,s.aa=some ⟨b,o,none⟩) ((af.arr .p6).mono fun _ h=>aD.addr h (by rw[Sx.eP];omega)) (fun hh=>?_)
  obtain⟨b9,o9,h9⟩:=hh
  refine .dr [0,3,4,7,8,11,12,15] [an b5 [.int .i64 (z:Int)] 3,an b2 [.pointer (some ⟨s.b,0,none⟩)] 54,an s.b (s.cells db) 110,arr 112 4 s.aa s.ac s.rows] ?_
  refine .re 0 rfl (.ld aN rfl .p1 rfl) .oO ?_
  refine .aq fds [1] ?_
  refine .aq fds [2] ?_
  refine .re 3 rfl (.ld dh rfl .p2 rfl) .oO ?_
  refine .re 4 rfl (.ld aN rfl .p1 rfl) .oO ?_
  refine .aq fds [5] ?_
  refine .aq fds [6] ?_
  refine .re 7 rfl (.ld aR rfl .p2 rfl) .oO ?_
  refine .re 8 rfl (.ld aN rfl .p1 rfl) .oO ?_
  refine .aq fds [9] ?_
  refine .aq fds [10] ?_
  refine .re 11 rfl (.ld dz rfl .p2 rfl) .oO ?_
  refine .re 12 rfl (.ld ak rfl .p0 rfl) .oO ?_
  refine .rq 13 rfl (.indexAddr (b:=b9) (o:=o9) Tryz.underlying108 eU (by show some (Value.slice (s.aa) _ _)=_;rw[h9]) rfl (by omega) (by omega)) ?_
  refine .aq fds [14] ?_
  refine .re 15 rfl (.load ak rfl (af.one (i:=2) (af.elem (f:=One.cells) One.bU (by decide) ((af.arr .p3).mono fun _ h=>h9▸h) (nU hb)) rfl)) .oO ?_
  refine .eg 16 rfl (.fn rfl rfl .vI ah (vh db mb d s.nm (flat (s.bs.take z)).length hd hx (by rw[hf];exact Dz))) ?_
  rintro v _ ⟨G1,hq,rfl⟩
  obtain⟨rfl,rfl⟩:=hq
  simp only[ag,ae]
  refine ay ?_
  refine .dn ?_
  refine .ca (an db ((d.put s.nm ⟨flat (s.bs.take z),min (d.file s.nm).safe (flat (s.bs.take z)).length⟩).cells mb) 74) (by rw[hf,iq]) ?_
  refine .perm (.cons .p1 (.cons .p0 (.cons .p0 (.cons .p0 (.cons .p0 (.cons .p0 (.cons .p0 (.cons .p0 (.cons .p0 .nil))))))))) ?_
  refine .ca (mp aW Fl.val mb (d.put s.nm ⟨flat (s.bs.take z),min (d.file s.nm).safe (flat (s.bs.take z)).length⟩).fs) (by rw[hf,iq]) ?_
  refine .seq ?_
  refine .dr [0,1,4,5] [an b5 [.int .i64 (z:Int)] 3,an b2 [.pointer (some ⟨s.b,0,none⟩)] 54,an s.b (s.cells db) 110] ?_
  refine .re 0 rfl (.ld aN rfl .p1 rfl) .BP ?_
  refine .re 1 rfl (.ld aN rfl .p1 rfl) .BP ?_
  refine .aq fds [2] ?_
  refine .aq fds [3] ?_
  refine .re 4 rfl (.ld dz rfl .p2 rfl) .BP ?_
  refine .re 5 rfl (.ld ak rfl .p0 rfl) .BP ?_
  refine .rq 6 rfl (.slice (l:=0) (h:=z) (m:=s.ac) Tryz.underlying108 eU rfl rfl ⟨_,rfl⟩ rfl (by omega) (by omega) (by omega)) ?_
  refine .al 49 (.slice s.aa z s.ac) rfl (by rw[h9];simp[cA]) ?_
  refine .aq fds [7] ?_
  refine .aq fds [8] ?_
  refine .eh 9 rfl (.store uB rfl rfl .p5 rfl aU) ?_
  rintro _ _ rfl
  refine ay ?_
  refine .dn ?_
  refine .ca (an s.b [.pointer (some ⟨db,0,none⟩),aW s.nm,.int .i64 s.base,.slice s.aa z s.ac,.slice s.ia s.sm.length s.ic] 110) (rfl) ?_
  refine .nothing ?_
  refine .dr [0,1,4] [an b5 [.int .i64 (z:Int)] 3,an b2 [.pointer (some ⟨s.b,0,none⟩)] 54,an s.b [.pointer (some ⟨db,0,none⟩),aW s.nm,.int .i64 s.base,.slice s.aa z s.ac,.slice s.ia s.sm.length s.ic] 110] ?_
  refine .re 0 rfl (.ld aN rfl .p1 rfl) (.cons .p4 (.cons .p5 (.cons .p1 .nil))) ?_
  refine .re 1 rfl (.ld aN rfl .p1 rfl) (.cons .p4 (.cons .p5 (.cons .p1 .nil))) ?_
  refine .aq fds [2] ?_
  refine .aq fds [3] ?_
  refine .re 4 rfl (.ld iQ rfl .p2 rfl) (.cons .p4 (.cons .p5 (.cons .p1 .nil))) ?_
  refine .rq 5 rfl (.makeFunc (cs:=[.pointer (some ⟨b5,0,none⟩)]) rfl rfl) ?_
  refine .eg 6 rfl (.fn rfl rfl (.cons .p8 (.cons .p0 .nil)) (af.an .p3) (zu s.sm (fun _=>bh []) (dC s.sm z) () (aL b5 0 [.int .i64 (z:Int)]) 136 #[.pointer (some ⟨b5,0,none⟩)] (fun i p h=>Pb (by omega) i p h) s.ia s.ic (by omega))) ?_
  rintro v _ ⟨G1,hq,rfl⟩
  obtain⟨rfl,rfl⟩:=hq
  simp only[ag,ae]
  refine⟨.inr ⟨_,(.cons .p5 (.cons .p6 (.cons .p2 .nil)))⟩,?_⟩
  refine .aq fds [7] ?_
  refine .aq fds [8] ?_
  refine .eh 9 rfl (.store Ar rfl rfl .p2 rfl aU) ?_
  rintro _ _ rfl
  refine ay ?_
  refine .dn ?_
  have Pc:(s.bs.take z).length=z:=by rw[List.length_take];omega
  refine .ca (an s.b ((Sx.mk s.b s.nm s.base (s.bs.take z) (s.sm.filter fun i=>decide (i<z)) s.aa s.ac s.ia s.ic).cells db) 110) (by show _=an s.b [_,_,_,.slice s.aa (s.bs.take z).length s.ac,_] 110;rw[Pc,←xq];rfl) ?_
  refine .perm (.cons .p1 (.cons .p0 (.cons .p0 (.cons .p0 (.cons .p0 (.cons .p0 (.cons .p0 (.cons .p0 (.cons .p0 (.cons .p0 .nil)))))))))) ?_
  refine .ca (arr 3 1 s.ia s.ic ((s.sm.filter fun i=>decide (i<z)).flatMap fI)) (by rw[xq]) ?_
  refine .close (X:=arr 112 4 s.aa s.ac (Sx.mk s.b s.nm s.base (s.bs.take z) (s.sm.filter fun i=>decide (i<z)) s.aa s.ac s.ia s.ic).rows) (.cons .p8 .nil) (fun h H=>by obtain⟨h1,_,_,l1,_,H',_⟩:=H;exact E7 hz l1 H') ?_
  refine .go fds 4 ?_
  refine .aG Tryz.func86 (.t1 rfl) (.cons .p5 (.cons .p4 (.cons .p2 (.cons .p0 (.cons .p0 (.cons .p4 .nil)))))) ?_
  exact⟨[_,_,_,_,_],⟨rfl,z,d.put s.nm ⟨flat (s.bs.take z),min (d.file s.nm).safe (flat (s.bs.take z)).length⟩,(s.sm.filter fun i=>decide (i<z)),hz,D9,AO,hs.ix.cut hz,.inr ⟨by omega,rfl⟩,rfl⟩,rfl⟩
 ·
  refine .go fds 5 ?_
  obtain rfl:z=s.bs.length:=by omega
  refine .aG Tryz.func86 (.t1 rfl) (.cons .p3 (.cons .p3 (.cons .p3 (.cons .p3 (.cons .p3 (.cons .p3 .nil)))))) ?_
  exact⟨[_,_,_,_,_],⟨rfl,s.bs.length,d,s.sm,hz,D9,AO,hs.ix,.inl ⟨rfl,rfl⟩,by rw[List.take_length]⟩,rfl⟩
def ie(n:Int)(l:List aQ):List aQ:=l.filter fun b=>decide (b.en≤n)
theorem rJ(n:Int)(a b:List aQ):ie n (a++b)=ie n a++ie n b:=List.filter_append ..
theorem tI{n:Int}{l:List aQ}(h:∀b∈l,n<b.en):ie n l=[]:=List.filter_eq_nil_iff.2 fun x hx=>by have:=h x hx;simp;omega
theorem xu{n:Int}{l:List aQ}(h:∀b∈l,b.en≤n):ie n l=l:=List.filter_eq_self.2 fun x hx=>decide_eq_true (h x hx)
structure pn(l:Lx)(d:Dk)(off:Int)(q:Lx)(e:Dk):Prop where
 ok:q.ok e
 cS:e.ok
 lb:q.lb=l.lb
 pre:q.pre=l.pre
 most:q.most=l.most
 start:q.start=l.start
 aJ:q.aJ=l.start
 gN:∃t,l.ar=q.ar++t
 cut:ie off q.all=ie off l.all
 nx:off≤q.next
 base:a8 q=a8 l
 size:e.size=d.size
 used:e.used≤d.used
 len:e.fs.length≤d.fs.length
 own:mv l d→mv q e
 names:∀n,(e.get n).isSome=true→(d.get n).isSome=true
 eF:∀n,(∀u,u≤1000000000→n≠nameOf l.pre u)→e.file n=d.file n∧e.get n=d.get n
 full:Full l d→Full q e
theorem pn.begin{l:Lx}{d:Dk}(hl:l.ok d)(hd:d.ok){off:Int}(h:off≤l.next):pn l d off {l with aJ:=l.start} d:=
 ⟨⟨hl.pre,hl.gN,hl.link,hl.ne,hl.start,⟨Int.le_refl _,hl.start.2.2⟩,hl.most,hl.len⟩,hd,rfl,rfl,rfl,rfl,rfl,⟨[],(List.append_nil _).symm⟩,rfl,h,rfl,rfl,Nat.le_refl _,Nat.le_refl _,fun h=>h,fun _ h=>h,fun _ _=>⟨rfl,rfl⟩,fun h=>h⟩
theorem pn.step{l q:Lx}{d e:Dk}{off:Int}(h:pn l d off q e){r:List Sx}{y:Sx}(hi:q.bX=r++[y])(ho:off≤q.ai.base)(h0:l.start≤off):pn l d off (q.pop r y) (e.del q.ai.nm):=by
 have KB:=Ij h.ok hi
 have iG:=h.ok.ai
 obtain⟨t,ht⟩:=h.gN
 have QA:=jp hi
 refine⟨Ko h.ok hi (by rw[h.start];omega) (by rw[h.aJ];omega),Dk.uD h.cS _,h.lb,h.pre,h.most,h.start,h.aJ,⟨q.ai::t,by rw[ht,QA,List.append_assoc];rfl⟩,?_,by show off≤y.next;omega,by rw[rD hi];exact h.base,h.size,by have:=Dk.kv h.cS q.ai.nm;have:=h.used;omega,Nat.le_trans (kI _ _) h.len,fun hw u hu hg=>?_,fun n hn=>h.names n (by rw[Dk.kX]at hn;by_cases hx:n=q.ai.nm<;>simp[hx]at hn<;>exact hn),fun n hn=>?_,fun hf s hs=>?_⟩
 ·
  rw[←h.cut,Ii hi,rJ,tI (l:=q.ai.bs) fun b hb=>by have:=kZ iG.1 hb;omega,List.append_nil]
 ·
  have lX:nameOf (q.pop r y).pre u≠q.ai.nm:=fun e'=>by rw[e',Dk.kX,if_pos rfl]at hg;cases hg
  rw[(Dk.cL _ lX).2]at hg
  obtain⟨s,hs,he⟩:=h.own hw u hu hg
  rw[QA]at hs
  rcases List.mem_append.1 hs with hs|hs
  ·
   exact⟨s,hs,he⟩
  ·
   exfalso
   rw[List.mem_singleton.1 hs]at he
   exact lX (by rw[iG.2.1,he];rfl)
 ·
  have h1:=iG.1.bC
  have h2:=iG.1.ed
  have dx:n≠q.ai.nm:=fun e'=>hn q.ai.base.toNat (by omega) (by rw[e',iG.2.1,h.pre])
  obtain⟨m1,m2⟩:=Dk.cL e dx
  obtain⟨m3,m4⟩:=h.eF n hn
  exact⟨m1.trans m3,m2.trans m4⟩
 ·
  have jB:s∈q.bX:=by rw[hi];exact List.mem_append_left _ hs
  rw[(Dk.cL e (h.ok.kG jB)).1]
  exact h.full hf s jB
structure tJ(l:Lx)(d:Dk)(off:Int)(q:Lx)(e:Dk):Prop where
 ok:q.ok e
 cS:e.ok
 lb:q.lb=l.lb
 pre:q.pre=l.pre
 most:q.most=l.most
 start:q.start=l.start
 aJ:q.aJ=min l.aJ q.next
 all:q.all=ie off l.all
 base:a8 q=a8 l
 size:e.size=d.size
 used:e.used≤d.used
 len:e.fs.length≤d.fs.length
 own:mv l d→mv q e
 names:∀n,(e.get n).isSome=true→(d.get n).isSome=true
 num:q.ar.length≤l.ar.length
 eF:∀n,(∀u,u≤1000000000→n≠nameOf l.pre u)→e.file n=d.file n∧e.get n=d.get n
 full:Full l d→Full q e
theorem xw{n:Int}{l:List aQ}(h:bS n l)(hg:∀b∈l,b.aT):∀b∈l,b.en≤aC n l:=fun b hb=>by
 obtain⟨i,hi⟩:=List.getElem?_of_mem hb
 have cO:=(List.getElem?_eq_some_iff.1 hi).1
 have h1:=(h.at hi).2
 have h2:=h.mono hg (i:=i+1) (j:=l.length) (by omega)
 rw[List.take_length]at h2
 omega
theorem xx:∀{n:Int} {l:List Sx} {c:Sx},jd n (l++[c])→aC n (l.flatMap fun s=>s.bs)=c.base
 |n,[],c,h=>h.1.symm
 |n,x::l,c,h=>by
  have h1:x.base=n:=h.1
  subst h1
  rw[List.flatMap_cons,jI]
  exact xx (n:=x.next) (l:=l) h.2
theorem E8{s:Sx}{off:Int}{z:Nat}(hz:z≤s.bs.length)(h1:∀q<z,pC s off q=false)(h2:∀q,z≤q→q<s.bs.length→pC s off q=true):s.bs.take z=ie off s.bs:=by
 have e:ie off s.bs=ie off (s.bs.take z)++ie off (s.bs.drop z):=by rw[←rJ,List.take_append_drop]
 rw[e,xu (l:=s.bs.take z),tI (l:=s.bs.drop z),List.append_nil]
 ·
  intro b hb
  obtain⟨i,hi⟩:=List.getElem?_of_mem hb
  rw[List.getElem?_drop]at hi
  have:=h2 (z+i) (by omega) (List.getElem?_eq_some_iff.1 hi).1
  rw[xp hi]at this
  exact of_decide_eq_true this
 ·
  intro b hb
  obtain⟨i,hi⟩:=List.getElem?_of_mem hb
  have cO:=(List.getElem?_eq_some_iff.1 hi).1
  rw[List.length_take]at cO
  rw[List.getElem?_take,if_pos (by omega)]at hi
  have:=h1 i (by omega)
  rw[xp hi]at this
  have:=of_decide_eq_false this
  omega
def Lx.dy(l q:Lx)(z:Nat)(sm:List Nat)(h:Int):Lx:={q with ai:=⟨q.ai.b,q.ai.nm,q.ai.base,q.ai.bs.take z,sm,q.ai.aa,q.ai.ac,q.ai.ia,q.ai.ic⟩,aJ:=h,la:=l.la,lc:=l.lc}
theorem k7(l q:Lx)(z sm h):a8 (l.dy q z sm h)=a8 q:=by
 unfold a8 Lx.ar Lx.dy
 cases q.bX<;>rfl
theorem pn.last{l q:Lx}{d e d':Dk}{off:Int}(h:pn l d off q e){z:Nat}{sm:List Nat}(hc:q.bX=[]∨q.ai.base<off)(hz:z≤q.ai.bs.length)(h1:∀i<z,pC q.ai off i=false)(h2:∀i,z≤i→i<q.ai.bs.length→pC q.ai off i=true)(iJ:Ix sm z)
  (CQ:z=q.ai.bs.length∧d'=e∨z<q.ai.bs.length∧d'=e.put q.ai.nm ⟨flat (q.ai.bs.take z),min (e.file q.ai.nm).safe (flat (q.ai.bs.take z)).length⟩) (yg:l.start≤aC (a8 l) (ie off l.all)) (hh:l.start≤l.aJ) (nx:Int) (lX:nx=aC q.ai.base (q.ai.bs.take z)):tJ l d off (l.dy q z sm (min l.aJ nx)) d':=by
 obtain⟨c1,c2,c3,c4⟩:=h.ok.ai
 have cy:(l.dy q z sm (min l.aJ nx)).all=ie off l.all:=by
  show((q.bX++[_]).flatMap fun s:Sx=>s.bs)=_
  rw[←h.cut,List.flatMap_append]
  have e1:q.all=q.bX.flatMap (fun s=>s.bs)++q.ai.bs:=by unfold Lx.all Lx.ar;rw[List.flatMap_append];simp
  rw[e1,rJ,←E8 hz h1 h2]
  have e2:ie off (q.bX.flatMap fun s=>s.bs)=q.bX.flatMap fun s=>s.bs:=by
   refine xu fun b hb=>?_
   rcases hc with hc|hc
   ·
    rw[hc]at hb;cases hb
   ·
    have Ik:=h.ok.chain
    rw[e1]at Ik
    have h3:=xw (bS.app.1 Ik).1 (fun x hx=>h.ok.aT x (by rw[e1];exact List.mem_append_left _ hx)) b hb
    have h4:=xx (l:=q.bX) (c:=q.ai) h.ok.link
    omega
  rw[e2];simp[Lx.dy]
 have EN:jd (a8 (l.dy q z sm (min l.aJ nx))) (l.dy q z sm (min l.aJ nx)).ar:=by rw[k7];exact rz (c:=q.ai) rfl h.ok.link
 have ki:(l.dy q z sm (min l.aJ nx)).next=aC (a8 l) (ie off l.all):=by
  have:=ot (l:=(l.dy q z sm (min l.aJ nx)).bX) (c:=(l.dy q z sm (min l.aJ nx)).ai) EN
  rw[←cy,←h.base,←k7 l q z sm (min l.aJ nx)]
  exact this.symm
 have KC:nx=(l.dy q z sm (min l.aJ nx)).next:=lX
 have ym:(flat (q.ai.bs.take z)).length≤(e.file q.ai.nm).b.length:=by rw[c4];exact pK z
 have Pd:d'.ok:=by
  rcases CQ with⟨_,rfl⟩|⟨_,rfl⟩
  ·
   exact h.cS
  ·
   exact Dk.dN h.cS (by dsimp only;have:=h.cS.used;omega) (by dsimp only;omega)
 have pq:∀n,n≠q.ai.nm→d'.file n=e.file n∧d'.get n=e.get n:=fun n hn=>by
  rcases CQ with⟨_,rfl⟩|⟨_,rfl⟩
  ·
   exact⟨rfl,rfl⟩
  ·
   exact Dk.aK _ _ hn
 have Km:(d'.get q.ai.nm).isSome=true∧(d'.file q.ai.nm).b=flat (q.ai.bs.take z):=by
  rcases CQ with⟨Pe,rfl⟩|⟨_,rfl⟩
  ·
   exact⟨c3,by rw[Pe,List.take_length];exact c4⟩
  ·
   exact⟨Dk.cB _ _ _,by rw[Dk.aV]⟩
 refine⟨⟨h.ok.pre,fun s hs=>?_,EN,h.ok.ne,⟨h.ok.start.1,by rw[k7];exact h.ok.start.2.1,by show q.start≤_;rw[ki,h.start];exact yg⟩,?_,h.ok.most,by have:=h.ok.len;unfold Lx.ar at this⊢;rw[List.length_append]at this⊢;exact this⟩,Pd,h.lb,h.pre,h.most,h.start,by rw[←KC];rfl,cy,by rw[k7];exact h.base,?_,?_,?_,fun hw u hu hg=>?_,fun n hn=>h.names n ?_,?_,fun n hn=>?_,fun hf s hs=>?_⟩
 ·
  rcases List.mem_append.1 hs with hs|hs
  ·
   obtain⟨k1,k2,k3,k4⟩:=h.ok.gN s (List.mem_append_left _ hs)
   obtain⟨m1,m2⟩:=pq s.nm (h.ok.kG hs)
   exact⟨k1,k2,by rw[m2];exact k3,by rw[m1];exact k4⟩
  ·
   rw[List.mem_singleton.1 hs]
   refine⟨⟨c1.bC,c1.ed,c1.chain.take z,fun b hb=>c1.aT b (List.mem_of_mem_take hb),?_,?_,?_⟩,c2,Km.1,Km.2⟩
   ·
    show(q.ai.bs.take z).length≤4096;rw[List.length_take];have:=c1.len;omega
   ·
    show Ix sm (q.ai.bs.take z).length;rw[List.length_take,Nat.min_eq_left hz];exact iJ
   ·
    show(q.ai.bs.take z).length≤q.ai.ac;rw[List.length_take];have:=c1.cap;omega
 ·
  have:l.start≤nx:=by rw[KC,ki];exact yg
  refine⟨?_,?_⟩
  ·
   show q.start≤min l.aJ nx;rw[h.start];omega
  ·
   rw[←KC];show min l.aJ nx≤nx;omega
 ·
  rcases CQ with⟨_,rfl⟩|⟨_,rfl⟩<;>exact h.size
 ·
  rcases CQ with⟨_,rfl⟩|⟨_,rfl⟩
  ·
   exact h.used
  ·
   have:=Dk.cf h.cS q.ai.nm ⟨flat (q.ai.bs.take z),min (e.file q.ai.nm).safe (flat (q.ai.bs.take z)).length⟩
   have:=h.used
   dsimp only at*
   omega
 ·
  rcases CQ with⟨_,rfl⟩|⟨_,rfl⟩
  ·
   exact h.len
  ·
   have e1:(e.put q.ai.nm ⟨flat (q.ai.bs.take z),min (e.file q.ai.nm).safe (flat (q.ai.bs.take z)).length⟩).fs.length=e.fs.length:=gD c3
   rw[e1];exact h.len
 ·
  have Cs:(e.get (nameOf q.pre u)).isSome=true:=by
   by_cases hn:nameOf q.pre u=q.ai.nm
   ·
    rw[hn];exact c3
   ·
    rw[←(pq _ hn).2];exact hg
  obtain⟨s,hs,he⟩:=h.own hw u hu Cs
  rcases List.mem_append.1 hs with hs|hs
  ·
   exact⟨s,List.mem_append_left _ hs,he⟩
  ·
   rw[List.mem_singleton.1 hs]at he
   exact⟨_,List.mem_append_right _ (.head _),he⟩
 ·
  by_cases hx:n=q.ai.nm
  ·
   rw[hx];exact c3
  ·
   rw[←(pq _ hx).2];exact hn
 ·
  obtain⟨t,ht⟩:=h.gN
  rw[ht,List.length_append]
  have:(l.dy q z sm (min l.aJ nx)).ar.length=q.ar.length:=by unfold Lx.ar Lx.dy;rw[List.length_append,List.length_append];rfl
  omega
 ·
  have h3:=c1.bC
  have h4:=c1.ed
  have dx:n≠q.ai.nm:=fun e'=>hn q.ai.base.toNat (by omega) (by rw[e',c2,h.pre])
  obtain⟨m1,m2⟩:=pq n dx
  obtain⟨m3,m4⟩:=h.eF n hn
  exact⟨m1.trans m3,m2.trans m4⟩
 ·
  rw[(pq s.nm (h.ok.kG hs)).1]
  exact h.full hf s hs
def nB:List UInt8:=[48,49,50,51,52,53,54,55,56,57]
def dP:List UInt8:=[46,108,111,103]
def oB(pre n:Nm):List UInt8:=Lib.trimPrefix n (pre++[45])
def jt(pre n:Nm):List UInt8:=Lib.trimSuffix (oB pre n) dP
def nC(pre n:Nm):Bool:=!(Lib.hasPrefix n (pre++[45]))||!(Lib.hasSuffix (oB pre n) dP)||!(decide ((jt pre n).length=10))||!(decide (Lib.trimS (jt pre n) nB=[]))
def bn(pre n:Nm):Option Nat:=if nC pre n=true then none else if val 0 (jt pre n)≤1000000000 then some (val 0 (jt pre n))else none
theorem xy{c:UInt8}(h:c∈nB):digit c:=by
 have:∀x∈nB,48≤x.toNat∧x.toNat≤57:=by decide
 exact this c h
theorem oW{c:UInt8}(h:digit c):c∈nB:=by
 have key:∀k:Fin 256,48≤(k:Nat)∧(k:Nat)≤57→UInt8.ofNat k∈nB:=by decide+kernel
 have:=key ⟨c.toNat,c.toNat_lt⟩ h
 simpa using this
theorem E9{pre n:Nm}(h:nC pre n=false):Lib.hasPrefix n (pre++[45])=true∧Lib.hasSuffix (oB pre n) dP=true∧(jt pre n).length=10∧∀c∈jt pre n,digit c:=by
 unfold nC at h
 simp only[Bool.or_eq_false_iff,Bool.not_eq_false',decide_eq_true_eq]at h
 obtain⟨⟨⟨h1,h2⟩,h3⟩,h4⟩:=h
 exact⟨h1,h2,h3,fun c hc=>xy (jk.1 h4 c hc)⟩
theorem IE{pre:Nm}{u:Nat}(hu:u≤1000000000):bn pre (nameOf pre u)=some u:=by
 have e0:nameOf pre u=(pre++[45])++(pad u++dP):=by unfold nameOf dP;rw[List.append_assoc]
 have h1:Lib.hasPrefix (nameOf pre u) (pre++[45])=true:=by rw[e0];exact List.isPrefixOf_iff_prefix.2 (List.prefix_append _ _)
 have e1:oB pre (nameOf pre u)=pad u++dP:=by unfold oB Lib.trimPrefix;rw[if_pos h1,e0,List.drop_left]
 have h2:Lib.hasSuffix (pad u++dP) dP=true:=List.isSuffixOf_iff_suffix.2 (List.suffix_append _ _)
 have e2:jt pre (nameOf pre u)=pad u:=by
  unfold jt;rw[e1];unfold Lib.trimSuffix;rw[if_pos h2,List.length_append,Nat.add_sub_cancel,List.take_left]
 have h3:(pad u).length=10:=u5 (by omega)
 have h4:Lib.trimS (pad u) nB=[]:=jk.2 fun c hc=>oW (od u c hc)
 have h5:nC pre (nameOf pre u)=false:=by unfold nC;rw[h1,e1,h2,e2,decide_eq_true h3,decide_eq_true h4];rfl
 unfold bn;rw[if_neg (by rw[h5];decide),e2,pU,if_pos hu]
theorem A7{pre n:Nm}{u:Nat}(h:bn pre n=some u):u≤1000000000∧∃t:List UInt8,n=pre++[45]++t++dP∧t.length=10∧val 0 t=u∧∀c∈t,digit c:=by
 unfold bn at h
 split at h
 ·
  cases h
 ·
  rename_i hb
  split at h
  ·
   rename_i hu
   cases h
   obtain⟨h1,h2,h3,h4⟩:=E9 (Bool.eq_false_iff.2 hb)
   refine⟨hu,jt pre n,?_,h3,rfl,h4⟩
   obtain⟨t,ht⟩:=List.isPrefixOf_iff_prefix.1 h1
   have e1:oB pre n=t:=by unfold oB Lib.trimPrefix;rw[if_pos h1,←ht,List.drop_left]
   rw[e1]at h2
   obtain⟨r,hr⟩:=List.isSuffixOf_iff_suffix.1 h2
   have e2:jt pre n=r:=by unfold jt;rw[e1];unfold Lib.trimSuffix;rw[if_pos h2,←hr,List.length_append,Nat.add_sub_cancel,List.take_left]
   rw[e2,List.append_assoc,hr];exact ht.symm
  ·
   cases h
def bj(pre:Nm)(ns:List Nm):List Nat:=ns.filterMap (bn pre)
def Gk(n:Nm):List Value:=[aW n]
theorem pX(n:Nm):(Gk n).length=1:=rfl
theorem vn:∀l:List Nm,l.map aW=l.flatMap Gk
 |[]=>rfl
 |x::l=>by rw[List.map_cons,List.flatMap_cons,vn l];rfl
theorem vo{pre:Nm}{ns:List Nm}{i:Nat}{n:Nm}(h:ns[i]?=some n):bj pre (ns.take (i+1))=bj pre (ns.take i)++(bn pre n).toList:=by
 unfold bj;rw[List.take_add_one,h,List.filterMap_append]
 cases hb:bn pre n<;>simp[hb]
theorem Fa(n p:List UInt8):(Lib.trimPrefix n p).length≤n.length:=by unfold Lib.trimPrefix;split<;>simp
theorem Fb(n p:List UInt8):(Lib.trimSuffix n p).length≤n.length:=by unfold Lib.trimSuffix;split<;>simp[List.length_take]
theorem Pf{pre x:Nm}(h:(!Lib.hasPrefix x (pre++[45]))=true):true=nC pre x:=by unfold nC;rw[h];rfl
theorem M4{pre x:Nm}(h:(!Lib.hasPrefix x (pre++[45]))=false)(h2:(!Lib.hasSuffix (oB pre x) dP)=true):true=nC pre x:=by unfold nC;rw[h,h2];rfl
theorem KD{pre x:Nm}(h:(!Lib.hasPrefix x (pre++[45]))=false)(h2:(!Lib.hasSuffix (oB pre x) dP)=false)(h3:(!decide ((jt pre x).length=10))=true):true=nC pre x:=by unfold nC;rw[h,h2,h3];rfl
theorem KE{pre x:Nm}(h:(!Lib.hasPrefix x (pre++[45]))=false)(h2:(!Lib.hasSuffix (oB pre x) dP)=false)(h3:(!decide ((jt pre x).length=10))=false):(!decide (Lib.trimS (jt pre x) nB=[]))=nC pre x:=by unfold nC;rw[h,h2,h3];rfl
theorem Pg(l:List UInt8):decide ((l.length:Int)=10)=decide (l.length=10):=decide_eq_decide.2 (by omega)
theorem rK(lb db mb:Nat)(d:Dk)(p:Option Addr)(pre:Nm)(most start aJ:Int)(la:Option Addr)(n lc:Nat)(hk:∀p∈d.fs,p.1.length≤64)(hn:d.fs.length≤1000000)(hp:pre.length≤40):Cn Tryz.prog 66 [.pointer (some ⟨lb,0,none⟩)] (aL lb 0 (a6 p db pre most start aJ la n lc)) [an db (d.cells mb) 74,mp aW Fl.val mb d.fs] fun v G=>∃ra rc,v=.slice ra (bj pre (bk (d.fs.map (·.1)))).length rc∧G=[an db (d.cells mb) 74,mp aW Fl.val mb d.fs,arr 3 1 ra rc ((bj pre (bk (d.fs.map (·.1)))).flatMap fI)]:=by
 refine .en Tryz.func66 fun R k=>?_
 have Ph:∀x∈(bk (d.fs.map (·.1))),x.length≤64:=fun x hx=>by
  obtain⟨p,L8,rfl⟩:=List.mem_map.1 ((List.mergeSort_perm _ _).mem_iff.1 hx)
  exact hk p L8
 refine .ax fds 14 ?_
 refine .rd (.load dh rfl (af.one (i:=1) (af.pick .p2 (k.mono fun _ h=>h)) rfl)) ?_
 refine .fn rfl rfl .cU ah (xm db mb d hk hn) (fun v G1 hq=>?_)
 obtain⟨sa,sc,rfl,rfl⟩:=hq
 simp only[ag,ae]
 refine .rd (.bP rfl rfl Tryz.underlying101 rfl) ?_
 refine .aH fds 2 ?_
 have oS:(bk (d.fs.map (·.1))).length=d.fs.length:=by unfold bk;rw[List.length_mergeSort,List.length_map]
 refine .perm .wi ?_
 refine .ca (bF (aD sa ((bk (d.fs.map (·.1))).flatMap Gk))) (by rw[vn]) ?_
 refine .cq 3 1 none ?_
 refine .block ?_
 refine .loop (σ:=Nat×Option Addr×Nat) (fun⟨i,ra,rc⟩=>i≤d.fs.length) (fun⟨i,ra,rc⟩=>d.fs.length-i) (fun⟨i,ra,rc⟩=>[(0,.pointer (some ⟨lb,0,none⟩)),(15,.slice sa d.fs.length sc),(16,.int .i64 (d.fs.length:Nat)),(3,.slice ra (bj pre ((bk (d.fs.map (·.1))).take i)).length rc),(17,.int .i64 (i:Nat))]) (fun⟨i,ra,rc⟩=>[arr 3 1 ra rc ((bj pre ((bk (d.fs.map (·.1))).take i)).flatMap fI),bF (aD sa ((bk (d.fs.map (·.1))).flatMap Gk)),an db (d.cells mb) 74,mp aW Fl.val mb d.fs,R]) (0,none,0) (Nat.zero_le _) .r5 .fe (fun s' hI ih=>?_)
 obtain⟨i,ra,rc⟩:=s'
 dsimp only at hI ih⊢
 refine .go fds 5 ?_
 refine .aM rfl (fun c3=>?_) (fun c3=>?_)
 ·
  refine .go fds 4 ?_
  obtain⟨x,hx⟩:∃x,(bk (d.fs.map (·.1)))[i]?=some x:=⟨_,List.getElem?_eq_getElem (by omega)⟩
  have A8:=Ph x (List.mem_of_getElem? hx)
  have Ot:(oB pre x).length≤64:=Nat.le_trans (Fa _ _) A8
  have N1:=vo (pre:=pre) hx
  have yl:(bj pre ((bk (d.fs.map (·.1))).take i)).length≤i:=by unfold bj;refine Nat.le_trans (List.length_filterMap_le _ _) ?_;rw[List.length_take];omega
  refine .tell (φ:=∃b o,sa=some ⟨b,o,none⟩) ((af.bF .p1).mono fun _ h=>aD.addr h (by rw[au pX];omega)) (fun hh=>?_)
  obtain⟨b9,o9,h9⟩:=hh
  refine .region ?_
  refine .rd (.indexAddr (b:=b9) (o:=o9) Tryz.underlying101 fF (by show some (Value.slice (sa) _ _)=_;rw[h9]) rfl (by omega) (by omega)) ?_
  refine .rd (.load aR rfl (af.one (i:=0) (af.elem (f:=Gk) pX (by decide) ((af.bF .p1).mono fun _ h=>h9▸h) hx) rfl)) ?_
  refine .al 20 (.string (str x)) rfl (rfl) ?_
  refine .ax fds 8 ?_
  refine .rd (.load aR rfl (af.one (i:=2) (af.pick .p4 (k.mono fun _ h=>h)) rfl)) ?_
  refine .rd (.dZ (l:=pre) (m:=[45]) rfl rfl (by(repeat rw[List.length_append]);simp only[List.length_cons,List.length_nil];omega)) ?_
  refine .al 27 (.string (str (pre++[45]))) rfl (rfl) ?_
  refine .fn rfl rfl .nil ah (Iq x (pre++[45])) (fun v G1 hq=>?_)
  obtain⟨rfl,rfl⟩:=hq
  simp only[ae]
  refine .ax fds 9 ?_
  refine .fn rfl rfl .nil ah (A1 (oB pre x) dP (by omega)) (fun v G1 hq=>?_)
  obtain⟨rfl,rfl⟩:=hq
  simp only[ae]
  refine .ax fds 9 ?_
  refine aZ.join 16 51 (nC pre x) ?_ ?_
  ·
   refine .go fds 3 ?_
   refine .split (t:=38) rfl (fun Fc=>?_) (fun Fc=>?_)
   ·
    refine .go fds 13 ?_
    refine .nil ⟨rfl,?_,by repeat (first|exact Le.refl _|refine Le.skip rfl ?_)⟩
    exact congrArg (fun x=>some (Value.bool x)) (Pf Fc)
   ·
    refine .go fds 4 ?_
    refine .split (t:=42) rfl (fun IF=>?_) (fun IF=>?_)
    ·
     refine .go fds 9 ?_
     refine .nil ⟨rfl,?_,by repeat (first|exact Le.refl _|refine Le.skip rfl ?_)⟩
     exact congrArg (fun x=>some (Value.bool x)) (M4 Fc IF)
    ·
     refine .go fds 1 ?_
     refine .on (t:=42) rfl rfl ?_
     refine .rd (.ey rfl rfl Tryz.underlying9 rfl) ?_
     refine .go fds 1 ?_
     refine .al 45 (.bool (!decide ((jt pre x).length=10))) rfl (by rw[←Pg];rfl) ?_
     refine .go fds 2 ?_
     refine .split (t:=47) rfl (fun Fe=>?_) (fun Fe=>?_)
     ·
      refine .go fds 4 ?_
      refine .nil ⟨rfl,?_,by repeat (first|exact Le.refl _|refine Le.skip rfl ?_)⟩
      exact congrArg (fun x=>some (Value.bool x)) (KD Fc IF Fe)
     ·
      refine .go fds 1 ?_
      refine .on (t:=47) rfl rfl ?_
      refine .fn rfl rfl .nil ah (nv (jt pre x) nB (by have:=Fb (oB pre x) dP;unfold jt;omega) (by decide) (by decide)) (fun v G1 hq=>?_)
      obtain⟨rfl,rfl⟩:=hq
      simp only[ae]
      refine .on (t:=47) rfl rfl ?_
      refine .rd (.Ds (m:=[]) rfl rfl) ?_
      refine .rd (.I9 rfl rfl) ?_
      refine .nil ⟨rfl,?_,by repeat (first|exact Le.refl _|refine Le.skip rfl ?_)⟩
      exact congrArg (fun x=>some (Value.bool x)) (KE Fc IF Fe)
  refine .nil ?_
  refine .cond rfl (fun c7=>?_) (fun c7=>?_)
  ·
   have oA:bj pre ((bk (d.fs.map (·.1))).take (i+1))=bj pre ((bk (d.fs.map (·.1))).take i):=by rw[N1];unfold bn;rw[if_pos c7];simp
   refine .ca (arr 3 1 ra rc ((bj pre ((bk (d.fs.map (·.1))).take (i+1))).flatMap fI)) (by rw[oA]) ?_
   refine .ax fds 2 ?_
   refine .rd (.add rfl rfl (by omega) (by omega)) ?_
   refine .aH fds 2 ?_
   exact(ih (i+1,ra,rc) (by show i+1≤_;omega) (by show d.fs.length-(i+1)<d.fs.length-i;omega)).to (.cons rfl (.cons rfl (.cons rfl (.cons (by show _=some (Value.slice _ (List.length _) _);rw[oA];(try rw[List.length_append]);rfl) .r1)))) .fe
  ·
   obtain⟨gE,kO,vJ,xz⟩:=E9 c7
   refine .ax fds 4 ?_
   refine .fn rfl rfl .nil ah (vg (jt pre x) (fun e=>by rw[e]at vJ;cases vJ) xz (by omega)) (fun v G1 hq=>?_)
   obtain⟨rfl,rfl⟩:=hq
   simp only[ae]
   refine .ax fds 9 ?_
   refine .rd (.yJ Tryz.underlying166 rfl) ?_
   refine .aH fds 5 ?_
   refine .aM rfl (fun c9=>?_) (fun c9=>?_)
   ·
    refine .ax fds 3 ?_
    refine .ef (.cr (cs:=[.int .i64 ((val 0 (jt pre x):Nat):Int)]) Tryz.underlying31 gR (by decide) rfl rfl rfl (aB.of rfl)) ?_
    rintro _ _ ⟨bs,rfl,rfl⟩
    refine .ef (.append rfl rfl Tryz.underlying31 gR rfl (aB.of rfl) (by decide) (by decide) rfl rfl .p1 (n:=(bj pre ((bk (d.fs.map (·.1))).take i)).length) (m:=1) (au dR _) (.dM .p0 Tryz.underlying31 rfl (by decide)) (by omega)) ?_
    rintro _ _ ⟨qa,qc,rfl,qn,rfl⟩
    refine .aH fds 2 ?_
    have oA:bj pre ((bk (d.fs.map (·.1))).take (i+1))=bj pre ((bk (d.fs.map (·.1))).take i)++[val 0 (jt pre x)]:=by rw[N1];unfold bn;rw[if_neg (by rw[c7];decide),if_pos (by omega)];rfl
    refine .ca (arr 3 1 qa qc ((bj pre ((bk (d.fs.map (·.1))).take (i+1))).flatMap fI)) (by rw[oA,wD]) ?_
    refine .ax fds 2 ?_
    refine .rd (.add rfl rfl (by omega) (by omega)) ?_
    refine .aH fds 2 ?_
    exact(ih (i+1,qa,qc) (by show i+1≤_;omega) (by show d.fs.length-(i+1)<d.fs.length-i;omega)).to (.cons rfl (.cons rfl (.cons rfl (.cons (by show _=some (Value.slice _ (List.length _) _);rw[oA];(try rw[List.length_append]);rfl) .r1)))) (.cons .p0 (.cons .p1 (.cons .p1 (.cons .p1 (.cons .p1 .nil)))))
   ·
    have oA:bj pre ((bk (d.fs.map (·.1))).take (i+1))=bj pre ((bk (d.fs.map (·.1))).take i):=by rw[N1];unfold bn;rw[if_neg (by rw[c7];decide),if_neg (by omega)];simp
    refine .ca (arr 3 1 ra rc ((bj pre ((bk (d.fs.map (·.1))).take (i+1))).flatMap fI)) (by rw[oA]) ?_
    refine .ax fds 3 ?_
    refine .rd (.add rfl rfl (by omega) (by omega)) ?_
    refine .aH fds 2 ?_
    exact(ih (i+1,ra,rc) (by show i+1≤_;omega) (by show d.fs.length-(i+1)<d.fs.length-i;omega)).to (.cons rfl (.cons rfl (.cons rfl (.cons (by show _=some (Value.slice _ (List.length _) _);rw[oA];(try rw[List.length_append]);rfl) .r1)))) .fe
 ·
  refine .go fds 6 ?_
  have cy:(bk (d.fs.map (·.1))).take i=(bk (d.fs.map (·.1))):=List.take_of_length_le (by omega)
  have Kg:bj pre ((bk (d.fs.map (·.1))).take i)=bj pre (bk (d.fs.map (·.1))):=by rw[cy]
  refine .aG Tryz.func66 (.t1 rfl) (.cons .p2 (.cons .p2 (.cons .p0 (.cons .p1 .nil)))) ?_
  exact⟨[_,_,_],⟨ra,rc,by rw[←Kg];rfl,by rw[←Kg]⟩,rfl⟩
def bO(pre:Nm)(l:List Nat)(d:Dk):Dk:=l.foldl (fun d b=>d.del (nameOf pre b)) d
theorem xA(pre:Nm)(l:List Nat)(b:Nat)(d:Dk):bO pre (l++[b]) d=(bO pre l d).del (nameOf pre b):=by unfold bO;rw[List.foldl_append];rfl
theorem oC{pre:Nm}:∀{l:List Nat} {d:Dk},d.ok→(bO pre l d).ok
 |[],_,h=>h
 |b::l,d,h=>oC (l:=l) (d:=d.del (nameOf pre b)) (Dk.uD h _)
theorem jO{pre n:Nm}:∀{l:List Nat} {d:Dk},(∀b∈l,n≠nameOf pre b)→(bO pre l d).get n=d.get n
 |[],_,_=>rfl
 |b::l,d,h=>(jO (l:=l) (d:=d.del (nameOf pre b)) fun x hx=>h x (.tail _ hx)).trans (Dk.cL d (h b (.head _))).2
theorem Ff{pre:Nm}{l:List Nat}{d:Dk}(mo:l.Nodup)(cy:∀b∈l,(d.get (nameOf pre b)).isSome=true){i b:Nat}(hb:l[i]?=some b):((bO pre (l.take i) d).get (nameOf pre b)).isSome=true:=by
 rw[jO]
 ·
  exact cy b (List.mem_of_getElem? hb)
 ·
  intro x hx e
  have QB:=ci e
  subst QB
  obtain⟨j,hj⟩:=List.getElem?_of_mem hx
  have fU:j<i:=by have:=(List.getElem?_eq_some_iff.1 hj).1;rw[List.length_take]at this;omega
  rw[List.getElem?_take,if_pos fU]at hj
  obtain⟨h1,h2⟩:=List.getElem?_eq_some_iff.1 hj
  obtain⟨h3,h4⟩:=List.getElem?_eq_some_iff.1 hb
  exact(List.pairwise_iff_getElem.1 mo j i h1 h3 fU) (h2.trans h4.symm)
theorem A9(lb db mb:Nat)(d:Dk)(p:Option Addr)(pre:Nm)(most start aJ:Int)(la:Option Addr)(n lc:Nat)(base:Nat)(lI:List Nat)(hd:d.ok)(hp:oe pre)(hk:∀p∈d.fs,p.1.length≤64)(hn:d.fs.length≤1000000)(hb:base≤1000000000)(Ct:bj pre (bk (d.fs.map (·.1)))=lI)(mo:lI.Nodup)(h9:∀b∈lI,b≤1000000000)(cy:∀b∈lI,(d.get (nameOf pre b)).isSome=true)(QC:(bO pre lI d).fs.length<256)(Ji:((bO pre lI d).file (nameOf pre base)).b=[]):Cn Tryz.prog 70 [.pointer (some ⟨lb,0,none⟩),.int .i64 (base:Int)] LV [an lb (a6 p db pre most start aJ la n lc) 57,an db (d.cells mb) 74,mp aW Fl.val mb d.fs] fun v G=>∃sb sm aa ac ia ic qa qc,v=.int .i64 0∧Ix sm 0∧G=[an lb (a6 (some ⟨sb,0,none⟩) db pre most start aJ qa ([]++[sb]).length qc) 57,arr 54 1 qa qc (([]++[sb]).flatMap yp),an db (((bO pre lI d).put (nameOf pre base) ⟨flat [],(flat []).length⟩).cells mb) 74,mp aW Fl.val mb ((bO pre lI d).put (nameOf pre base) ⟨flat [],(flat []).length⟩).fs,an sb ((Sx.mk sb (nameOf pre base) (base:Int) [] sm aa ac ia ic).cells db) 110,arr 112 4 aa ac (Sx.mk sb (nameOf pre base) (base:Int) [] sm aa ac ia ic).rows,arr 3 1 ia ic (sm.flatMap fI)]:=by
 refine .en Tryz.func70 fun R k=>?_
 have hlen:lI.length≤1000000:=by rw[←Ct];unfold bj;refine Nat.le_trans (List.length_filterMap_le _ _) ?_;unfold bk;rw[List.length_mergeSort,List.length_map];exact hn
 refine .ax fds 8 ?_
 refine .fn rfl rfl .px ((af.an .p0)) (rK lb db mb d p pre most start aJ la n lc hk hn hp.len) (fun v G1 hq=>?_)
 obtain⟨ra,rc,rfl,rfl⟩:=hq
 simp only[ag,ae]
 refine .rd (.bP rfl rfl Tryz.underlying31 rfl) ?_
 refine .aH fds 2 ?_
 refine .perm .qA ?_
 refine .ca (arr 3 1 ra rc (lI.flatMap fI)) (by rw[Ct]) ?_
 refine .al 8 (.slice ra lI.length rc) rfl (by rw[Ct]) ?_
 refine .al 9 (.int .i64 (lI.length:Nat)) rfl (by rw[Ct]) ?_
 refine .block ?_
 refine .loop (σ:=Nat) (fun i=>i≤lI.length) (fun i=>lI.length-i) (fun i=>[(0,.pointer (some ⟨lb,0,none⟩)),(1,.int .i64 (base:Nat)),(8,.slice ra lI.length rc),(9,.int .i64 (lI.length:Nat)),(10,.int .i64 (i:Nat))]) (fun i=>[an lb (a6 p db pre most start aJ la n lc) 57,arr 3 1 ra rc (lI.flatMap fI),an db ((bO pre (lI.take i) d).cells mb) 74,mp aW Fl.val mb (bO pre (lI.take i) d).fs,R]) 0 (Nat.zero_le _) .r5 .ux (fun i hI ih=>?_)
 refine .go fds 5 ?_
 refine .aM rfl (fun c2=>?_) (fun c2=>?_)
 ·
  refine .go fds 4 ?_
  obtain⟨x,hx⟩:∃x,lI[i]?=some x:=⟨_,List.getElem?_eq_getElem (by omega)⟩
  have UN:=h9 x (List.mem_of_getElem? hx)
  have QD:(bO pre (lI.take (i+1)) d)=(bO pre (lI.take i) d).del (nameOf pre x):=by rw[←nX hx,xA]
  refine .tell (φ:=∃b o,ra=some ⟨b,o,none⟩) ((af.arr .p1).mono fun _ h=>aD.addr h (by rw[au dR];omega)) (fun hh=>?_)
  obtain⟨b9,o9,QE⟩:=hh
  refine .region ?_
  refine .rd (.indexAddr (b:=b9) (o:=o9) Tryz.underlying31 cc (by show some (Value.slice (ra) _ _)=_;rw[QE]) rfl (by omega) (by omega)) ?_
  refine .rd (.load ak rfl (af.one (i:=0) (af.elem (f:=fI) dR (by decide) ((af.arr .p1).mono fun _ h=>QE▸h) hx) rfl)) ?_
  refine .aH fds 2 ?_
  refine .dr [3] [an lb (a6 p db pre most start aJ la n lc) 57] ?_
  refine .aq fds [0] ?_
  refine .aq fds [1] ?_
  refine .aq fds [2] ?_
  refine .re 3 rfl (.ld dh rfl .p0 rfl) .q0 ?_
  refine .aq fds [4] ?_
  refine .aq fds [5] ?_
  refine .eg 6 rfl (.fn rfl rfl .nil ((af.an .p0).and (af.pick .p4 k)) (pW lb db p pre most start aJ la n lc x (by omega) hp.len)) ?_
  rintro v _ ⟨G1,hq,rfl⟩
  obtain⟨rfl,rfl⟩:=hq
  simp only[ae]
  refine⟨.inr ⟨_,.q0⟩,?_⟩
  refine .eg 7 rfl (.fn rfl rfl .Jj ah (oy db mb (bO pre (lI.take i) d) (nameOf pre x) (oC hd) (Ff mo cy hx))) ?_
  rintro v _ ⟨G1,hq,rfl⟩
  obtain⟨rfl,rfl⟩:=hq
  simp only[ag,ae]
  refine ay ?_
  refine .dn ?_
  refine .ca (an db ((bO pre (lI.take (i+1)) d).cells mb) 74) (by rw[QD]) ?_
  refine .perm .qz ?_
  refine .ca (mp aW Fl.val mb (bO pre (lI.take (i+1)) d).fs) (by rw[QD]) ?_
  refine .ax fds 2 ?_
  refine .rd (.add rfl rfl (by omega) (by omega)) ?_
  refine .aH fds 2 ?_
  exact(ih (i+1) (by show i+1≤_;omega) (by show lI.length-(i+1)<lI.length-i;omega)).to .r5 (.cons .p2 (.cons .p2 (.cons .p1 (.cons .p0 (.cons .p0 .nil)))))
 ·
  refine .go fds 2 ?_
  have Jp:lI.take i=lI:=List.take_of_length_le (by omega)
  refine .perm .qA ?_
  refine .ca (an db ((bO pre lI d).cells mb) 74) (by rw[Jp]) ?_
  refine .perm .ux ?_
  refine .ca (mp aW Fl.val mb (bO pre lI d).fs) (by rw[Jp]) ?_
  refine .ax fds 4 ?_
  refine .dc (.store mS rfl rfl .p2 rfl aU) ?_
  rintro _ _ rfl
  refine .aH fds 2 ?_
  refine .ca (an lb (a6 p db pre most start aJ none ([]:List Nat).length 0) 57) (rfl) ?_
  refine .cq 54 1 none ?_
  refine .ca (arr 54 1 none 0 (([]:List Nat).flatMap yp)) rfl ?_
  refine .ax fds 3 ?_
  refine .fn rfl rfl (.cons .p1 (.cons .p0 (.cons .p1 (.cons .p0 .nil)))) (af.pick .p1 k) (vl lb db mb (bO pre lI d) p pre most start aJ none 0 [] base [] [] (oC hd) hp hb (.inr QC) Ji (.inl rfl) trivial (fun _ h=>by cases h) (by decide) (by decide)) (fun v G1 hq=>?_)
  obtain⟨sb,sm,aa,ac,ia,ic,qa,qc,rfl,iJ,qT,rfl⟩:=hq
  simp only[ag,ae]
  refine .aH fds 2 ?_
  refine .aG Tryz.func70 (.t1 rfl) (.cons .p0 (.cons .p0 (.cons .p0 (.cons .p0 (.cons .p0 (.cons .p0 (.cons .p0 (.cons .p1 .nil)))))))) ?_
  exact⟨[_,_,_,_,_,_,_],⟨sb,sm,aa,ac,ia,ic,qa,qc,rfl,iJ,rfl⟩,rfl⟩
def zv(lb:Nat)(pre:Nm)(most:Int)(sb:Nat)(sm:List Nat)(aa:Option Addr)(ac:Nat)(ia:Option Addr)(ic:Nat)(qa:Option Addr)(qc:Nat):Lx:=⟨lb,pre,most,0,0,[],⟨sb,nameOf pre 0,0,[],sm,aa,ac,ia,ic⟩,qa,qc⟩
theorem IG{lb:Nat}{pre:Nm}{most:Int}{sb:Nat}{sm:List Nat}{aa:Option Addr}{ac:Nat}{ia:Option Addr}{ic:Nat}{qa:Option Addr}{qc:Nat}{d:Dk}(hp:oe pre)(h1:256≤most)(h2:most≤1000000)(iJ:Ix sm 0):(zv lb pre most sb sm aa ac ia ic qa qc).ok (d.put (nameOf pre 0) ⟨[],0⟩):=by
 refine⟨hp,fun s hs=>?_,⟨rfl,trivial⟩,fun _ h=>(by cases h),⟨Int.le_refl _,Int.le_refl _,Int.le_refl _⟩,⟨Int.le_refl _,Int.le_refl _⟩,⟨h1,h2⟩,by show 1≤100000;omega⟩
 rw[List.mem_singleton.1 hs]
 exact⟨⟨Int.le_refl _,by show(0:Int)≤1000000000;omega,trivial,fun _ h=>(by cases h),Nat.zero_le _,iJ,Nat.zero_le _⟩,rfl,Dk.cB _ _ _,by show((d.put (nameOf pre 0) _).file (nameOf pre 0)).b=flat [];rw[Dk.aV];rfl⟩
theorem KF{sb:Nat}{nm:Nm}{base:Int}{sm:List Nat}{aa:Option Addr}{ac:Nat}{ia:Option Addr}{ic:Nat}(h0:0≤base)(h1:base≤1000000000)(iJ:Ix sm 0):(Sx.mk sb nm base [] sm aa ac ia ic).ok:=⟨h0,h1,trivial,fun _ h=>(by cases h),Nat.zero_le _,iJ,Nat.zero_le _⟩
theorem Fg(lb db mb:Nat)(d:Dk)(p:Option Addr)(pre:Nm)(most start aJ:Int)(la:Option Addr)(n lc:Nat)(hp:oe pre)(hm:(d.get (aP pre)).isSome=false):Cn Tryz.prog 65 [.pointer (some ⟨lb,0,none⟩)] (aL lb 0 (a6 p db pre most start aJ la n lc)) [an db (d.cells mb) 74,mp aW Fl.val mb d.fs] fun v G=>v=.bool true∧G=[an db (d.cells mb) 74,mp aW Fl.val mb d.fs]:=by
 refine .en Tryz.func65 fun R k=>?_
 have h3:=hp.len
 refine .go fds 5 ?_
 refine .dr [3,7] [R] ?_
 refine .aq fds [0] ?_
 refine .aq fds [1] ?_
 refine .aq fds [2] ?_
 refine .re 3 rfl (.load dh rfl (af.one (i:=1) (af.pick .p0 (k.mono fun _ h=>h)) rfl)) .q2 ?_
 refine .aq fds [4] ?_
 refine .aq fds [5] ?_
 refine .aq fds [6] ?_
 refine .re 7 rfl (.load aR rfl (af.one (i:=2) (af.pick .p0 (k.mono fun _ h=>h)) rfl)) .q2 ?_
 refine .rq 8 rfl (.dZ (l:=pre) (m:=[46,109,101,116,97]) rfl rfl (by(repeat rw[List.length_append]);simp only[List.length_cons,List.length_nil];omega)) ?_
 refine .al 20 (.string (str (aP pre))) rfl (rfl) ?_
 refine .eg 9 rfl (.fn rfl rfl .cU ah (jN db mb d (aP pre))) ?_
 rintro v _ ⟨G1,hq,rfl⟩
 obtain⟨rfl,rfl⟩:=hq
 simp only[ag,ae]
 refine ay ?_
 refine .al 21 (.tuple #[.string (str (d.file (aP pre)).b),.int .i64 8]) rfl (by rw[if_neg (by rw[hm];decide)]) ?_
 refine .aq fds [10] ?_
 refine .aq fds [11] ?_
 refine .aq fds [12] ?_
 refine .aq fds [13] ?_
 refine .aq fds [14] ?_
 refine .dn ?_
 refine .go fds 11 ?_
 refine .aG Tryz.func65 (.t1 rfl) .ez ?_
 exact⟨[_,_],⟨rfl,rfl⟩,rfl⟩
theorem Fh(db mb:Nat)(d:Dk)(pre:Nm)(most:Int)(hd:d.ok)(hp:oe pre)(hk:∀p∈d.fs,p.1.length≤64)(hn:d.fs.length≤1000000)(h1:256≤most)(h2:most≤1000000)(hm:(d.get (aP pre)).isSome=false)(Ct:bj pre (bk (d.fs.map (·.1)))=[])(hr:d.fs.length<256)(LA:(d.file (nameOf pre 0)).b=[]):Cn Tryz.prog 32 [.pointer (some ⟨db,0,none⟩),aW pre,.int .i64 most] LV [an db (d.cells mb) 74,mp aW Fl.val mb d.fs] fun v G=>∃lx sb sm aa ac ia ic qa qc,v=.tuple #[.pointer (some ⟨lx,0,none⟩),.int .i64 0]∧Ix sm 0∧G=[LG db (zv lx pre most sb sm aa ac ia ic qa qc),an db ((d.put (nameOf pre 0) ⟨[],0⟩).cells mb) 74,mp aW Fl.val mb (d.put (nameOf pre 0) ⟨[],0⟩).fs]:=by
 refine .en Tryz.func32 fun R k=>?_
 have h3:=hp.len
 refine .ax fds 9 ?_
 refine .rd (.NN (m:=[]) rfl rfl) ?_
 refine .al 14 (.bool false) rfl (aE hp.ne) ?_
 refine .go fds 2 ?_
 refine .on (t:=15) rfl rfl ?_
 refine .rd (.ey rfl rfl Tryz.underlying9 rfl) ?_
 refine .go fds 1 ?_
 refine .al 18 (.bool false) rfl (aE (by omega)) ?_
 refine .go fds 3 ?_
 refine .on (t:=20) rfl rfl ?_
 refine .fn rfl rfl .nil ah (nv pre yn (by omega) (by decide) (by decide)) (fun v G1 hq=>?_)
 obtain⟨rfl,rfl⟩:=hq
 simp only[ae]
 refine .on (t:=20) rfl rfl ?_
 refine .rd (.Ds (m:=[]) rfl rfl) ?_
 refine .al 23 (.bool false) rfl (congrArg Value.bool (by rw[decide_eq_true (jk.2 hp.yn)];rfl)) ?_
 refine .go fds 4 ?_
 refine .al 27 (.bool false) rfl (aE (by omega)) ?_
 refine .go fds 4 ?_
 refine .al 31 (.bool false) rfl (aE (by omega)) ?_
 refine .ax fds 9 ?_
 refine .rd (.build rfl (Ax _ _ _)) ?_
 refine .ef (.box (l:=a6 none db pre most 0 0 none 0 0) rfl rfl (aB.of rfl)) ?_
 rintro _ _ ⟨lx,rfl,rfl⟩
 refine .ax fds 6 ?_
 refine .fn rfl rfl .px ((af.an .p0)) (Fg lx db mb d none pre most 0 0 none 0 0 hp hm) (fun v G1 hq=>?_)
 obtain⟨rfl,rfl⟩:=hq
 simp only[ag,ae]
 refine .ax fds 12 ?_
 refine .fn rfl rfl .cU ((af.an .p0)) (rK lx db mb d none pre most 0 0 none 0 0 hk hn hp.len) (fun v G1 hq=>?_)
 obtain⟨ra,rc,rfl,rfl⟩:=hq
 simp only[ag,ae]
 refine .al 42 (.slice ra 0 rc) rfl (by rw[Ct];rfl) ?_
 refine .rd (.bP rfl rfl Tryz.underlying31 rfl) ?_
 refine .aH fds 3 ?_
 refine .loop (σ:=Unit) (fun _=>True) (fun _=>0) (fun _=>[(0,.pointer (some ⟨db,0,none⟩)),(8,.pointer (some ⟨lx,0,none⟩)),(43,.int .i64 (0:Nat)),(44,.int .i64 0)]) (fun _=>[an lx (a6 none db pre most 0 0 none 0 0) 57,an db (d.cells mb) 74,mp aW Fl.val mb d.fs,R]) () trivial .r4 (.cons .p3 (.cons .p0 (.cons .p0 (.cons .p1 .nil)))) (fun s' hI ih=>?_)
 refine .go fds 5 ?_
 refine .aM rfl (fun c8=>absurd c8 (by decide)) (fun c8=>?_)
 refine .go fds 3 ?_
 refine .dr [3,10,15] [an lx (a6 none db pre most 0 0 none 0 0) 57] ?_
 refine .aq fds [0] ?_
 refine .aq fds [1] ?_
 refine .aq fds [2] ?_
 refine .re 3 rfl (.ld cV rfl .p0 rfl) .q0 ?_
 refine .rq 4 rfl (.bP rfl rfl Tryz.underlying55 rfl) ?_
 refine .aq fds [5] ?_
 refine .aq fds [6,7,8,9,10,11,12,13,14,15,16] ?_
 refine .aq fds [17] ?_
 refine .dn ?_
 refine .ax fds 7 ?_
 refine .rd (.ld ak rfl .p0 rfl) ?_
 refine .fn rfl rfl .ez (af.pick .p0 k) (A9 lx db mb d none pre most 0 0 none 0 0 0 [] hd hp hk hn (by decide) Ct .nil (fun _ h=>by cases h) (fun _ h=>by cases h) hr LA) (fun v G1 hq=>?_)
 obtain⟨sb,sm,aa,ac,ia,ic,qa,qc,rfl,iJ,rfl⟩:=hq
 simp only[ag,ae]
 refine .aH fds 10 ?_
 have Sg:(Sx.mk sb (nameOf pre 0) 0 [] sm aa ac ia ic).ok:=KF (by decide) (by decide) iJ
 refine .ca (an lx (a6 (some ⟨sb,0,none⟩) db pre most 0 0 qa 1 qc) 57) (rfl) ?_
 refine .dr [4,8] [an lx (a6 (some ⟨sb,0,none⟩) db pre most 0 0 qa 1 qc) 57] ?_
 refine .aq fds [0] ?_
 refine .aq fds [1] ?_
 refine .aq fds [2] ?_
 refine .aq fds [3] ?_
 refine .re 4 rfl (.ld ak rfl .p0 rfl) .q0 ?_
 refine .aq fds [5] ?_
 refine .aq fds [6] ?_
 refine .aq fds [7] ?_
 refine .re 8 rfl (.ld aN rfl .p0 rfl) .q0 ?_
 refine .eg 9 rfl (.fn rfl rfl .nil ((af.an .p4).and ((af.arr .p5).and (af.arr .p6))) (bZ db (Sx.mk sb (nameOf pre 0) 0 [] sm aa ac ia ic) Sg)) ?_
 rintro v _ ⟨G1,hq,rfl⟩
 obtain⟨rfl,rfl⟩:=hq
 simp only[ae]
 refine⟨.inr ⟨_,.q0⟩,?_⟩
 refine .rq 10 rfl (.min2 rfl rfl rfl) ?_
 refine .al 125 (.int .i64 0) rfl (rfl) ?_
 refine .aq fds [11] ?_
 refine .aq fds [12] ?_
 refine .eh 13 rfl (.store cc rfl rfl .p0 rfl aU) ?_
 rintro _ _ rfl
 refine ay ?_
 refine .dn ?_
 refine .seq ?_
 refine .ca (an lx (a6 (some ⟨sb,0,none⟩) db pre most 0 0 qa 1 qc) 57) (rfl) ?_
 refine .go fds 5 ?_
 refine .pack (L:=[an sb ((Sx.mk sb (nameOf pre 0) 0 [] sm aa ac ia ic).cells db) 110,arr 112 4 aa ac (Sx.mk sb (nameOf pre 0) 0 [] sm aa ac ia ic).rows,arr 3 1 ia ic (sm.flatMap fI)]) (.cons .p4 (.cons .p4 (.cons .p4 .nil))) ?_
 refine .close (X:=cD (SG db) (zv lx pre most sb sm aa ac ia ic qa qc).ar) .q0 (fun h H=>H) ?_
 refine .pack (L:=[an lx ((zv lx pre most sb sm aa ac ia ic qa qc).cells db) 57,arr 54 1 qa qc ((zv lx pre most sb sm aa ac ia ic qa qc).ar.flatMap sp),cD (SG db) (zv lx pre most sb sm aa ac ia ic qa qc).ar]) .lj ?_
 refine .aG Tryz.func32 (.t2 rfl rfl) .fw ?_
 exact⟨[_,_,_],⟨lx,sb,sm,aa,ac,ia,ic,qa,qc,rfl,iJ,rfl⟩,rfl⟩
theorem xB(a b:Nm):(decide (a≤b)||decide (b≤a))=true:=by
 rcases List.le_total a b with h|h<;>simp[h]
theorem k8(ns:List Nm):(bk ns).Pairwise fun x y=>x≤y:=by
 have:=List.pairwise_mergeSort (le:=fun x y:Nm=>decide (x≤y)) (fun a b c h1 h2=>decide_eq_true (List.le_trans (of_decide_eq_true h1) (of_decide_eq_true h2))) xB ns
 exact this.imp fun h=>of_decide_eq_true h
theorem nD(x:Nat)(c:UInt8)(l:List UInt8):val x (c::l)=val (x*10+(c.toNat-48)) l:=by unfold val;rw[List.foldl_cons]
theorem KG(a:List UInt8):∀(b:List UInt8) (x y:Nat),a.length=b.length→(∀c∈a,digit c)→(∀c∈b,digit c)→x≤y→(x=y→a≤b)→val x a≤val y b:=by
 induction a with
 |nil=>
  intro b x y hl _ _ h _
  cases b with
  |nil=>exact h
  |cons d b=>cases hl
 |cons c a ih=>
  intro b x y hl ha hb Je hle
  cases b with
  |nil=>cases hl
  |cons d b=>
   obtain⟨h1,QF⟩:=ha c (.head _)
   obtain⟨h2,QG⟩:=hb d (.head _)
   have key:x<y∨x=y:=by omega
   rw[nD,nD]
   refine ih b _ _ (by simpa using hl) (fun z hz=>ha z (.tail _ hz)) (fun z hz=>hb z (.tail _ hz)) ?_ ?_
   ·
    rcases key with h|h
    ·
     omega
    ·
     have h3:=hle h
     rw[List.cons_le_cons_iff]at h3
     rcases h3 with h3|⟨h3,_⟩
     ·
      have:c.toNat<d.toNat:=h3
      omega
     ·
      rw[h3];omega
   ·
    intro e
    have hx:x=y:=by omega
    have h3:=hle hx
    rw[List.cons_le_cons_iff]at h3
    rcases h3 with h3|⟨_,h3⟩
    ·
     have:c.toNat<d.toNat:=h3
     omega
    ·
     exact h3
theorem Fi:∀(p a b:List UInt8),p++a≤p++b→a≤b
 |[],_,_,h=>h
 |c::p,a,b,h=>by
  rw[List.cons_append,List.cons_append,List.cons_le_cons_iff]at h
  rcases h with h|⟨_,h⟩
  ·
   exact absurd h (by simp)
  ·
   exact Fi p a b h
theorem Fj:∀(a b p:List UInt8),a.length=b.length→a++p≤b++p→a≤b
 |[],[],_,_,_=>List.le_refl _
 |c::a,d::b,p,hl,h=>by
  rw[List.cons_append,List.cons_append,List.cons_le_cons_iff]at h
  rw[List.cons_le_cons_iff]
  rcases h with h|⟨e,h⟩
  ·
   exact .inl h
  ·
   exact .inr ⟨e,Fj a b p (by simpa using hl) h⟩
theorem M5{pre n m:Nm}{u v:Nat}(h1:bn pre n=some u)(h2:bn pre m=some v)(h:n≤m):u≤v:=by
 obtain⟨_,t,rfl,ht,rfl,hd⟩:=A7 h1
 obtain⟨_,s,rfl,hs,rfl,he⟩:=A7 h2
 have h0:(pre++[45])++(t++dP)≤(pre++[45])++(s++dP):=by simpa[List.append_assoc]using h
 have h3:=Fj t s dP (ht.trans hs.symm) (Fi _ _ _ h0)
 exact KG t s 0 0 (ht.trans hs.symm) hd he (Nat.le_refl _) fun _=>h3
theorem val_inj:∀(a b:List UInt8) (x y:Nat),a.length=b.length→(∀c∈a,digit c)→(∀c∈b,digit c)→val x a=val y b→x=y∧a=b
 |[],[],x,y,_,_,_,h=>⟨h,rfl⟩
 |c::a,d::b,x,y,hl,ha,hb,h=>by
  obtain⟨h1,QF⟩:=ha c (.head _)
  obtain⟨h2,QG⟩:=hb d (.head _)
  rw[nD,nD]at h
  obtain⟨e1,e2⟩:=val_inj a b _ _ (by simpa using hl) (fun z hz=>ha z (.tail _ hz)) (fun z hz=>hb z (.tail _ hz)) h
  have hx:x=y:=by omega
  have hc:c.toNat=d.toNat:=by omega
  exact⟨hx,by rw[e2,UInt8.toNat_inj.1 hc]⟩
theorem zx{pre n:Nm}{u:Nat}(h:bn pre n=some u):n=nameOf pre u:=by
 obtain⟨hu,t,rfl,ht,hv,hd⟩:=A7 h
 have:=val_inj t (pad u) 0 0 (by rw[ht,u5 (by omega)]) hd (od u) (by rw[hv,pU])
 rw[this.2];unfold nameOf dP;rfl
theorem eo{pre:Nm}{ns:List Nm}{u:Nat}:u∈bj pre ns↔u≤1000000000∧nameOf pre u∈ns:=by
 unfold bj
 rw[List.mem_filterMap]
 constructor
 ·
  rintro⟨n,hn,h⟩
  have:=zx h
  subst this
  exact⟨(A7 h).1,hn⟩
 ·
  rintro⟨hu,hn⟩
  exact⟨_,hn,IE hu⟩
theorem iH{pre:Nm}:∀{ns:List Nm},ns.Pairwise (fun x y=>x≤y)→ns.Nodup→(bj pre ns).Pairwise (·<·)
 |[],_,_=>.nil
 |n::ns,h1,h2=>by
  obtain⟨h3,h4⟩:=List.pairwise_cons.1 h1
  obtain⟨h5,h6⟩:=List.nodup_cons.1 h2
  have ih:=iH (pre:=pre) h4 h6
  unfold bj at ih⊢
  rw[List.filterMap_cons]
  cases hb:bn pre n with
  |none=>exact ih
  |some u=>
   refine List.pairwise_cons.2 ⟨fun v hv=>?_,ih⟩
   obtain⟨m,hm,hv⟩:=List.mem_filterMap.1 hv
   have h7:=M5 hb hv (h3 m hm)
   have h8:u≠v:=fun e=>by
    subst e
    rw[zx hb]at h5
    rw[zx hv]at hm
    exact h5 hm
   omega
theorem Fk:∀{a b:List Nat},a.Pairwise (·<·)→b.Pairwise (·<·)→(∀x,x∈a↔x∈b)→a=b
 |[],[],_,_,_=>rfl
 |[],y::b,_,_,h=>by have:=(h y).2 (.head _);cases this
 |x::a,[],_,_,h=>by have:=(h x).1 (.head _);cases this
 |x::a,y::b,h1,h2,h=>by
  obtain⟨h3,h4⟩:=List.pairwise_cons.1 h1
  obtain⟨h5,h6⟩:=List.pairwise_cons.1 h2
  have Je:x=y:=by
   rcases List.mem_cons.1 ((h x).1 (.head _))with e|e
   ·
    exact e
   ·
    rcases List.mem_cons.1 ((h y).2 (.head _))with f|f
    ·
     exact f.symm
    ·
     have:=h3 y f;have:=h5 x e;omega
  subst Je
  rw[Fk h4 h6 fun z=>⟨fun hz=>?_,fun hz=>?_⟩]
  ·
   rcases List.mem_cons.1 ((h z).1 (.tail _ hz))with e|e
   ·
    have:=h3 z hz;omega
   ·
    exact e
  ·
   rcases List.mem_cons.1 ((h z).2 (.tail _ hz))with e|e
   ·
    have:=h5 z hz;omega
   ·
    exact e
theorem dF{ns:List Nm}{n:Nm}:n∈bk ns↔n∈ns:=List.mem_mergeSort
theorem fM{ns:List Nm}(h:ns.Nodup):(bk ns).Nodup:=(List.mergeSort_perm ns _).nodup_iff.2 h
theorem er{d:Dk}{n:Nm}:(d.get n).isSome=true↔n∈d.fs.map (·.1):=
 ⟨fun h=>List.mem_map_of_mem (ku (Dk.get_some.1 h)),fun h=>Hy h⟩
theorem vp:∀{n:Int} {l:List Sx} {c:Sx},jd n (l++[c])→(∀s∈l,s.ok∧s.bs≠[])→0≤n→((l++[c]).map fun s=>s.base.toNat).Pairwise (·<·)
 |_,[],_,_,_,_=>List.pairwise_singleton ..
 |n,x::l,c,h,ho,hn=>by
  have h1:x.base=n:=h.1
  have h2:=gY (ho x (.head _)).1 (ho x (.head _)).2
  rw[List.cons_append,List.map_cons]
  refine List.pairwise_cons.2 ⟨fun u hu=>?_,vp h.2 (fun s hs=>ho s (.tail _ hs)) (by omega)⟩
  obtain⟨s,hs,rfl⟩:=List.mem_map.1 hu
  have h3:=vm l c x.next h.2 (fun s hs=>ho s (.tail _ hs)) s hs
  omega
theorem Lx.ok.bC{l:Lx}{d:Dk}(h:l.ok d):0≤a8 l:=by
 unfold a8 Lx.ar
 cases e:l.bX with
 |nil=>exact h.ai.1.bC
 |cons x r=>exact(h.bX x (by rw[e];exact .head _)).1.bC
theorem tK{l:Lx}{d:Dk}(hl:l.ok d)(hd:d.ok)(ho:mv l d):bj l.pre (bk (d.fs.map (·.1)))=l.ar.map fun s=>s.base.toNat:=by
 refine Fk (iH (k8 _) (fM hd.nodup)) (vp hl.link hl.bX hl.bC) fun u=>?_
 rw[eo,dF,←er]
 constructor
 ·
  rintro⟨hu,hg⟩
  obtain⟨s,hs,e⟩:=ho u hu hg
  exact List.mem_map.2 ⟨s,hs,e⟩
 ·
  intro h
  obtain⟨s,hs,rfl⟩:=List.mem_map.1 h
  obtain⟨h1,h2,h3,_⟩:=hl.gN s hs
  exact⟨by have:=h1.ed;have:=h1.bC;omega,by rw[←h2];exact h3⟩
def nE:Rec:=⟨[],[118,97,108,117,101],0⟩
def KH(n:Nat):aQ:=⟨0,1,0,0,0,List.replicate n nE⟩
theorem Fm(i:Nat):(List.replicate (i+1) nE).flatMap Rec.cells=(List.replicate i nE).flatMap Rec.cells++nE.cells:=by
 rw[List.replicate_succ',List.flatMap_append];simp
theorem II(i:Nat):((List.replicate i nE).flatMap Rec.cells).length=i*3:=by rw[au Rec.bU,List.length_replicate]
end Go.Proofs.YtoglbebcdjdkiaaGreatDoor