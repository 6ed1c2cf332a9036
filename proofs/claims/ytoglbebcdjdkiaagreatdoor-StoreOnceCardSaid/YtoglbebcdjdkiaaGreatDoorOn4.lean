/- Part 4 of a claim's texts: rules for the machine's steps, and steps through functions of the program, under the conditions that each theorem states. -/
import Derived.Test.YtoglbebcdjdkiaaGreatDoorProg
import Derived.LaidLaws
import Derived.Lib.LaidTab
import Derived.Stop.LaidErr
import Derived.MakeChecks
import Derived.Shelf.Vars
import Derived.FnData
import Derived.KernelRfl
import Derived.Test.YtoglbebcdjdkiaaGreatDoorOn3
set_option linter.unusedVariables false
set_option maxRecDepth 20000
set_option maxHeartbeats 8000000
namespace Go.Proofs.YtoglbebcdjdkiaaGreatDoor
open Go Go.Sp
theorem zX{Z i j E s d e l2 e2}{z w:Nat}(hb:bw Z i j E s d)(hC:ik d e)(hz:s.l.start=(z:Int))(hL:vD s.l.pre e z w l2 e2):oY s d l2 e2:=by
 have cw:l2.all=[]:=by unfold Lx.all Lx.au;rw[hL.bX];simp[hL.bs]
 have lD:l2.next=(z:Int):=by show aC l2.ai.base l2.ai.bs=_;rw[hL.bs,hL.base];rfl
 have nL:=hb.ok.start
 have Tc:z≤1000000000:=by have:=hL.ok.ai.1.ei;rw[hL.base]at this;omega
 have ph:∀n,(e2.get n).isSome=true→(d.get n).isSome=true∨n=nameOf s.l.pre z:=fun n hn=>(hL.names n hn).imp_left fun h=>by rw[←hC.get];exact h
 refine⟨hL.cR,hL.ok,hL.xM,hL.start.trans hz.symm,⟨s.l.all,by rw[cw];rfl⟩,by omega,hL.own,fun t ht=>(by rw[hL.bX]at ht;cases ht),fun n hn=>(ph n hn).imp_right fun h=>⟨z,Tc,h⟩,fun n hn=>by rw[(hL.eF n hn).2,hC.get],?_,by rw[hL.size,hC.size],by have:=hL.used;have:=hC.used;omega,?_,fun n h1 h2=>by rw[(hL.eF n h1).1];exact iq (hC.file n) h2,hL.sync⟩
 ·
  have:=jt (e2.fs.map (·.1)) (nameOf s.l.pre z::d.fs.map (·.1)) hL.cR.nodup fun n hn=>by
   rcases ph n (er.2 hn)with h|h
   ·
    exact .tail _ (er.1 h)
   ·
    rw[h];exact .head _
  rw[List.length_cons,List.length_map,List.length_map]at this
  exact this
 ·
  unfold Lx.au;rw[hL.bX,List.length_append];simp
theorem zY(db mb:Nat){Z i j E D s d e}(most:Int)(hb:bw Z i j E s d)(h:dX D s d)(hC:ik d e)(hi:i≤60∧j≤130)(FX:∀(L:List Piece) (z w:Nat),fN [112] e L z w→Cn Tryz.prog 32 [.pointer (some ⟨db,0,none⟩),aY [112],.int .i64 most] LV [an db (e.cells mb) 74,mp aY Fl.val mb e.fs] fun v G=>∃l e2,v=.tuple #[.pointer (some ⟨l.lb,0,none⟩),.int .i64 0]∧((∃ss,l6 [112] e L z w l ss e2∧∃q,L.getLast?=some q∧(z:Int)≤aC (q.1:Int) q.2.1)∨(vD [112] e z w l e2∧∃q,L.getLast?=some q∧aC (q.1:Int) q.2.1<(z:Int)))∧G=[LG db l,an db (e2.cells mb) 74,mp aY Fl.val mb e2.fs]):Cn Tryz.prog 32 [.pointer (some ⟨db,0,none⟩),aY [112],.int .i64 most] LV [an db (e.cells mb) 74,mp aY Fl.val mb e.fs] fun v G=>∃l d',v=.tuple #[.pointer (some ⟨l.lb,0,none⟩),.int .i64 0]∧oY s d l d'∧G=[LG db l,an db (d'.cells mb) 74,mp aY Fl.val mb d'.fs]:=by
 obtain⟨z,w,a1,a2,a3,a4⟩:=h.num
 have Nx:=hb.au
 obtain⟨k,rest,_,hk,hF⟩:=nG (m:=0) (z:=z) (w:=w) hb.ok hb.cR hb.own hb.full hC (by omega) a1 ⟨a2,a3⟩ a4 ⟨Nat.zero_le _,by rw[List.take_zero];exact Nat.zero_le _⟩
 have PW:fN [112] e (pieces s.l k rest) z w:=by rw[←hb.pre];exact hF
 refine(FX _ z w PW).mono fun v G hv=>?_
 obtain⟨l,e2,hv,hr,hG⟩:=hv
 refine⟨l,e2,hv,?_,hG⟩
 rw[←hb.pre]at hr
 rcases hr with⟨ss,hO,_⟩|⟨hL,_⟩
 ·
  exact ya hb hC hk a1 hF hO
 ·
  exact zX hb hC a1 hL
def I0(bs:List aR):Prop:=bs.Pairwise fun a b=>a.pid=b.pid→a.be=b.be→a.seq+(a.aU.length:Int)≤b.seq
theorem dX.PX{Z i j E D s d}(hb:bw Z i j E s d)(h:dX D s d):I0 s.l.e7:=by
 have key:∀q,s.l.e7.Pairwise fun a b=>a.pid=q→b.pid=q→fT (iG a) (iG b):=fun q=>by
  obtain⟨S,_,_,a3⟩:=h.t q
  have h1:=hb.j5.nE q
  rw[a3]at h1
  have h2:=(List.pairwise_append.1 h1).2.1
  unfold vN at h2
  rw[List.pairwise_map,List.pairwise_filter]at h2
  exact h2.imp fun{a b} h h3 h4=>h (decide_eq_true h3) (decide_eq_true h4)
 rw[I0,List.pairwise_iff_getElem]
 intro i j hi hj nM e1 e2
 have:=(List.pairwise_iff_getElem.1 (key s.l.e7[i].pid) i j hi hj nM rfl e1.symm).2.2 e2
 exact this
theorem yb{l:List Nt}(ho:∀x∈l,li x)(i:Nat):(gN l i).seq≤1000000∧0≤(gN l i).seq∧0≤(gN l i).n∧(gN l i).n≤64:=by
 unfold gN
 cases e:(l.take i).getLast? with
 |none=>exact⟨by decide,by decide,by decide,by decide⟩
 |some x=>
  have:=ho x (List.mem_of_mem_take (List.mem_of_getLast? e))
  have h1:=this.seq;have h2:=this.n
  show x.seq≤_∧0≤x.seq∧0≤x.n∧x.n≤64;omega
theorem iL(rb:Nat)(n:Int)(rest:List UInt8)(hn:i64 n)(hl:(aG n++rest).length≤1000000000):Cn Tryz.prog 72 [.pointer (some ⟨rb,0,none⟩)] (fun _=>True) [an rb [.string (str (aG n++rest)),.bool true] 132] fun v G=>v=.int .i64 n∧G=[an rb [.string (str (rest)),.bool true] 132]:=by
 refine .en Tryz.func72 fun R k=>?_
 have Ko:(aG n++rest).length=(aG n).length+rest.length:=List.length_append
 refine .ax fds 9 ?_
 refine .rd (.ld aS rfl .p0 rfl) ?_
 refine .fn rfl rfl .nil ah (lU (aG n++rest) (by omega)) (fun v G1 hq=>?_)
 obtain⟨rfl,rfl⟩:=hq
 simp only[ae]
 refine .al 11 (.tuple #[.int .i64 n,.int .i64 ((aG n).length:Nat),.int .i64 0]) rfl (by rw[nT hn]) ?_
 refine .ax fds 14 ?_
 refine .rd (.ld gm rfl .p0 rfl) ?_
 refine .go fds 6 ?_
 refine .cU (.store kO rfl rfl .p0 rfl aQ) ?_
 rintro _ _ rfl
 refine .ax fds 7 ?_
 refine .rd (.ld aS rfl .p0 rfl) ?_
 refine .rd (.move rfl) ?_
 refine .rd (.cJ (l:=aG n++rest) (a:=(aG n).length) (h:=(aG n++rest).length) Tryz.underlying9 rfl ⟨_,rfl⟩ rfl (by omega) (by omega)) ?_
 refine .al 32 (.string (str rest)) rfl (by rw[List.drop_left,List.take_of_length_le (by rw[List.length_append];omega)]) ?_
 refine .go fds 2 ?_
 refine .cU (.store fG rfl rfl .p0 rfl aQ) ?_
 rintro _ _ rfl
 refine .aH fds 6 ?_
 refine .aF Tryz.func72 (.t1 rfl) .cV ?_
 exact⟨[_],⟨rfl,rfl⟩,rfl⟩
theorem FZ(rb:Nat)(ns:List Nt)(rest:List UInt8)(hc:ns.Pairwise fT)(ho:∀x∈ns,li x)(hn:ns.length≤10000)(hl:rest.length≤500000000):Cn Tryz.prog 73 [.pointer (some ⟨rb,0,none⟩),.int .i64 (ns.length:Nat)] (fun _=>True) [an rb [.string (str (ns.flatMap jg++rest)),.bool true] 132] fun v G=>∃a c,v=.slice a ns.length c∧G=[an rb [.string (str (rest)),.bool true] 132,arr 97 4 a c (ns.flatMap fO)]:=by
 refine .en Tryz.func73 fun R k=>?_
 refine .ax fds 10 ?_
 refine .rd (.build rfl (Hf _)) ?_
 refine .ef (.alloc df rfl (ay.of rfl)) ?_
 rintro _ _ ⟨b6,rfl,rfl⟩
 refine .cU (.storeAll (vs:=fO QB) bF rfl rfl rfl .p0 rfl (ay.of rfl)) ?_
 rintro _ _ rfl
 refine .nil ?_
 refine .ca (an b6 (fO (gN ns 0)) 97) (rfl) ?_
 refine .perm .wj ?_
 refine .ca (an rb [.string (str ((ns.drop 0).flatMap jg++rest)),.bool true] 132) (by rw[List.drop_zero]) ?_
 refine .cn 97 4 none ?_
 refine .ca (arr 97 4 none 0 ((ns.take 0).flatMap fO)) (by rw[List.take_zero];rfl) ?_
 refine .go fds 2 ?_
 refine .loop (σ:=Nat×Option Addr×Nat) (fun⟨i,la,lc⟩=>i≤ns.length) (fun⟨i,la,lc⟩=>ns.length-i) (fun⟨i,la,lc⟩=>[(0,.pointer (some ⟨rb,0,none⟩)),(1,.int .i64 ((ns.length-i:Nat):Int)),(5,.slice la i lc),(6,.pointer (some ⟨b6,0,none⟩))]) (fun⟨i,la,lc⟩=>[arr 97 4 la lc ((ns.take i).flatMap fO),an rb [.string (str ((ns.drop i).flatMap jg++rest)),.bool true] 132,an b6 (fO (gN ns i)) 97,R]) (0,none,0) (Nat.zero_le _) .r4 .fx (fun s' hI ih=>?_)
 obtain⟨i,la,lc⟩:=s'
 dsimp only at hI ih⊢
 have mj:=hI
 refine .go fds 6 ?_
 refine .aL rfl (fun h3=>?_) (fun h3=>?_)
 ·
  refine .go fds 4 ?_
  obtain⟨x,hx⟩:∃x,ns[i]?=some x:=⟨_,List.getElem?_eq_getElem (by omega)⟩
  have AV:=ho x (List.mem_of_getElem? hx)
  have MJ:i64 x.ep∧i64 x.seq∧i64 x.n∧i64 x.off:=⟨AV.wZ _ (.head _),AV.wZ _ (.tail _ (.head _)),AV.wZ _ (.tail _ (.tail _ (.head _))),AV.wZ _ (.tail _ (.tail _ (.tail _ (.head _))))⟩
  obtain⟨R8,OK,Td⟩:=EA hc ho hx
  have sw:=AV.ep
  have NQ:=AV.seq
  have UZ:=AV.n
  have U0:=AV.OT
  have U1:=AV.off
  unfold cI at sw
  have yh:(gN ns i).seq≤1000000∧0≤(gN ns i).seq∧0≤(gN ns i).n∧(gN ns i).n≤64:=yb ho i
  have uU:(ns.drop i).flatMap jg++rest=aG x.ep++(aG x.seq++(aG x.n++(aG x.off++((ns.drop (i+1)).flatMap jg++rest)))):=by rw[EB hx];simp only[List.append_assoc]
  have mh:=w6 ho i
  have xD:(aG x.ep++(aG x.seq++(aG x.n++(aG x.off++((ns.drop (i+1)).flatMap jg++rest))))).length≤1000000000:=by rw[←uU,List.length_append];omega
  have yt:(aG x.seq++(aG x.n++(aG x.off++((ns.drop (i+1)).flatMap jg++rest)))).length≤1000000000:=by rw[List.length_append]at xD;omega
  have lp:(aG x.n++(aG x.off++((ns.drop (i+1)).flatMap jg++rest))).length≤1000000000:=by have h:=yt;rw[List.length_append]at h;omega
  have gL:(aG x.off++((ns.drop (i+1)).flatMap jg++rest)).length≤1000000000:=by have h:=lp;rw[List.length_append]at h;omega
  refine .perm .qv ?_
  refine .ca (an rb [.string (str (aG x.ep++(aG x.seq++(aG x.n++(aG x.off++((ns.drop (i+1)).flatMap jg++rest)))))),.bool true] 132) (by rw[uU]) ?_
  refine .ax fds 2 ?_
  refine .sN rfl rfl .q0 ah (iL rb x.ep (aG x.seq++(aG x.n++(aG x.off++((ns.drop (i+1)).flatMap jg++rest)))) MJ.1 xD) (fun v G1 hq=>?_)
  obtain⟨rfl,rfl⟩:=hq
  simp only[ag,ae]
  refine .rd (.move rfl) ?_
  refine .sN rfl rfl .q0 ah (iL rb x.seq (aG x.n++(aG x.off++((ns.drop (i+1)).flatMap jg++rest))) MJ.2.1 yt) (fun v G1 hq=>?_)
  obtain⟨rfl,rfl⟩:=hq
  simp only[ag,ae]
  refine .rd (.move rfl) ?_
  refine .sN rfl rfl .q0 ah (iL rb x.n (aG x.off++((ns.drop (i+1)).flatMap jg++rest)) MJ.2.2.1 lp) (fun v G1 hq=>?_)
  obtain⟨rfl,rfl⟩:=hq
  simp only[ag,ae]
  refine .rd (.build rfl (uy _ _ _)) ?_
  refine .rd (.move rfl) ?_
  refine .sN rfl rfl .q0 ah (iL rb x.off ((ns.drop (i+1)).flatMap jg++rest) MJ.2.2.2 gL) (fun v G1 hq=>?_)
  obtain⟨rfl,rfl⟩:=hq
  simp only[ag,ae]
  refine .rd (.build rfl (Ao _ _ _ _)) ?_
  refine .ef (.alloc df rfl (ay.of rfl)) ?_
  rintro _ _ ⟨b7,rfl,rfl⟩
  refine .cU (.storeAll (vs:=fO x) bF rfl rfl rfl .p0 rfl (ay.of rfl)) ?_
  rintro _ _ rfl
  refine .ax fds 6 ?_
  refine .rd (.ld gm rfl .p1 rfl) ?_
  refine .go fds 3 ?_
  refine .on (t:=28) rfl rfl ?_
  refine .rd (.ld aj rfl .p0 rfl) ?_
  refine .go fds 1 ?_
  refine .al 32 (.bool true) rfl (bS (by omega)) ?_
  refine .go fds 4 ?_
  refine .on (t:=34) rfl rfl ?_
  refine .rd (.ld aj rfl .p0 rfl) ?_
  refine .go fds 1 ?_
  refine .al 38 (.bool true) rfl (bS (by omega)) ?_
  refine .go fds 4 ?_
  refine .on (t:=40) rfl rfl ?_
  refine .rd (.ld aj rfl .p0 rfl) ?_
  refine .on (t:=40) rfl rfl ?_
  refine .fn rfl rfl .nil ah (ga x.ep 1000000000) (fun v G1 hq=>?_)
  obtain⟨rfl,rfl⟩:=hq
  simp only[ae]
  refine .al 44 (.bool true) rfl (bS (by omega)) ?_
  refine .go fds 4 ?_
  refine .on (t:=46) rfl rfl ?_
  refine .rd (.ld aj rfl .p0 rfl) ?_
  refine .go fds 2 ?_
  refine .on (t:=46) rfl rfl ?_
  refine .rd (.ld aj rfl .p0 rfl) ?_
  refine .on (t:=46) rfl rfl ?_
  refine .rd (.sub rfl rfl (by omega) (by omega)) ?_
  refine .on (t:=46) rfl rfl ?_
  refine .rd (.add rfl rfl (by omega) (by omega)) ?_
  refine .on (t:=46) rfl rfl ?_
  refine .fn rfl rfl .nil ah (ga x.seq (1000000-x.n+1)) (fun v G1 hq=>?_)
  obtain⟨rfl,rfl⟩:=hq
  simp only[ae]
  refine .al 55 (.bool true) rfl (bS (by omega)) ?_
  refine .go fds 3 ?_
  refine .on (t:=57) rfl rfl ?_
  refine .rd (.ld aj rfl .p0 rfl) ?_
  refine .go fds 2 ?_
  refine .on (t:=57) rfl rfl ?_
  refine .rd (.ld aj rfl .p0 rfl) ?_
  refine .on (t:=57) rfl rfl ?_
  refine .rd (.sub rfl rfl (by omega) (by omega)) ?_
  refine .on (t:=57) rfl rfl ?_
  refine .rd (.add rfl rfl (by omega) (by omega)) ?_
  refine .on (t:=57) rfl rfl ?_
  refine .fn rfl rfl .nil ah (ga x.off (1000000000-x.n+1)) (fun v G1 hq=>?_)
  obtain⟨rfl,rfl⟩:=hq
  simp only[ae]
  refine .al 65 (.bool true) rfl (bS (by omega)) ?_
  refine .ax fds 10 ?_
  refine .on (t:=69) rfl rfl ?_
  refine .rd (.ld aj rfl .p0 rfl) ?_
  refine .go fds 1 ?_
  refine .on (t:=69) rfl rfl ?_
  refine .rd (.ld aj rfl .p3 rfl) ?_
  refine .go fds 1 ?_
  refine .al 74 (.bool false) rfl (aE (by omega)) ?_
  refine .go fds 4 ?_
  refine .on (t:=76) rfl rfl ?_
  refine .rd (.ld aj rfl .p0 rfl) ?_
  refine .go fds 2 ?_
  refine .on (t:=76) rfl rfl ?_
  refine .rd (.ld aj rfl .p3 rfl) ?_
  refine .go fds 1 ?_
  refine .al 83 (.bool false) rfl (aE (by omega)) ?_
  refine .go fds 4 ?_
  refine .on (t:=85) rfl rfl ?_
  refine .rd (.ld aj rfl .p0 rfl) ?_
  refine .go fds 2 ?_
  refine .on (t:=85) rfl rfl ?_
  refine .rd (.ld aj rfl .p3 rfl) ?_
  refine .go fds 2 ?_
  refine .split (t:=93) rfl (fun LL=>?_) (fun LL=>?_)
  ·
   replace LL:=of_decide_eq_true LL
   refine .go fds 2 ?_
   refine .on (t:=93) rfl rfl ?_
   refine .rd (.ld aj rfl .p0 rfl) ?_
   refine .go fds 2 ?_
   refine .on (t:=93) rfl rfl ?_
   refine .rd (.ld aj rfl .p3 rfl) ?_
   refine .go fds 2 ?_
   refine .on (t:=93) rfl rfl ?_
   refine .rd (.ld aj rfl .p3 rfl) ?_
   refine .on (t:=93) rfl rfl ?_
   refine .rd (.add rfl rfl (by omega) (by omega)) ?_
   refine .go fds 1 ?_
   refine .al 104 (.bool false) rfl (aE (by have:=Td LL.symm;omega)) ?_
   refine .aH fds 5 ?_
   refine .dr [1,4] [an b7 (fO x) 97] ?_
   refine .aq fds [0] ?_
   refine .re 1 rfl (.jy gS bF rfl .p0 rfl) .q0 ?_
   refine .re 4 rfl (.jy gS bF rfl .p0 rfl) .q0 ?_
   refine .eg 2 rfl (.cq (cs:=fO x) Tryz.underlying89 df (by decide) rfl rfl rfl (ay.of rfl)) ?_
   rintro _ _ ⟨bs,rfl,rfl⟩
   refine⟨.inr ⟨_,.q1⟩,?_⟩
   refine .eg 3 rfl (.append rfl rfl Tryz.underlying89 df rfl (ay.of rfl) (by decide) (by decide) rfl rfl .p3 (n:=i) (m:=1) (by rw[ar bZ,List.length_take];omega) (.dN .p0 Tryz.underlying89 rfl (by decide)) (by omega)) ?_
   rintro _ _ ⟨ra,rc,rfl,rn,rfl⟩
   refine⟨.inr ⟨_,.q2⟩,?_⟩
   refine .aq fds [5] ?_
   refine .eh 6 rfl (.storeAll (vs:=fO x) bF rfl rfl rfl .p4 rfl (ay.of rfl)) ?_
   rintro _ _ rfl
   refine aA ?_
   refine .dn ?_
   refine .perm .eU ?_
   refine .ca (arr 97 4 ra rc ((ns.take (i+1)).flatMap fO)) (by rw[List.take_add_one,hx,List.flatMap_append];simp) ?_
   refine .perm .eU ?_
   refine .ca (an b6 (fO (gN ns (i+1))) 97) (by rw[lW hx]) ?_
   refine .ax fds 3 ?_
   refine .rd (.sub rfl rfl (by omega) (by omega)) ?_
   refine .al 13 (.int .i64 (((ns.length-(i+1):Nat):Int))) rfl (congrArg (Value.int .i64) (by omega)) ?_
   refine .aH fds 2 ?_
   exact(ih (i+1,ra,rc) (by show i+1≤ns.length;omega) (by show ns.length-(i+1)<ns.length-i;omega)).to .r4 (.cons .p1 (.cons .p3 (.cons .p0 (.cons .p2 .nil))))
  ·
   replace LL:=of_decide_eq_false LL
   refine .aH fds 16 ?_
   refine .dr [1,4] [an b7 (fO x) 97] ?_
   refine .aq fds [0] ?_
   refine .re 1 rfl (.jy gS bF rfl .p0 rfl) .q0 ?_
   refine .re 4 rfl (.jy gS bF rfl .p0 rfl) .q0 ?_
   refine .eg 2 rfl (.cq (cs:=fO x) Tryz.underlying89 df (by decide) rfl rfl rfl (ay.of rfl)) ?_
   rintro _ _ ⟨bs,rfl,rfl⟩
   refine⟨.inr ⟨_,.q1⟩,?_⟩
   refine .eg 3 rfl (.append rfl rfl Tryz.underlying89 df rfl (ay.of rfl) (by decide) (by decide) rfl rfl .p3 (n:=i) (m:=1) (by rw[ar bZ,List.length_take];omega) (.dN .p0 Tryz.underlying89 rfl (by decide)) (by omega)) ?_
   rintro _ _ ⟨ra,rc,rfl,rn,rfl⟩
   refine⟨.inr ⟨_,.q2⟩,?_⟩
   refine .aq fds [5] ?_
   refine .eh 6 rfl (.storeAll (vs:=fO x) bF rfl rfl rfl .p4 rfl (ay.of rfl)) ?_
   rintro _ _ rfl
   refine aA ?_
   refine .dn ?_
   refine .perm .eU ?_
   refine .ca (arr 97 4 ra rc ((ns.take (i+1)).flatMap fO)) (by rw[List.take_add_one,hx,List.flatMap_append];simp) ?_
   refine .perm .eU ?_
   refine .ca (an b6 (fO (gN ns (i+1))) 97) (by rw[lW hx]) ?_
   refine .ax fds 3 ?_
   refine .rd (.sub rfl rfl (by omega) (by omega)) ?_
   refine .al 13 (.int .i64 (((ns.length-(i+1):Nat):Int))) rfl (congrArg (Value.int .i64) (by omega)) ?_
   refine .aH fds 2 ?_
   exact(ih (i+1,ra,rc) (by show i+1≤ns.length;omega) (by show ns.length-(i+1)<ns.length-i;omega)).to .r4 (.cons .p1 (.cons .p3 (.cons .p0 (.cons .p2 .nil))))
 ·
  refine .go fds 6 ?_
  obtain rfl:i=ns.length:=by omega
  refine .perm .qv ?_
  refine .ca (an rb [.string (str (rest)),.bool true] 132) (by rw[List.drop_length];rfl) ?_
  refine .perm .qv ?_
  refine .ca (arr 97 4 la lc (ns.flatMap fO)) (by rw[List.take_length]) ?_
  refine .aF Tryz.func73 (.t1 rfl) (.cons .p1 (.cons .p0 (.cons .p1 .nil))) ?_
  exact⟨[_,_],⟨la,lc,rfl,rfl⟩,rfl⟩
theorem I1(u:Tm)(hu:jL u)(hl:u.length≤1000000)(hs:gB u≤400000000):Cn Tryz.prog 37 [.string (str (gO u))] (fun _=>True) [] fun v G=>∃t:Tb,v=.tuple #[.pointer (some ⟨t.tb,0,none⟩),.int .i64 0]∧bg t.m=u∧G=[TG t]:=by
 refine .en Tryz.func37 fun R k=>?_
 have vM:=ED hu.tocC hl
 have oS:(gO u).length=4+(eR u).length:=fk (eR u)
 have PN:(aG (u.length:Int)++u.flatMap j3).length≤1000000000:=by show(eR u).length≤_;omega
 refine .ax fds 10 ?_
 refine .rd (.ey rfl rfl Tryz.underlying9 rfl) ?_
 refine .rd (.lt rfl rfl) ?_
 refine .al 14 (.bool false) rfl (aE (by omega)) ?_
 refine .aH fds 4 ?_
 refine .dr [] [] ?_
 refine .aq fds [0] ?_
 refine .rq 1 rfl (.cJ (l:=gO u) (a:=4) (h:=(gO u).length) Tryz.underlying9 rfl ⟨_,rfl⟩ rfl (by omega) (by omega)) ?_
 refine .al 17 (.string (str (eR u))) rfl (by rw[oS];unfold gO summed;rw[show((bI (fy (eR u)).toNat++eR u).drop 4)=eR u from rfl,List.take_of_length_le (by omega)]) ?_
 refine .aq fds [5] ?_
 refine .rq 6 rfl (.cJ (l:=gO u) (a:=0) (h:=4) Tryz.underlying9 rfl rfl ⟨_,rfl⟩ (by omega) (by omega)) ?_
 refine .al 22 (.string (str (bI (fy (eR u)).toNat))) rfl (rfl) ?_
 refine .eg 2 rfl (.yG (l:=eR u) Tryz.underlying9 Tryz.underlying115 Tryz.underlying5 rfl) ?_
 rintro _ _ ⟨sa,sc,rfl,rfl⟩
 refine aA ?_
 refine .eg 3 rfl (.fn rfl rfl .nil (af.arr .p0) (AQ (some ⟨sa,0,none⟩) sc (eR u) (by omega))) ?_
 rintro v _ ⟨G1,hq,rfl⟩
 obtain⟨sb,rfl,rfl⟩:=hq
 simp only[ag,ae]
 refine aA ?_
 refine .rs (Δ:=[]) 4 (by kernel_rfl) rfl (.ff (l:=bI (fy (eR u)).toNat) Tryz.underlying115 Tryz.underlying5 Tryz.underlying9 rfl rfl (af.arr .p0)) (.inl (by kernel_rfl)) ?_
 refine .rq 7 rfl (.Ds (m:=bI (fy (eR u)).toNat) rfl rfl) ?_
 refine .al 23 (.bool false) rfl (congrArg Value.bool (by simp)) ?_
 refine .aq fds [8] ?_
 refine .dn ?_
 refine .ax fds 6 ?_
 refine .rd (.cJ (l:=gO u) (a:=4) (h:=(gO u).length) Tryz.underlying9 rfl ⟨_,rfl⟩ rfl (by omega) (by omega)) ?_
 refine .al 25 (.string (str (eR u))) rfl (by rw[oS];unfold gO summed;rw[show((bI (fy (eR u)).toNat++eR u).drop 4)=eR u from rfl,List.take_of_length_le (by omega)]) ?_
 refine .rd (.build rfl (Hg _ _)) ?_
 refine .ef (.box (l:=[.string (str (eR u)),.bool true]) rfl rfl (ay.of rfl)) ?_
 rintro _ _ ⟨rb,rfl,rfl⟩
 refine .aH fds 2 ?_
 refine .ca (an rb [.string (str (aG (u.length:Int)++u.flatMap j3)),.bool true] 132) (rfl) ?_
 refine .ax fds 2 ?_
 refine .fn rfl rfl .nil ah (AT) (fun v G1 hq=>?_)
 obtain⟨tb,mb,rfl,rfl⟩:=hq
 simp only[ag,ae]
 refine .ax fds 5 ?_
 refine .sN rfl rfl .q1 ah (iL rb (u.length:Int) (u.flatMap j3) (by unfold i64;omega) PN) (fun v G1 hq=>?_)
 obtain⟨rfl,rfl⟩:=hq
 simp only[ag,ae]
 refine .aH fds 6 ?_
 refine .unpack (L:=[an tb [.map (some mb)] 93,mp da jV mb [],cD gJ []]) .p1 ?_
 simp only[ag,ae]
 refine .perm .mI ?_
 refine .ca (an rb [.string (str ((u.drop (0)).flatMap j3)),.bool true] 132) (by rw[List.drop_zero]) ?_
 refine .go fds 2 ?_
 refine .loop (σ:=Nat×TM) (fun⟨i,m⟩=>i≤u.length∧bg m=u.take i) (fun⟨i,m⟩=>u.length-i) (fun⟨i,m⟩=>[(4,.pointer (some ⟨rb,0,none⟩)),(5,.pointer (some ⟨tb,0,none⟩)),(6,.int .i64 ((u.length-i:Nat):Int)),(7,.int .i64 (w8 u i))]) (fun⟨i,m⟩=>[an rb [.string (str ((u.drop (i)).flatMap j3)),.bool true] 132,an tb [.map (some mb)] 93,mp da jV mb m,cD gJ m,R]) (0,[]) ⟨Nat.zero_le _,rfl⟩ .r4 (.cons .p0 (.cons .p0 (.cons .p0 (.cons .p0 (.cons .p2 .nil))))) (fun s' hI ih=>?_)
 obtain⟨i,m⟩:=s'
 dsimp only at hI ih⊢
 obtain⟨mj,hm⟩:=hI
 refine .ax fds 6 ?_
 refine .split (t:=33) rfl (fun h9=>?_) (fun h9=>?_)
 ·
  replace h9:=of_decide_eq_true h9
  refine .go fds 3 ?_
  refine .on (t:=33) rfl rfl ?_
  refine .rd (.ld gm rfl .p0 rfl) ?_
  refine .aH fds 7 ?_
  obtain⟨p,hp⟩:∃p,u[i]?=some p:=⟨_,List.getElem?_eq_getElem (by omega)⟩
  have Jl:=List.mem_of_getElem? hp
  have QE:=hu.pid p Jl
  have dx:=hu.ne p Jl
  have A0:=hu.len p Jl
  have mo:0<p.2.length:=List.length_pos_iff.2 dx
  have cP:=hu.lt hp
  have Cg:i64 p.1:=by unfold i64;omega
  have Ny:i64 (p.2.length:Int):=by unfold i64;omega
  have U2:=w9 hu.tocC (i+1)
  have Ac:=w6 (hu.ok p Jl) 0
  rw[List.drop_zero]at Ac
  have e1:=bC Cg
  have e2:=bC Ny
  have lp:(aG p.1++(aG (p.2.length:Int)++(p.2.flatMap jg++(u.drop (i+1)).flatMap j3))).length≤1000000000:=by simp only[List.length_append];omega
  have gL:(aG (p.2.length:Int)++(p.2.flatMap jg++(u.drop (i+1)).flatMap j3)).length≤1000000000:=by simp only[List.length_append];omega
  have uf:bL m p.1=none:=by
   have:=hu.fresh hp
   rw[←hm,uQ]at this
   cases e:bL m p.1 with
   |none=>rfl
   |some v=>rw[e]at this;cases this
  have mm:(m.map (·.1)).Nodup:=by
   rw[←gw,hm];exact hu.nodup.sublist ((List.take_sublist _ _).map _)
  refine .ca (an rb [.string (str (aG p.1++(aG (p.2.length:Int)++(p.2.flatMap jg++(u.drop (i+1)).flatMap j3)))),.bool true] 132) (by rw[EC hp]) ?_
  refine .ax fds 2 ?_
  refine .sN rfl rfl .q0 ah (iL rb p.1 (aG (p.2.length:Int)++(p.2.flatMap jg++(u.drop (i+1)).flatMap j3)) Cg lp) (fun v G1 hq=>?_)
  obtain⟨rfl,rfl⟩:=hq
  simp only[ag,ae]
  refine .rd (.move rfl) ?_
  refine .sN rfl rfl .q0 ah (iL rb (p.2.length:Int) (p.2.flatMap jg++(u.drop (i+1)).flatMap j3) Ny gL) (fun v G1 hq=>?_)
  obtain⟨rfl,rfl⟩:=hq
  simp only[ag,ae]
  refine .ax fds 9 ?_
  refine .al 47 (.bool false) rfl (aE (by omega)) ?_
  refine .go fds 3 ?_
  refine .al 50 (.bool false) rfl (aE (by omega)) ?_
  refine .go fds 4 ?_
  refine .al 54 (.bool false) rfl (aE (by omega)) ?_
  refine .aH fds 9 ?_
  refine .al 7 (.int .i64 (w8 u (i+1))) rfl (by rw[qY hp]) ?_
  refine .ax fds 4 ?_
  refine .fn rfl rfl .q0 ah (FZ rb p.2 ((u.drop (i+1)).flatMap j3) (hu.chain p Jl) (hu.ok p Jl) A0 (by omega)) (fun v G1 hq=>?_)
  obtain⟨a,c,rfl,rfl⟩:=hq
  simp only[ag,ae]
  refine .aH fds 4 ?_
  refine .tell (φ:=∃b o,a=some ⟨b,o,none⟩) ((af.arr .p1).mono fun _ h=>aB.addr h (by rw[ar bZ];omega)) (fun hh=>?_)
  obtain⟨b9,o9,rfl⟩:=hh
  refine .ax fds 2 ?_
  refine .rd (.yz Tryz.underlying89 rfl rfl) ?_
  refine .al 61 (.bool false) rfl (congrArg Value.bool (rfl)) ?_
  refine .ax fds 7 ?_
  refine .rd (.ld eA rfl .p2 rfl) ?_
  refine .go fds 2 ?_
  refine .cU (.mapUpdate (q:=p.1) (u:=(⟨some ⟨b9,o9,none⟩,c,p.2⟩:TV)) HK Tryz.underlying91 rfl rfl rfl .p3) ?_
  rintro _ _ rfl
  refine .nil ?_
  refine .perm (.cons .p2 (.cons .p0 (.cons .p0 (.cons .p0 (.cons .p0 (.cons .p0 .nil)))))) ?_
  refine .ca (gJ (p.1,(⟨some ⟨b9,o9,none⟩,c,p.2⟩:TV))) (rfl) ?_
  refine .close (X:=cD gJ (bU m p.1 (⟨some ⟨b9,o9,none⟩,c,p.2⟩:TV))) .Lw (fun h H=>uP mm (by rw[s6 uf];exact H)) ?_
  have NP:bg (bU m p.1 (⟨some ⟨b9,o9,none⟩,c,p.2⟩:TV))=u.take (i+1):=by rw[uR,hm,uO (hu.fresh hp),List.take_add_one,hp];rfl
  refine .ax fds 3 ?_
  refine .rd (.sub rfl rfl (by omega) (by omega)) ?_
  refine .al 40 (.int .i64 (((u.length-(i+1):Nat):Int))) rfl (congrArg (Value.int .i64) (by omega)) ?_
  refine .aH fds 2 ?_
  exact(ih (i+1,bU m p.1 (⟨some ⟨b9,o9,none⟩,c,p.2⟩:TV)) ⟨by show i+1≤u.length;omega,NP⟩ (by show u.length-(i+1)<u.length-i;omega)).to .r4 (.cons .p2 (.cons .p2 (.cons .p1 (.cons .p0 (.cons .p0 .nil)))))
 ·
  replace h9:=of_decide_eq_false h9
  refine .aH fds 10 ?_
  obtain rfl:i=u.length:=by omega
  refine .ca (an rb [.string (str ([])),.bool true] 132) (by rw[List.drop_length];rfl) ?_
  refine .ax fds 4 ?_
  refine .rd (.ld gm rfl .p0 rfl) ?_
  refine .go fds 5 ?_
  refine .on (t:=73) rfl rfl ?_
  refine .rd (.ld aS rfl .p0 rfl) ?_
  refine .on (t:=73) rfl rfl ?_
  refine .rd (.Ds (m:=[]) rfl rfl) ?_
  refine .al 78 (.bool false) rfl (congrArg Value.bool (by simp)) ?_
  refine .go fds 4 ?_
  refine .al 82 (.bool false) rfl (aE (by omega)) ?_
  refine .aH fds 10 ?_
  refine .close (X:=TG ⟨tb,mb,m⟩) .lJ (fun h H=>H) ?_
  refine .aF Tryz.func37 (.t2 rfl rfl) .sD ?_
  exact⟨[_],⟨⟨tb,mb,m⟩,rfl,hm.trans (List.take_length ..),rfl⟩,rfl⟩
def l9(es:List Ep)(i:Nat):Ep:=(es.take i).getLast?.getD (-1,-1)
theorem o4{es:List Ep}{i:Nat}{x:Ep}(h:es[i]?=some x):l9 es (i+1)=x:=by
 unfold l9;rw[List.take_add_one,h,List.getLast?_append];rfl
theorem CL{es:List Ep}(he:bO es){i:Nat}{x:Ep}(h:es[i]?=some x):(l9 es i).1<x.1∧(l9 es i).2<x.2:=by
 obtain⟨hi,hx⟩:=List.getElem?_eq_some_iff.1 h
 cases i with
 |zero=>have:=he.may x (List.mem_of_getElem? h);unfold cI at this;show(-1:Int)<_∧(-1:Int)<_;omega
 |succ i=>
  rw[o4 (List.getElem?_eq_getElem (show i<es.length by omega))]
  have:=List.pairwise_iff_getElem.1 he.up i (i+1) (by omega) hi (by omega)
  rw[hx]at this;exact this
theorem rZ{es:List Ep}{i:Nat}{x:Ep}(h:es[i]?=some x):(es.drop i).flatMap mq=aG x.1++(aG x.2++(es.drop (i+1)).flatMap mq):=by
 obtain⟨hi,rfl⟩:=List.getElem?_eq_some_iff.1 h
 rw[List.drop_eq_getElem_cons hi,List.flatMap_cons,mq,List.append_assoc]
theorem yc{es:List Ep}(he:bO es)(i:Nat):((es.drop i).flatMap mq).length≤4000:=by
 have h2:=eX (f:=mq) (k:=20) (es.drop i) fun e h=>uL (he.may e (List.mem_of_mem_drop h))
 rw[List.length_drop]at h2;have:=he.len;omega
theorem vE(sx ox:Nat)(n:Int)(rest:List UInt8)(hn:i64 n)(hl:(aG n++rest).length≤1000000000):Cn Tryz.prog 114 [.pointer (some ⟨sx,0,none⟩),.pointer (some ⟨ox,0,none⟩)] (fun _=>True) [an sx [.string (str (aG n++rest))] 9,an ox [.bool true] 4] fun v G=>v=.int .i64 n∧G=[an sx [.string (str (rest))] 9,an ox [.bool true] 4]:=by
 refine .en Tryz.func114 fun R k=>?_
 have Ko:(aG n++rest).length=(aG n).length+rest.length:=List.length_append
 refine .ax fds 6 ?_
 refine .rd (.ld aS rfl .p0 rfl) ?_
 refine .fn rfl rfl .nil ah (lU (aG n++rest) (by omega)) (fun v G1 hq=>?_)
 obtain⟨rfl,rfl⟩:=hq
 simp only[ae]
 refine .al 8 (.tuple #[.int .i64 n,.int .i64 ((aG n).length:Nat),.int .i64 0]) rfl (by rw[nT hn]) ?_
 refine .ax fds 10 ?_
 refine .rd (.ld gm rfl .p1 rfl) ?_
 refine .go fds 4 ?_
 refine .cU (.store kO rfl rfl .p1 rfl aQ) ?_
 rintro _ _ rfl
 refine .ax fds 3 ?_
 refine .rd (.ld aS rfl .p1 rfl) ?_
 refine .rd (.move rfl) ?_
 refine .rd (.cJ (l:=aG n++rest) (a:=(aG n).length) (h:=(aG n++rest).length) Tryz.underlying9 rfl ⟨_,rfl⟩ rfl (by omega) (by omega)) ?_
 refine .al 19 (.string (str rest)) rfl (by rw[List.drop_left,List.take_of_length_le (by rw[List.length_append];omega)]) ?_
 refine .cU (.store fG rfl rfl .p1 rfl aQ) ?_
 rintro _ _ rfl
 refine .aH fds 6 ?_
 refine .aF Tryz.func114 (.t1 rfl) .ez ?_
 exact⟨[_,_],⟨rfl,rfl⟩,rfl⟩
theorem I2(db cb:Nat)(nm:Nm)(es:List Ep)(he:bO es):Cn Tryz.prog 71 [.pointer (some ⟨cb,0,none⟩),.string (str (summed (bG es)))] (fun _=>True) [an cb [.pointer (some ⟨db,0,none⟩),aY nm,.slice none 0 0] 125] fun v G=>v=.int .i64 0∧∃la lc,G=[CG db ⟨cb,nm,es,la,lc⟩]:=by
 refine .en Tryz.func71 fun R k=>?_
 have FP:=he.len
 have oS:=fk (bG es)
 have vM:=mZ he
 have PN:(aG (es.length:Int)++es.flatMap mq).length≤5000:=by show(bG es).length≤5000;omega
 refine .cn 70 3 none ?_
 refine .ax fds 2 ?_
 refine .ef (.box (l:=[.string (str (summed (bG es)))]) rfl rfl (ay.of rfl)) ?_
 rintro _ _ ⟨b3,rfl,rfl⟩
 refine .ax fds 6 ?_
 refine .rd (.ld aS rfl .p0 rfl) ?_
 refine .rd (.ey rfl rfl Tryz.underlying9 rfl) ?_
 refine .rd (.lt rfl rfl) ?_
 refine .al 13 (.bool false) rfl (aE (by omega)) ?_
 refine .aH fds 4 ?_
 refine .dr [0,3] [an b3 [.string (str (summed (bG es)))] 9] ?_
 refine .re 0 rfl (.ld aS rfl .p0 rfl) .q0 ?_
 refine .rq 1 rfl (.cJ (l:=summed (bG es)) (a:=4) (h:=(summed (bG es)).length) Tryz.underlying9 rfl ⟨_,rfl⟩ rfl (by omega) (by omega)) ?_
 refine .al 16 (.string (str (bG es))) rfl (by rw[oS];unfold summed;rw[show((bI (fy (bG es)).toNat++bG es).drop 4)=bG es from rfl,List.take_of_length_le (by omega)]) ?_
 refine .re 3 rfl (.ld aS rfl .p0 rfl) .q0 ?_
 refine .rq 4 rfl (.cJ (l:=summed (bG es)) (a:=0) (h:=4) Tryz.underlying9 rfl rfl ⟨_,rfl⟩ (by omega) (by omega)) ?_
 refine .al 19 (.string (str (bI (fy (bG es)).toNat))) rfl (rfl) ?_
 refine .eg 2 rfl (.fn rfl rfl .nil ah (AP (bG es) (by omega))) ?_
 rintro v _ ⟨G1,hq,rfl⟩
 obtain⟨rfl,rfl⟩:=hq
 simp only[ae]
 refine⟨.inr ⟨_,.q0⟩,?_⟩
 refine .rq 5 rfl (.Ds (m:=bI (fy (bG es)).toNat) rfl rfl) ?_
 refine .al 20 (.bool false) rfl (congrArg Value.bool (by simp)) ?_
 refine .aq fds [6] ?_
 refine .dn ?_
 refine .ax fds 5 ?_
 refine .rd (.ld aS rfl .p0 rfl) ?_
 refine .rd (.cJ (l:=summed (bG es)) (a:=4) (h:=(summed (bG es)).length) Tryz.underlying9 rfl ⟨_,rfl⟩ rfl (by omega) (by omega)) ?_
 refine .al 22 (.string (str (bG es))) rfl (by rw[oS];unfold summed;rw[show((bI (fy (bG es)).toNat++bG es).drop 4)=bG es from rfl,List.take_of_length_le (by omega)]) ?_
 refine .cU (.store fG rfl rfl .p0 rfl aQ) ?_
 rintro _ _ rfl
 refine .nil ?_
 refine .ca (an b3 [.string (str (aG (es.length:Int)++es.flatMap mq))] 9) (rfl) ?_
 refine .ax fds 2 ?_
 refine .ef (.alloc Hh rfl (ay.of rfl)) ?_
 rintro _ _ ⟨b5,rfl,rfl⟩
 refine .cU (.store kO rfl rfl .p0 rfl aQ) ?_
 rintro _ _ rfl
 refine .ax fds 3 ?_
 refine .rd (.makeFunc (cs:=[.pointer (some ⟨b3,0,none⟩),.pointer (some ⟨b5,0,none⟩)]) rfl rfl) ?_
 refine .ax fds 5 ?_
 refine .sN rfl rfl .Gg ah (vE b3 b5 (es.length:Int) (es.flatMap mq) (by unfold i64;omega) (by omega)) (fun v G1 hq=>?_)
 obtain⟨rfl,rfl⟩:=hq
 simp only[ag,ae]
 refine .ax fds 7 ?_
 refine .al 27 (.bool false) rfl (aE (by omega)) ?_
 refine .go fds 3 ?_
 refine .al 30 (.bool false) rfl (aE (by omega)) ?_
 refine .ax fds 6 ?_
 refine .rd (.build rfl (AD _ _)) ?_
 refine .ef (.alloc gp rfl (ay.of rfl)) ?_
 rintro _ _ ⟨b8,rfl,rfl⟩
 refine .cU (.storeAll (vs:=fP (-1,-1)) cv rfl rfl rfl .p0 rfl (ay.of rfl)) ?_
 rintro _ _ rfl
 refine .nil ?_
 refine .ca (an b8 (fP (l9 es 0)) 70) (rfl) ?_
 refine .perm .eU ?_
 refine .ca (an b3 [.string (str ((es.drop 0).flatMap mq))] 9) (by rw[List.drop_zero]) ?_
 refine .perm .mH ?_
 refine .ca (an cb [.pointer (some ⟨db,0,none⟩),aY nm,.slice none 0 0] 125) (rfl) ?_
 refine .perm .mH ?_
 refine .ca (arr 70 3 none 0 ((es.take 0).flatMap fP)) (by rw[List.take_zero];rfl) ?_
 refine .go fds 7 ?_
 refine .loop (σ:=Nat×Option Addr×Nat) (fun⟨i,la,lc⟩=>i≤es.length) (fun⟨i,la,lc⟩=>es.length-i) (fun⟨i,la,lc⟩=>[(0,.pointer (some ⟨cb,0,none⟩)),(3,.pointer (some ⟨b3,0,none⟩)),(5,.pointer (some ⟨b5,0,none⟩)),(6,.func (.func 114) #[] #[.pointer (some ⟨b3,0,none⟩),.pointer (some ⟨b5,0,none⟩)]),(8,.pointer (some ⟨b8,0,none⟩)),(33,.int .i64 (es.length:Nat)),(34,.int .i64 (i:Nat))]) (fun⟨i,la,lc⟩=>[an b3 [.string (str ((es.drop i).flatMap mq))] 9,an b5 [.bool true] 4,an b8 (fP (l9 es i)) 70,an cb [.pointer (some ⟨db,0,none⟩),aY nm,.slice la i lc] 125,arr 70 3 la lc ((es.take i).flatMap fP),R]) (0,none,0) (Nat.zero_le _) .r7 (.cons .p2 (.cons .p3 (.cons .p2 (.cons .p1 (.cons .p0 (.cons .p0 .nil)))))) (fun s' hI ih=>?_)
 obtain⟨i,la,lc⟩:=s'
 dsimp only at hI ih⊢
 have mj:=hI
 refine .go fds 5 ?_
 refine .aL rfl (fun O4=>?_) (fun O4=>?_)
 ·
  refine .go fds 4 ?_
  obtain⟨x,hx⟩:∃x,es[i]?=some x:=⟨_,List.getElem?_eq_getElem (by omega)⟩
  have sw:=he.may x (List.mem_of_getElem? hx)
  obtain⟨I3,Te⟩:=CL he hx
  refine .ca (an b3 [.string (str (aG x.1++(aG x.2++(es.drop (i+1)).flatMap mq)))] 9) (by rw[rZ hx]) ?_
  refine .ax fds 2 ?_
  refine .sN rfl rfl .cV ah (vE b3 b5 x.1 (aG x.2++(es.drop (i+1)).flatMap mq) sw.1.i64 (by have:=yc he i;rw[rZ hx]at this;omega)) (fun v G1 hq=>?_)
  obtain⟨rfl,rfl⟩:=hq
  simp only[ag,ae]
  refine .rd (.build rfl (Hi _)) ?_
  refine .ef (.alloc gp rfl (ay.of rfl)) ?_
  rintro _ _ ⟨b9,rfl,rfl⟩
  refine .cU (.storeAll (vs:=fP (x.1,0)) cv rfl rfl rfl .p0 rfl (ay.of rfl)) ?_
  rintro _ _ rfl
  refine .ax fds 4 ?_
  refine .sN rfl rfl .pu ah (vE b3 b5 x.2 ((es.drop (i+1)).flatMap mq) sw.2.i64 (by have:=yc he i;rw[rZ hx,List.length_append]at this;omega)) (fun v G1 hq=>?_)
  obtain⟨rfl,rfl⟩:=hq
  simp only[ag,ae]
  refine .rd (.fieldAddr uB rfl) ?_
  refine .cU (.store bQ rfl rfl .p2 rfl aQ) ?_
  rintro _ _ rfl
  refine .nil ?_
  refine .ca (an b9 (fP x) 70) (rfl) ?_
  refine .ax fds 3 ?_
  refine .rd (.ld gm rfl .p2 rfl) ?_
  refine .go fds 3 ?_
  refine .on (t:=44) rfl rfl ?_
  refine .rd (.ld aj rfl .p0 rfl) ?_
  refine .on (t:=44) rfl rfl ?_
  refine .fn rfl rfl .nil ah (oa x.1) (fun v G1 hq=>?_)
  obtain⟨rfl,rfl⟩:=hq
  simp only[ae]
  refine .al 47 (.bool true) rfl (bS sw.1) ?_
  refine .go fds 4 ?_
  refine .on (t:=50) rfl rfl ?_
  refine .rd (.ld aj rfl .p0 rfl) ?_
  refine .on (t:=50) rfl rfl ?_
  refine .fn rfl rfl .nil ah (oa x.2) (fun v G1 hq=>?_)
  obtain⟨rfl,rfl⟩:=hq
  simp only[ae]
  refine .al 53 (.bool true) rfl (bS sw.2) ?_
  refine .go fds 4 ?_
  refine .on (t:=56) rfl rfl ?_
  refine .rd (.ld aj rfl .p0 rfl) ?_
  refine .go fds 1 ?_
  refine .on (t:=56) rfl rfl ?_
  refine .rd (.ld aj rfl .p3 rfl) ?_
  refine .go fds 1 ?_
  refine .al 61 (.bool false) rfl (aE (by omega)) ?_
  refine .go fds 3 ?_
  refine .on (t:=63) rfl rfl ?_
  refine .rd (.ld aj rfl .p0 rfl) ?_
  refine .go fds 1 ?_
  refine .on (t:=63) rfl rfl ?_
  refine .rd (.ld aj rfl .p3 rfl) ?_
  refine .go fds 1 ?_
  refine .al 68 (.bool false) rfl (aE (by omega)) ?_
  refine .aH fds 5 ?_
  refine .dr [4,5] [an cb [.pointer (some ⟨db,0,none⟩),aY nm,.slice la i lc] 125,an b9 (fP x) 70] ?_
  refine .aq fds [0] ?_
  refine .aq fds [1] ?_
  refine .aq fds [2] ?_
  refine .aq fds [3] ?_
  refine .re 4 rfl (.ld eW rfl .p0 rfl) (.cons .p4 (.cons .p0 .nil)) ?_
  refine .re 5 rfl (.jy kQ cv rfl .p1 rfl) (.cons .p4 (.cons .p0 .nil)) ?_
  refine .eg 6 rfl (.cq (cs:=fP x) Tryz.underlying64 gp (by decide) rfl rfl rfl (ay.of rfl)) ?_
  rintro _ _ ⟨bs,rfl,rfl⟩
  refine⟨.inr ⟨_,(.cons .p5 (.cons .p1 .nil))⟩,?_⟩
  refine .eg 7 rfl (.append rfl rfl Tryz.underlying64 gp rfl (ay.of rfl) (by decide) (by decide) rfl rfl .p6 (n:=i) (m:=1) (by rw[ar cr,List.length_take];omega) (.dN .p0 Tryz.underlying64 rfl (by decide)) (by omega)) ?_
  rintro _ _ ⟨ra,rc,rfl,rn,rfl⟩
  refine aA ?_
  refine .aq fds [8] ?_
  refine .aq fds [9] ?_
  refine .eh 10 rfl (.store AC rfl rfl .p6 rfl aQ) ?_
  rintro _ _ rfl
  refine aA ?_
  refine .dn ?_
  refine .perm .kM ?_
  refine .ca (arr 70 3 ra rc ((es.take (i+1)).flatMap fP)) (by rw[List.take_add_one,hx,List.flatMap_append];simp) ?_
  refine .region ?_
  refine .rd (.jy kQ cv rfl .p3 rfl) ?_
  refine .cU (.storeAll (vs:=fP x) cv rfl rfl rfl .p6 rfl (ay.of rfl)) ?_
  rintro _ _ rfl
  refine .nil ?_
  refine .ca (an b8 (fP (l9 es (i+1))) 70) (by rw[o4 hx]) ?_
  refine .ax fds 2 ?_
  refine .rd (.add rfl rfl (by omega) (by omega)) ?_
  refine .aH fds 2 ?_
  exact(ih (i+1,ra,rc) (by show i+1≤es.length;omega) (by show es.length-(i+1)<es.length-i;omega)).to .r7 (.cons .p5 (.cons .p5 (.cons .p0 (.cons .p1 (.cons .p0 (.cons .p2 .nil))))))
 ·
  refine .go fds 3 ?_
  obtain rfl:i=es.length:=by omega
  refine .ca (an b3 [.string (str ([]))] 9) (by rw[List.drop_length];rfl) ?_
  refine .region ?_
  refine .rd (.ld gm rfl .p1 rfl) ?_
  refine .go fds 2 ?_
  refine .on (t:=84) rfl rfl ?_
  refine .rd (.ld aS rfl .p0 rfl) ?_
  refine .on (t:=84) rfl rfl ?_
  refine .rd (.Ds (m:=[]) rfl rfl) ?_
  refine .al 86 (.bool false) rfl (congrArg Value.bool (by simp)) ?_
  refine .aH fds 8 ?_
  refine .perm .mH ?_
  refine .ca (arr 70 3 la lc (es.flatMap fP)) (by rw[List.take_length]) ?_
  refine .close (X:=CG db ⟨cb,nm,es,la,lc⟩) (.cons .p4 (.cons .p0 .nil)) (fun h H=>H) ?_
  refine .aF Tryz.func71 (.t1 rfl) .Lw ?_
  exact⟨[_],⟨rfl,la,lc,rfl⟩,rfl⟩
theorem F0(db mb:Nat)(d:Dk)(nm:Nm)(es:List Ep)(he:bO es)(hf:((d.get nm).isSome=false∧es=[])∨((d.get nm).isSome=true∧(d.file nm).b=summed (bG es))):Cn Tryz.prog 33 [.pointer (some ⟨db,0,none⟩),aY nm] (fun _=>True) [an db (d.cells mb) 74,mp aY Fl.val mb d.fs] fun v G=>∃cb la lc,v=.tuple #[.pointer (some ⟨cb,0,none⟩),.int .i64 0]∧G=[CG db ⟨cb,nm,es,la,lc⟩,an db (d.cells mb) 74,mp aY Fl.val mb d.fs]:=by
 refine .en Tryz.func33 fun R k=>?_
 refine .ax fds 9 ?_
 refine .rd (.build rfl (Hj _ _)) ?_
 refine .ef (.box (l:=[.pointer (some ⟨db,0,none⟩),aY nm,.slice none 0 0]) rfl rfl (ay.of rfl)) ?_
 rintro _ _ ⟨cb,rfl,rfl⟩
 refine .ax fds 6 ?_
 refine .fn rfl rfl .pu ah (jN db mb d nm) (fun v G1 hq=>?_)
 obtain⟨rfl,rfl⟩:=hq
 simp only[ag,ae]
 refine .aH fds 12 ?_
 refine .mv rfl (fun c3=>?_) (fun c3=>?_)
 ·
  obtain rfl:es=[]:=by
   rcases hf with h|h
   ·
    exact h.2
   ·
    rw[if_pos h.1]at c3;exact absurd rfl c3
  refine .go fds 6 ?_
  refine .cn 70 3 none ?_
  refine .close (X:=CG db ⟨cb,nm,[],none,0⟩) (.cons .p3 (.cons .p0 .nil)) (fun h H=>H) ?_
  refine .aF Tryz.func33 (.t2 rfl rfl) .fx ?_
  exact⟨[_,_,_],⟨cb,none,0,rfl,rfl⟩,rfl⟩
 ·
  obtain⟨hg,hb⟩:(d.get nm).isSome=true∧(d.file nm).b=summed (bG es):=by
   rcases hf with h|h
   ·
    rw[h.1]at c3;exact absurd c3 (by decide)
   ·
    exact h
  refine .al 7 (.string (str (summed (bG es)))) rfl (by rw[hb];rfl) ?_
  refine .ax fds 6 ?_
  refine .fn rfl rfl .q2 ah (I2 db cb nm es he) (fun v G1 hq=>?_)
  obtain⟨rfl,la,lc,rfl⟩:=hq
  simp only[ag,ae]
  refine .aH fds 15 ?_
  refine .aF Tryz.func33 (.t2 rfl rfl) .fx ?_
  exact⟨[_,_,_],⟨cb,la,lc,rfl,rfl⟩,rfl⟩
theorem qb(db:Nat)(s:St):Cn Tryz.prog 18 [.pointer (some ⟨s.sx,0,none⟩)] (aN s.sx 0 (s.cells db)) [] fun v G=>v=.pointer (some ⟨s.l.lb,0,none⟩)∧G=[]:=by
 refine .en Tryz.func18 fun R k=>?_
 refine .ax fds 9 ?_
 refine .rd (.load gq rfl (af.one (i:=2) (af.pick .p0 (k.mono fun _ h=>h)) rfl)) ?_
 refine .aH fds 2 ?_
 refine .aF Tryz.func18 (.t1 rfl) .q0 ?_
 exact⟨[],⟨rfl,rfl⟩,rfl⟩
theorem tY(db:Nat)(s:St):Cn Tryz.prog 29 [.pointer (some ⟨s.sx,0,none⟩)] (aN s.sx 0 (s.cells db)) [] fun v G=>v=.pointer (some ⟨s.c.cb,0,none⟩)∧G=[]:=by
 refine .en Tryz.func29 fun R k=>?_
 refine .ax fds 9 ?_
 refine .rd (.load gU rfl (af.one (i:=3) (af.pick .p0 (k.mono fun _ h=>h)) rfl)) ?_
 refine .aH fds 2 ?_
 refine .aF Tryz.func29 (.t1 rfl) .q0 ?_
 exact⟨[],⟨rfl,rfl⟩,rfl⟩
theorem jv(db:Nat)(s:St):Cn Tryz.prog 11 [.pointer (some ⟨s.sx,0,none⟩)] (aN s.sx 0 (s.cells db)) [] fun v G=>v=.pointer (some ⟨s.t.tb,0,none⟩)∧G=[]:=by
 refine .en Tryz.func11 fun R k=>?_
 refine .ax fds 9 ?_
 refine .rd (.load jC rfl (af.one (i:=4) (af.pick .p0 (k.mono fun _ h=>h)) rfl)) ?_
 refine .aH fds 2 ?_
 refine .aF Tryz.func11 (.t1 rfl) .q0 ?_
 exact⟨[],⟨rfl,rfl⟩,rfl⟩
theorem BB(db:Nat)(s:St)(hp:og s.l.pre):Cn Tryz.prog 36 [.pointer (some ⟨s.sx,0,none⟩)] (aN s.sx 0 (s.cells db)) [] fun v G=>v=aY (eZ s.l.pre)∧G=[]:=by
 refine .en Tryz.func36 fun R k=>?_
 refine .ax fds 9 ?_
 refine .rd (.load aS rfl (af.one (i:=1) (af.pick .p0 (k.mono fun _ h=>h)) rfl)) ?_
 refine .rd (.eb (l:=s.l.pre) (m:=[46,112,105,100,115]) rfl rfl (by have:=hp.len;simp only[List.length_cons,List.length_nil];omega)) ?_
 refine .al 7 (aY (eZ s.l.pre)) rfl (rfl) ?_
 refine .aH fds 2 ?_
 refine .aF Tryz.func36 (.t1 rfl) .q0 ?_
 exact⟨[],⟨rfl,rfl⟩,rfl⟩
theorem F1(db mb:Nat)(d:Dk)(s:St)(hp:og s.l.pre)(hd:d.ok)(hT:cC (bg s.t.m))(hl:s.t.m.length≤1000000)(hs:gB (bg s.t.m)≤100000000)(hr:(d.get (eZ s.l.pre)).isSome=true∨d.fs.length<256)(fw:d.used+(dI (bg s.t.m)).length≤d.size):Cn Tryz.prog 52 [.pointer (some ⟨s.sx,0,none⟩),.pointer (some ⟨s.t.tb,0,none⟩)] (fun _=>True) [SS db s,an db (d.cells mb) 74,mp aY Fl.val mb d.fs] fun v G=>v=.int .i64 0∧G=[SS db s,an db ((d.put (eZ s.l.pre) ⟨dI (bg s.t.m),(dI (bg s.t.m)).length⟩).cells mb) 74,mp aY Fl.val mb (d.put (eZ s.l.pre) ⟨dI (bg s.t.m),(dI (bg s.t.m)).length⟩).fs]:=by
 refine .en Tryz.func52 fun R k=>?_
 refine .unpack (L:=[an s.sx (s.cells db) 80,LG db s.l,CG db s.c,TG s.t]) .p0 ?_
 simp only[ag,ae]
 refine .go fds 5 ?_
 refine .dr [3] [an s.sx (s.cells db) 80] ?_
 refine .aq fds [0] ?_
 refine .aq fds [1] ?_
 refine .aq fds [2] ?_
 refine .re 3 rfl (.ld di rfl .p0 rfl) .q0 ?_
 refine .aq fds [4] ?_
 refine .aq fds [6] ?_
 refine .eg 5 rfl (.fn rfl rfl .nil (af.an .p0) (BB db s hp)) ?_
 rintro v _ ⟨G1,hq,rfl⟩
 obtain⟨rfl,rfl⟩:=hq
 simp only[ae]
 refine⟨.inr ⟨_,.q0⟩,?_⟩
 refine .eg 7 rfl (.fn rfl rfl .q3 ah (H9 s.t hT hl hs)) ?_
 rintro v _ ⟨G1,hq,rfl⟩
 obtain⟨rfl,rfl⟩:=hq
 simp only[ag,ae]
 refine⟨.inr ⟨_,.q1⟩,?_⟩
 refine .eg 8 rfl (.fn rfl rfl (.cons .p4 (.cons .p4 .nil)) ah (lX db mb d (eZ s.l.pre) (dI (bg s.t.m)) hd (oh hp) hr (by omega))) ?_
 rintro v _ ⟨G1,hq,rfl⟩
 obtain⟨rfl,rfl⟩:=hq
 simp only[ag,ae]
 refine aA ?_
 refine .aq fds [9] ?_
 refine .dn ?_
 refine .pack (L:=[an (s).sx (St.cells (s) db) 80,LG db (s).l,CG db (s).c,TG (s).t]) (.cons .p3 (.cons .p3 (.cons .p3 (.cons .p2 .nil)))) ?_
 refine .aF Tryz.func52 (.t1 rfl) .fx ?_
 exact⟨[_,_,_],⟨rfl,rfl⟩,rfl⟩
theorem I4(db mb:Nat)(d:Dk)(s:St)(hd:d.ok)(hl:s.l.ok d)(lD:cI s.l.next)(k8:bO s.c.es)(hT:cC (bg s.t.m))(hn:eS s.c.nm)(hr:(d.get s.c.nm).isSome=true∨d.fs.length<256)(fw:d.used+4020≤d.size):Cn Tryz.prog 51 [.pointer (some ⟨s.sx,0,none⟩)] (fun _=>True) [SS db s,an db (d.cells mb) 74,mp aY Fl.val mb d.fs] fun v G=>∃t' la lc,bg t'.m=iN s.l.next (bg s.t.m)∧G=[SS db (⟨s.sx,s.l,⟨s.c.cb,s.c.nm,(bi s.l.next s.c.es),la,lc⟩,t'⟩:St),an db ((bA d s.c (bi s.l.next s.c.es)).cells mb) 74,mp aY Fl.val mb (bA d s.c (bi s.l.next s.c.es)).fs]:=by
 refine .en Tryz.func51 fun R k=>?_
 refine .unpack (L:=[an s.sx (s.cells db) 80,LG db s.l,CG db s.c,TG s.t]) .p0 ?_
 simp only[ag,ae]
 refine .seq ?_
 refine .dr [3,7,10] [an s.sx (s.cells db) 80,LG db s.l] ?_
 refine .aq fds [0] ?_
 refine .aq fds [1] ?_
 refine .aq fds [2] ?_
 refine .re 3 rfl (.ld gU rfl .p0 rfl) .cV ?_
 refine .aq fds [4] ?_
 refine .aq fds [5] ?_
 refine .aq fds [6] ?_
 refine .re 7 rfl (.ld gq rfl .p0 rfl) .cV ?_
 refine .aq fds [8] ?_
 refine .aq fds [9] ?_
 refine .re 10 rfl (.load aO rfl (af.one (i:=0) ((LG.at .p1).mono fun _ h=>h.1) rfl)) .cV ?_
 refine .eg 11 rfl (.fn rfl rfl .nil ((LG.at .p1).mono fun _ h=>h.2.2 _ (Lx.cF (s.l))) (bY db (s.l).ai hl.ai.1)) ?_
 rintro v _ ⟨G1,hq,rfl⟩
 obtain⟨rfl,rfl⟩:=hq
 simp only[ae]
 refine⟨.inr ⟨_,.cV⟩,?_⟩
 refine .al 13 (.int .i64 (s.l).next) rfl (rfl) ?_
 refine .eg 12 rfl (.fn rfl rfl .yN ah (Bw db mb d s.c s.l.next lD k8 hd hn hr fw)) ?_
 rintro v _ ⟨G1,hq,rfl⟩
 obtain⟨rfl,la,lc,rfl⟩:=hq
 simp only[ag,ae]
 refine aA ?_
 refine .dn ?_
 refine .dr [3,7,10] [an s.sx (s.cells db) 80,LG db s.l] ?_
 refine .aq fds [0] ?_
 refine .aq fds [1] ?_
 refine .aq fds [2] ?_
 refine .re 3 rfl (.ld jC rfl .p0 rfl) .vL ?_
 refine .aq fds [4] ?_
 refine .aq fds [5] ?_
 refine .aq fds [6] ?_
 refine .re 7 rfl (.ld gq rfl .p0 rfl) .vL ?_
 refine .aq fds [8] ?_
 refine .aq fds [9] ?_
 refine .re 10 rfl (.load aO rfl (af.one (i:=0) ((LG.at .p1).mono fun _ h=>h.1) rfl)) .vL ?_
 refine .eg 11 rfl (.fn rfl rfl .nil ((LG.at .p4).mono fun _ h=>h.2.2 _ (Lx.cF (s.l))) (bY db (s.l).ai hl.ai.1)) ?_
 rintro v _ ⟨G1,hq,rfl⟩
 obtain⟨rfl,rfl⟩:=hq
 simp only[ae]
 refine⟨.inr ⟨_,.vL⟩,?_⟩
 refine .al 26 (.int .i64 (s.l).next) rfl (rfl) ?_
 refine .eg 12 rfl (.fn rfl rfl .q5 ah (AZ s.t s.l.next hT)) ?_
 rintro v _ ⟨G1,hq,rfl⟩
 obtain⟨t',Br,Bt,rfl⟩:=hq
 simp only[ag,ae]
 refine aA ?_
 refine .dn ?_
 refine .perm .mJ ?_
 refine .ca (an ((⟨s.sx,s.l,⟨s.c.cb,s.c.nm,(bi s.l.next s.c.es),la,lc⟩,t'⟩:St)).sx (St.cells ((⟨s.sx,s.l,⟨s.c.cb,s.c.nm,(bi s.l.next s.c.es),la,lc⟩,t'⟩:St)) db) 80) (by unfold St.cells;rw[Br]) ?_
 refine .pack (L:=[an ((⟨s.sx,s.l,⟨s.c.cb,s.c.nm,(bi s.l.next s.c.es),la,lc⟩,t'⟩:St)).sx (St.cells ((⟨s.sx,s.l,⟨s.c.cb,s.c.nm,(bi s.l.next s.c.es),la,lc⟩,t'⟩:St)) db) 80,LG db ((⟨s.sx,s.l,⟨s.c.cb,s.c.nm,(bi s.l.next s.c.es),la,lc⟩,t'⟩:St)).l,CG db ((⟨s.sx,s.l,⟨s.c.cb,s.c.nm,(bi s.l.next s.c.es),la,lc⟩,t'⟩:St)).c,TG ((⟨s.sx,s.l,⟨s.c.cb,s.c.nm,(bi s.l.next s.c.es),la,lc⟩,t'⟩:St)).t]) (.cons .p0 (.cons .p4 (.cons .p1 (.cons .p0 .nil)))) ?_
 refine .su Tryz.func51 .nil .fx ?_
 exact⟨[_,_,_],⟨t',la,lc,Bt,rfl⟩,rfl⟩
theorem I5{bl:List lg}(h:I0 (bl.map (·.1))){i j:Nat}{x y:lg}(nM:j<i)(hx:bl[i]?=some x)(hy:bl[j]?=some y):y.1.pid=x.1.pid→y.1.be=x.1.be→y.1.seq+(y.1.aU.length:Int)≤x.1.seq:=by
 obtain⟨hi,rfl⟩:=List.getElem?_eq_some_iff.1 hx
 obtain⟨hj,rfl⟩:=List.getElem?_eq_some_iff.1 hy
 have:=List.pairwise_iff_getElem.1 h j i (by rw[List.length_map];exact hj) (by rw[List.length_map];exact hi) nM
 simpa using this
theorem F2(ra:Option Addr)(rc:Nat)(bl:List lg)(hl:bl.length≤100000000)(ho:I0 (bl.map (·.1)))(hb:∀b∈bl.map (·.1),Bx b):Cn Tryz.prog 17 [.slice ra bl.length rc] (aB ra (bl.flatMap mY)) [] fun v G=>v=.bool true∧G=[]:=by
 refine .en Tryz.func17 fun R k=>?_
 refine .go fds 10 ?_
 refine .loop (σ:=Nat) (fun i=>i≤bl.length) (fun i=>bl.length-i) (fun i=>[(0,.slice ra bl.length rc),(3,.int .i64 (i:Nat))]) (fun i=>[R]) 0 (Nat.zero_le _) .r2 .q0 (fun i hI ih=>?_)
 have mj:=hI
 have MO:=ih
 refine .ax fds 5 ?_
 refine .rd (.bK rfl rfl Tryz.underlying47 rfl) ?_
 refine .aH fds 2 ?_
 refine .aL rfl (fun h2=>?_) (fun h2=>?_)
 ·
  refine .go fds 8 ?_
  refine .loop (σ:=Nat) (fun j=>j≤i) (fun j=>i-j) (fun j=>[(0,.slice ra bl.length rc),(3,.int .i64 (i:Nat)),(4,.int .i64 (j:Nat))]) (fun j=>[R]) 0 (Nat.zero_le _) .r3 .q0 (fun j hI ih=>?_)
  have Ae:=hI
  refine .go fds 7 ?_
  refine .aL rfl (fun h5=>?_) (fun h5=>?_)
  ·
   refine .go fds 4 ?_
   refine .tell (φ:=∃b o,ra=some ⟨b,o,none⟩) (af.pick .p0 (k.mono fun _ h=>aB.addr h (by rw[ar cz];omega))) (fun hh=>?_)
   obtain⟨b9,o9,h9⟩:=hh
   obtain⟨x,hx⟩:∃x,bl[i]?=some x:=⟨_,List.getElem?_eq_getElem (by omega)⟩
   obtain⟨y,hy⟩:∃y,bl[j]?=some y:=⟨_,List.getElem?_eq_getElem (by omega)⟩
   have Gf:=I5 ho (by omega) hx hy
   have zZ:=hb y.1 (List.mem_map_of_mem (List.mem_of_getElem? hy))
   have Re:=zZ.nt.seq
   have Od:=zZ.nt.n
   have Rf:y.1.aU.length≤64:=by have:((y.1.aU.length:Nat):Int)≤64:=Od.2;omega
   have U3:0≤y.1.seq∧y.1.seq≤1000000:=Re
   refine .dr [4,9,16,21,29,34,39] [R] ?_
   refine .aq fds [0] ?_
   refine .aq fds [1] ?_
   refine .rq 2 rfl (.indexAddr (b:=b9) (o:=o9) Tryz.underlying47 aM (by show some (Value.slice (ra) _ _)=_;rw[h9]) rfl (by omega) (by omega)) ?_
   refine .aq fds [3] ?_
   refine .re 4 rfl (.load aj rfl (af.one (i:=2) (af.elem (f:=mY) cz (by decide) (af.pick .p0 (k.mono fun _ h=>h9▸h)) (hx)) rfl)) .q0 ?_
   refine .aq fds [5] ?_
   refine .aq fds [6] ?_
   refine .rq 7 rfl (.indexAddr (b:=b9) (o:=o9) Tryz.underlying47 aM (by show some (Value.slice (ra) _ _)=_;rw[h9]) rfl (by omega) (by omega)) ?_
   refine .aq fds [8] ?_
   refine .re 9 rfl (.load aj rfl (af.one (i:=2) (af.elem (f:=mY) cz (by decide) (af.pick .p0 (k.mono fun _ h=>h9▸h)) (hy)) rfl)) .q0 ?_
   refine .aq fds [10] ?_
   refine .aq fds [11] ?_
   refine .split (t:=27) rfl (fun g11=>?_) (fun g11=>?_)
   ·
    replace g11:=of_decide_eq_true g11
    refine .aq fds [12] ?_
    refine .aq fds [13] ?_
    refine .sL 14 (t:=27) rfl rfl rfl (by kernel_rfl) (by kernel_rfl) (by kernel_rfl) (Reads.pure (.indexAddr (b:=b9) (o:=o9) Tryz.underlying47 aM (by show some (Value.slice (ra) _ _)=_;rw[h9]) rfl (by omega) (by omega))) ?_
    refine .aq fds [15] ?_
    refine .si 16 (t:=27) rfl rfl rfl rfl (by kernel_rfl) (by kernel_rfl) (by kernel_rfl) (.load aj rfl (af.one (i:=3) (af.elem (f:=mY) cz (by decide) (af.pick .p0 (k.mono fun _ h=>h9▸h)) (hx)) rfl)) .q0 ?_
    refine .aq fds [17] ?_
    refine .aq fds [18] ?_
    refine .sL 19 (t:=27) rfl rfl rfl (by kernel_rfl) (by kernel_rfl) (by kernel_rfl) (Reads.pure (.indexAddr (b:=b9) (o:=o9) Tryz.underlying47 aM (by show some (Value.slice (ra) _ _)=_;rw[h9]) rfl (by omega) (by omega))) ?_
    refine .aq fds [20] ?_
    refine .si 21 (t:=27) rfl rfl rfl rfl (by kernel_rfl) (by kernel_rfl) (by kernel_rfl) (.load aj rfl (af.one (i:=3) (af.elem (f:=mY) cz (by decide) (af.pick .p0 (k.mono fun _ h=>h9▸h)) (hy)) rfl)) .q0 ?_
    refine .aq fds [22] ?_
    refine .aq fds [23] ?_
    refine .aq fds [24] ?_
    refine .split (t:=40) rfl (fun g24=>?_) (fun g24=>?_)
    ·
     replace g24:=of_decide_eq_true g24
     refine .aq fds [25] ?_
     refine .aq fds [26] ?_
     refine .sL 27 (t:=40) rfl rfl rfl (by kernel_rfl) (by kernel_rfl) (by kernel_rfl) (Reads.pure (.indexAddr (b:=b9) (o:=o9) Tryz.underlying47 aM (by show some (Value.slice (ra) _ _)=_;rw[h9]) rfl (by omega) (by omega))) ?_
     refine .aq fds [28] ?_
     refine .si 29 (t:=40) rfl rfl rfl rfl (by kernel_rfl) (by kernel_rfl) (by kernel_rfl) (.load aj rfl (af.one (i:=4) (af.elem (f:=mY) cz (by decide) (af.pick .p0 (k.mono fun _ h=>h9▸h)) (hx)) rfl)) .q0 ?_
     refine .aq fds [30] ?_
     refine .aq fds [31] ?_
     refine .sL 32 (t:=40) rfl rfl rfl (by kernel_rfl) (by kernel_rfl) (by kernel_rfl) (Reads.pure (.indexAddr (b:=b9) (o:=o9) Tryz.underlying47 aM (by show some (Value.slice (ra) _ _)=_;rw[h9]) rfl (by omega) (by omega))) ?_
     refine .aq fds [33] ?_
     refine .si 34 (t:=40) rfl rfl rfl rfl (by kernel_rfl) (by kernel_rfl) (by kernel_rfl) (.load aj rfl (af.one (i:=4) (af.elem (f:=mY) cz (by decide) (af.pick .p0 (k.mono fun _ h=>h9▸h)) (hy)) rfl)) .q0 ?_
     refine .aq fds [35] ?_
     refine .aq fds [36] ?_
     refine .sL 37 (t:=40) rfl rfl rfl (by kernel_rfl) (by kernel_rfl) (by kernel_rfl) (Reads.pure (.indexAddr (b:=b9) (o:=o9) Tryz.underlying47 aM (by show some (Value.slice (ra) _ _)=_;rw[h9]) rfl (by omega) (by omega))) ?_
     refine .aq fds [38] ?_
     refine .si 39 (t:=40) rfl rfl rfl rfl (by kernel_rfl) (by kernel_rfl) (by kernel_rfl) (.load gH rfl (af.one (i:=5) (af.elem (f:=mY) cz (by decide) (af.pick .p0 (k.mono fun _ h=>h9▸h)) (hy)) rfl)) .q0 ?_
     refine .sL 40 (t:=40) rfl rfl rfl (by kernel_rfl) (by kernel_rfl) (by kernel_rfl) (Reads.pure (.bK rfl rfl Tryz.underlying39 rfl)) ?_
     refine .sL 41 (t:=40) rfl rfl rfl (by kernel_rfl) (by kernel_rfl) (by kernel_rfl) (Reads.pure (.add rfl rfl (by omega) (by omega))) ?_
     refine .aq fds [42] ?_
     refine .al 58 (.bool false) rfl (aE (by have:=Gf (by omega) (by omega);omega)) ?_
     refine .aq fds [43] ?_
     refine .dn ?_
     refine .ax fds 5 ?_
     refine .rd (.add rfl rfl (by omega) (by omega)) ?_
     refine .aH fds 2 ?_
     exact(ih (j+1) (by omega) (by omega)).to .r3 .q0
    ·
     replace g24:=of_decide_eq_false g24
     refine .aq fds [25,26,27,28,29,30,31,32,33,34,35,36,37,38,39,40,41,42] ?_
     refine .aq fds [43] ?_
     refine .dn ?_
     refine .ax fds 5 ?_
     refine .rd (.add rfl rfl (by omega) (by omega)) ?_
     refine .aH fds 2 ?_
     exact(ih (j+1) (by omega) (by omega)).to .r3 .q0
   ·
    replace g11:=of_decide_eq_false g11
    refine .aq fds [12,13,14,15,16,17,18,19,20,21,22] ?_
    refine .aq fds [23] ?_
    refine .aq fds [24,25,26,27,28,29,30,31,32,33,34,35,36,37,38,39,40,41,42] ?_
    refine .aq fds [43] ?_
    refine .dn ?_
    refine .ax fds 5 ?_
    refine .rd (.add rfl rfl (by omega) (by omega)) ?_
    refine .aH fds 2 ?_
    exact(ih (j+1) (by omega) (by omega)).to .r3 .q0
  ·
   refine .ax fds 4 ?_
   refine .rd (.add rfl rfl (by omega) (by omega)) ?_
   refine .aH fds 2 ?_
   exact(MO (i+1) (by omega) (by omega)).to .r2 .q0
 ·
  refine .go fds 5 ?_
  refine .aF Tryz.func17 (.t1 rfl) .q0 ?_
  exact⟨[],⟨rfl,rfl⟩,rfl⟩
theorem F3(db mb:Nat)(d:Dk)(l:Lx)(bs:Nat)(hd:d.ok)(hl:l.ok d):Cn Tryz.prog 56 [.slice (some ⟨bs,0,none⟩) 1 1] (aN bs 0 [.func (.func 57) #[.pointer (some ⟨l.ai.b,0,none⟩)] #[]]) [LG db l,an db (d.cells mb) 74,mp aY Fl.val mb d.fs] fun v G=>v=.int .i64 0∧G=[LG db l,an db ((sync l d).cells mb) 74,mp aY Fl.val mb (sync l d).fs]:=by
 refine .en Tryz.func56 fun R k=>?_
 refine .ax fds 8 ?_
 refine .rd (.bK rfl rfl Tryz.underlying148 rfl) ?_
 refine .aH fds 2 ?_
 refine .perm .qv ?_
 refine .ca (an db ((if 0=0 then d else sync l d).cells mb) 74) (rfl) ?_
 refine .perm .wk ?_
 refine .ca (mp aY Fl.val mb (if 0=0 then d else sync l d).fs) (rfl) ?_
 refine .block ?_
 refine .loop (σ:=Nat) (fun i=>i≤1) (fun i=>1-i) (fun i=>[(6,.slice (some ⟨bs,0,none⟩) 1 1),(7,.int .i64 (1:Nat)),(8,.int .i64 (i:Nat))]) (fun i=>[LG db l,an db ((if i=0 then d else sync l d).cells mb) 74,mp aY Fl.val mb (if i=0 then d else sync l d).fs,R]) 0 (Nat.zero_le _) .r3 .An (fun i hI ih=>?_)
 have mj:=hI
 refine .go fds 5 ?_
 refine .aL rfl (fun h2=>?_) (fun h2=>?_)
 ·
  refine .go fds 4 ?_
  obtain rfl:i=0:=by omega
  refine .region ?_
  refine .rd (.indexAddr (b:=bs) (o:=0) Tryz.underlying148 Hl rfl rfl (by omega) (by omega)) ?_
  refine .rd (.load Ho rfl (af.one (i:=0) (af.pick .p3 (k.mono fun _ h=>h)) rfl)) ?_
  refine .ax fds 5 ?_
  refine .sN rfl rfl .pu ((LG.at .p0).mono fun _ h=>h.2.2 _ l.cF) (rz db mb d l.ai hd hl.ai.2.2.1) (fun v G1 hq=>?_)
  obtain⟨rfl,rfl⟩:=hq
  simp only[ag,ae]
  refine .ax fds 11 ?_
  refine .rd (.add rfl rfl (by omega) (by omega)) ?_
  refine .aH fds 2 ?_
  refine .ca (an db ((if 1=0 then d else sync l d).cells mb) 74) (rfl) ?_
  refine .perm .qv ?_
  refine .ca (mp aY Fl.val mb (if 1=0 then d else sync l d).fs) (rfl) ?_
  exact(ih 1 (by omega) (by omega)).to .r3 .An
 ·
  refine .go fds 5 ?_
  obtain rfl:i=1:=by omega
  refine .aF Tryz.func56 (.t1 rfl) .fx ?_
  exact⟨[_,_,_],⟨rfl,rfl⟩,rfl⟩
theorem sg(db mb:Nat)(d:Dk)(s:St)(hd:d.ok)(hl:s.l.ok d):Cn Tryz.prog 24 [.pointer (some ⟨s.sx,0,none⟩)] (fun _=>True) [SS db s,an db (d.cells mb) 74,mp aY Fl.val mb d.fs] fun v G=>v=.int .i64 0∧G=[SS db s,an db ((sync s.l d).cells mb) 74,mp aY Fl.val mb (sync s.l d).fs]:=by
 refine .en Tryz.func24 fun R k=>?_
 refine .unpack (L:=[an s.sx (s.cells db) 80,LG db s.l,CG db s.c,TG s.t]) .p0 ?_
 simp only[ag,ae]
 refine .ax fds 9 ?_
 refine .rd (.ld gq rfl .p0 rfl) ?_
 refine .go fds 2 ?_
 refine .rd (.load aO rfl (af.one (i:=0) ((LG.at .p1).mono fun _ h=>h.1) rfl)) ?_
 refine .rd (.makeFunc (fs:=[.pointer (some ⟨s.l.ai.b,0,none⟩)]) rfl rfl) ?_
 refine .ef (.cq (cs:=[.func (.func 57) #[.pointer (some ⟨s.l.ai.b,0,none⟩)] #[]]) Tryz.underlying148 Hq (by decide) rfl rfl rfl (ay.of rfl)) ?_
 rintro _ _ ⟨bs,rfl,rfl⟩
 refine .fn rfl rfl (.cons .p2 (.cons .p4 (.cons .p4 .nil))) (af.an .p0) (F3 db mb d s.l bs hd hl) (fun v G1 hq=>?_)
 obtain⟨rfl,rfl⟩:=hq
 simp only[ag,ae]
 refine .aH fds 2 ?_
 refine .pack (L:=[an (s).sx (St.cells (s) db) 80,LG db (s).l,CG db (s).c,TG (s).t]) (.cons .p4 (.cons .p0 (.cons .p3 (.cons .p3 .nil)))) ?_
 refine .aF Tryz.func24 (.t1 rfl) .kp ?_
 exact⟨[_,_,_],⟨rfl,rfl⟩,rfl⟩
theorem vF(db mb:Nat)(d:Dk)(s:St)(off:Int)(hd:d.ok)(hl:s.l.ok d)(CW:s.c.nm=ek s.l.pre)(k8:bO s.c.es)(hT:cC (bg s.t.m))(KJ:d.fs.length<254)(h1:s.l.start≤off)(h2:off≤s.l.next)(yj:s.l.start≤aC (a8 s.l) (ii off s.l.all))(fw:d.used+4020≤d.size):Cn Tryz.prog 20 [.pointer (some ⟨s.sx,0,none⟩),.int .i64 off] LV [SS db s,an db (d.cells mb) 74,mp aY Fl.val mb d.fs] fun v G=>∃s' d',v=.int .i64 0∧KS s d off s' d'∧G=[SS db s',an db (d'.cells mb) 74,mp aY Fl.val mb d'.fs]:=by
 refine .en Tryz.func20 fun R k=>?_
 refine .unpack (L:=[an s.sx (s.cells db) 80,LG db s.l,CG db s.c,TG s.t]) .p0 ?_
 simp only[ag,ae]
 have ph:eS s.c.nm:=by rw[CW];exact jk hl.pre
 refine .ax fds 10 ?_
 refine .rd (.ld gq rfl .p0 rfl) ?_
 refine .rd (.move rfl) ?_
 refine .fn rfl rfl (.cons .p1 (.cons .p3 (.cons .p3 .nil))) (af.pick .p3 k) (IR db mb d s.l off hd hl h1 h2 yj) (fun v G1 hq=>?_)
 obtain⟨q,e,rfl,hC,rfl⟩:=hq
 simp only[ag,ae]
 refine .aH fds 10 ?_
 refine .perm .mI ?_
 refine .ca (an ((⟨s.sx,q,s.c,s.t⟩:St)).sx (St.cells ((⟨s.sx,q,s.c,s.t⟩:St)) db) 80) (by unfold St.cells;rw[hC.lb,hC.pre]) ?_
 refine .pack (L:=[an ((⟨s.sx,q,s.c,s.t⟩:St)).sx (St.cells ((⟨s.sx,q,s.c,s.t⟩:St)) db) 80,LG db ((⟨s.sx,q,s.c,s.t⟩:St)).l,CG db ((⟨s.sx,q,s.c,s.t⟩:St)).c,TG ((⟨s.sx,q,s.c,s.t⟩:St)).t]) (.cons .p0 (.cons .p0 (.cons .p2 (.cons .p2 .nil)))) ?_
 refine .ax fds 2 ?_
 refine .fn rfl rfl .ez ah (I4 db mb e (⟨s.sx,q,s.c,s.t⟩:St) hC.cR hC.ok (by have h3:=hC.ok.ai.1.kU;have h4:=hC.ok.ai.1.eC;have h5:=hC.ok.ai.1.bD;exact⟨by show 0≤q.ai.next;omega,by show q.ai.next≤_;omega⟩) k8 hT ph (.inr (by have:=hC.len;omega)) (by have h3:=hC.size;have h4:=hC.used;omega)) (fun v G1 hq=>?_)
 obtain⟨t',la,lc,ht,rfl⟩:=hq
 simp only[ag,ae]
 refine .aH fds 5 ?_
 refine .aF Tryz.func20 (.t1 rfl) .fx ?_
 exact⟨[_,_,_],⟨⟨s.sx,q,⟨s.c.cb,s.c.nm,bi q.next s.c.es,la,lc⟩,t'⟩,_,rfl,⟨⟨e,hC,rfl⟩,rfl,rfl,rfl,ht⟩,rfl⟩,rfl⟩
theorem mc(db mb:Nat)(d:Dk)(s:St)(off:Nat)(hd:d.ok)(hl:s.l.ok d)(CW:s.c.nm=ek s.l.pre)(k8:bO s.c.es)(hT:cC (bg s.t.m))(KJ:d.fs.length<254)(QC:s.t.m.length≤1000000)(o6:gB (bg s.t.m)≤100000000)(h1:s.l.start≤(off:Int))(hp:(off:Int)=s.l.next∨∃b∈s.l.all,b.base=(off:Int))(h2:(off:Int)≤s.l.next)(fw:d.used+(dI (bg s.t.m)).length+5000≤d.size):Cn Tryz.prog 23 [.pointer (some ⟨s.sx,0,none⟩),.int .i64 (off:Int)] LV [SS db s,an db (d.cells mb) 74,mp aY Fl.val mb d.fs] fun v G=>∃s' d',v=.int .i64 0∧Fw s d off s' d'∧G=[SS db s',an db (d'.cells mb) 74,mp aY Fl.val mb d'.fs]:=by
 refine .en Tryz.func23 fun R k=>?_
 refine .unpack (L:=[an s.sx (s.cells db) 80,LG db s.l,CG db s.c,TG s.t]) .p0 ?_
 simp only[ag,ae]
 have ph:eS s.c.nm:=by rw[CW];exact jk hl.pre
 have IX:=hl.ai.1.eC
 have Gj:s.l.next=s.l.ai.next:=rfl
 have hB:kG s.l (eZ s.l.pre) d (gK d s):=.put hd hl (oh hl.pre).2.1 (fun u hu=>cL hu) (by dsimp only;omega) (Nat.le_refl _)
 have hu:=Dk.cc hd (eZ s.l.pre) ⟨dI (bg s.t.m),(dI (bg s.t.m)).length⟩
 dsimp only at hu
 have N6:(gK d s).used≤d.used+(dI (bg s.t.m)).length:=by unfold gK;omega
 refine .ax fds 11 ?_
 refine .rd (.ld jC rfl .p0 rfl) ?_
 refine .pack (L:=[an (s).sx (St.cells (s) db) 80,LG db (s).l,CG db (s).c,TG (s).t]) .fx ?_
 refine .fn rfl rfl .ez ah (F1 db mb d s hl.pre hd hT QC o6 (.inr (by omega)) (by omega)) (fun v G1 hq=>?_)
 obtain⟨rfl,rfl⟩:=hq
 simp only[ag,ae]
 refine .aH fds 2 ?_
 refine .unpack (L:=[an s.sx (s.cells db) 80,LG db s.l,CG db s.c,TG s.t]) .p0 ?_
 simp only[ag,ae]
 refine .perm .iE ?_
 refine .ca (mp aY Fl.val mb (gK d s).fs) (rfl) ?_
 refine .perm .iE ?_
 refine .ca (an db ((gK d s).cells mb) 74) (rfl) ?_
 refine .ax fds 13 ?_
 refine .rd (.ld gq rfl .p2 rfl) ?_
 refine .rd (.move rfl) ?_
 refine .fn rfl rfl (.cons .p3 (.cons .p0 (.cons .p0 .nil))) (af.pick .p3 k) (Cy db mb (gK d s) s.l off hB.cR hB.ok h1 hp h2 (.inr (by have:=hB.len;omega)) (by rw[hB.size];omega)) (fun v G1 hq=>?_)
 obtain⟨q,e,rfl,hD,rfl⟩:=hq
 simp only[ag,ae]
 refine .ax fds 14 ?_
 refine .rd (.ld jC rfl .p3 rfl) ?_
 refine .rd (.move rfl) ?_
 refine .fn rfl rfl .q5 ah (zc s.t (off:Int) hT) (fun v G1 hq=>?_)
 obtain⟨t',Br,Bt,rfl⟩:=hq
 simp only[ag,ae]
 refine .ax fds 6 ?_
 refine .rd (.ld gU rfl .p4 rfl) ?_
 refine .rd (.move rfl) ?_
 refine .fn rfl rfl (.cons .p5 (.cons .p2 (.cons .p2 .nil))) ah (zS db mb e s.c (off:Int) ⟨by omega,by omega⟩ k8 hD.cR ph (.inr (by have:=hD.len;have:=hB.len;omega)) (by have h3:=hD.size;have h4:=hD.used;have h5:=hB.size;omega)) (fun v G1 hq=>?_)
 obtain⟨rfl,la,lc,rfl⟩:=hq
 simp only[ag,ae]
 refine .aH fds 5 ?_
 refine .perm .iE ?_
 refine .ca (an ((⟨s.sx,q,⟨s.c.cb,s.c.nm,dm (off:Int) s.c.es,la,lc⟩,t'⟩:St)).sx (St.cells ((⟨s.sx,q,⟨s.c.cb,s.c.nm,dm (off:Int) s.c.es,la,lc⟩,t'⟩:St)) db) 80) (by unfold St.cells;rw[hD.lb,hD.pre,Br]) ?_
 refine .pack (L:=[an ((⟨s.sx,q,⟨s.c.cb,s.c.nm,dm (off:Int) s.c.es,la,lc⟩,t'⟩:St)).sx (St.cells ((⟨s.sx,q,⟨s.c.cb,s.c.nm,dm (off:Int) s.c.es,la,lc⟩,t'⟩:St)) db) 80,LG db ((⟨s.sx,q,⟨s.c.cb,s.c.nm,dm (off:Int) s.c.es,la,lc⟩,t'⟩:St)).l,CG db ((⟨s.sx,q,⟨s.c.cb,s.c.nm,dm (off:Int) s.c.es,la,lc⟩,t'⟩:St)).c,TG ((⟨s.sx,q,⟨s.c.cb,s.c.nm,dm (off:Int) s.c.es,la,lc⟩,t'⟩:St)).t]) (.cons .p0 (.cons .p4 (.cons .p0 (.cons .p2 .nil)))) ?_
 refine .aF Tryz.func23 (.t1 rfl) .fx ?_
 exact⟨[_,_,_],⟨(⟨s.sx,q,⟨s.c.cb,s.c.nm,dm (off:Int) s.c.es,la,lc⟩,t'⟩:St),_,rfl,⟨⟨e,hD,rfl⟩,rfl,rfl,rfl,Bt⟩,rfl⟩,rfl⟩
def aR.at_(b:aR)(u:Int):aR:={b with base:=u}
theorem F4(db mb:Nat)(d:Dk)(s:St)(b:aR)(a:Option Addr)(c:Nat)(hd:d.ok)(hl:s.l.ok d)(ho:mr s.l d)(CW:s.c.nm=ek s.l.pre)(k8:bO s.c.es)(Js:dw d s.c.nm s.c.es)(CE:s.c.es.length<200)(hT:cC (bg s.t.m))(hn:s.l.next<4096)(Nq:s.l.au.length<100000)(KJ:d.fs.length<254)(hb:b.aT)(oB:b.base=s.l.next)(yn:cI b.bu)(jX:ct s.c.es≤b.bu)(D6:0<b.pid)(F5:late (aD (bg s.t.m) b.pid) b=false)(fw:d.used+8040+(enc b).length≤d.size):Cn Tryz.prog 44 [.pointer (some ⟨s.sx,0,none⟩),.agg (b.cells a c).toArray] (fun w=>LV w∧aB a (b.aU.flatMap Rec.cells) w) [SS db s,an db (d.cells mb) 74,mp aY Fl.val mb d.fs] fun v G=>∃s' d',v=.int .i64 0∧lY s d b s' d'∧G=[SS db s',an db (d'.cells mb) 74,mp aY Fl.val mb d'.fs]:=by
 refine .en Tryz.func44 fun R k=>?_
 refine .unpack (L:=[an s.sx (s.cells db) 80,LG db s.l,CG db s.c,TG s.t]) .p0 ?_
 simp only[ag,ae]
 have ph:eS s.c.nm:=by rw[CW];exact jk hl.pre
 have PY:=hl.ai.1.kU
 have IX:=hl.ai.1.eC
 have mh:=hl.ai.1.bD
 have Gj:s.l.next=s.l.ai.next:=rfl
 have j6:cI b.base:=by unfold cI;omega
 have Pc:(d.get s.c.nm).isSome=true∨d.fs.length<256:=.inr (by omega)
 have F6:d.used+4020≤d.size:=by omega
 obtain⟨hB,Tf,zO⟩:=fq hd hl CW (k8.next yn j6 CE) F6 Js
 have yo:=Js.len k8
 rw[CW]at yo
 refine .ax fds 2 ?_
 refine .ef (.box (l:=b.cells a c) rfl rfl (ay.of rfl)) ?_
 rintro _ _ ⟨bx,rfl,rfl⟩
 refine .ax fds 7 ?_
 refine .rd (.ld gU rfl .p1 rfl) ?_
 refine .fn rfl rfl .nil (CG.at .p3) (pZ db s.c (by have:=k8.len;omega)) (fun v G1 hq=>?_)
 obtain⟨rfl,rfl⟩:=hq
 simp only[ae]
 refine .ax fds 6 ?_
 refine .rd (.ld aj rfl .p0 rfl) ?_
 refine .go fds 2 ?_
 refine .al 16 (.bool false) rfl (aE (by omega)) ?_
 refine .ax fds 7 ?_
 refine .rd (.ld aj rfl .p0 rfl) ?_
 refine .aH fds 3 ?_
 refine .lI (σ:=Option Addr×Nat) (φ:=fun⟨la,lc⟩=>True) (E':=fun⟨la,lc⟩=>[(0,.pointer (some ⟨s.sx,0,none⟩)),(3,.pointer (some ⟨bx,0,none⟩)),(5,.int .i64 (ct s.c.es))]) (aI:=fun⟨la,lc⟩=>[CG db ⟨s.c.cb,s.c.nm,(cf s.c.es b.bu b.base),la,lc⟩,an db ((bA d s.c (cf s.c.es b.bu b.base)).cells mb) 74,mp aY Fl.val mb (bA d s.c (cf s.c.es b.bu b.base)).fs,an s.sx (s.cells db) 80,LG db s.l,TG s.t,an bx (b.cells a c) 41,R]) (fun sj hj=>?_) (fun fin=>?_)
 ·
  obtain⟨la,lc⟩:=sj
  dsimp only
  refine .go fds 2 ?_
  refine .dr [3,4] [an s.sx (s.cells db) 80,an bx (b.cells a c) 41] ?_
  refine .aq fds [0] ?_
  refine .aq fds [1] ?_
  refine .aq fds [2] ?_
  refine .re 3 rfl (.ld gq rfl .p0 rfl) (.cons .p3 (.cons .p5 .nil)) ?_
  refine .re 4 rfl (.jy bh aM rfl .p1 rfl) (.cons .p3 (.cons .p5 .nil)) ?_
  refine .eg 5 rfl (.fn rfl rfl (.cons .p4 (.cons .p1 (.cons .p1 .nil))) (af.pick .p4 k) (Fp db mb (bA d s.c (cf s.c.es b.bu b.base)) s.l b a c hB.cR hB.ok (hB.own ho) hb oB hn (by rw[hB.size];omega) (by have:=hB.len;omega) Nq)) ?_
  rintro v _ ⟨G1,hq,rfl⟩
  obtain⟨l',d',rfl,hA,rfl⟩:=hq
  simp only[ag,ae]
  refine aA ?_
  refine .aq fds [6] ?_
  refine .dn ?_
  refine .go fds 8 ?_
  refine .dr [3,4] [an s.sx (s.cells db) 80,an bx (b.cells a c) 41] ?_
  refine .aq fds [0] ?_
  refine .aq fds [1] ?_
  refine .aq fds [2] ?_
  refine .re 3 rfl (.ld jC rfl .p0 rfl) (.cons .p4 (.cons .p5 .nil)) ?_
  refine .re 4 rfl (.jy bh aM rfl .p1 rfl) (.cons .p4 (.cons .p5 .nil)) ?_
  refine .eg 5 rfl (.fn rfl rfl .q5 (af.pick .p6 (k.mono fun _ h=>h.2)) (AU s.t b a c hT D6 hb.fits hb.right F5)) ?_
  rintro v _ ⟨G1,hq,rfl⟩
  obtain⟨t',Br,Bt,rfl⟩:=hq
  simp only[ag,ae]
  refine aA ?_
  refine .dn ?_
  refine .go fds 4 ?_
  refine .perm (.cons .p5 (.cons .p0 (.cons .p0 (.cons .p0 (.cons .p0 (.cons .p0 (.cons .p0 (.cons .p0 .nil)))))))) ?_
  refine .ca (an ((⟨s.sx,l',⟨s.c.cb,s.c.nm,(cf s.c.es b.bu b.base),la,lc⟩,t'⟩:St)).sx (St.cells ((⟨s.sx,l',⟨s.c.cb,s.c.nm,(cf s.c.es b.bu b.base),la,lc⟩,t'⟩:St)) db) 80) (by unfold St.cells;rw[Br,hA.lb,hA.pre]) ?_
  refine .pack (L:=[an ((⟨s.sx,l',⟨s.c.cb,s.c.nm,(cf s.c.es b.bu b.base),la,lc⟩,t'⟩:St)).sx (St.cells ((⟨s.sx,l',⟨s.c.cb,s.c.nm,(cf s.c.es b.bu b.base),la,lc⟩,t'⟩:St)) db) 80,LG db ((⟨s.sx,l',⟨s.c.cb,s.c.nm,(cf s.c.es b.bu b.base),la,lc⟩,t'⟩:St)).l,CG db ((⟨s.sx,l',⟨s.c.cb,s.c.nm,(cf s.c.es b.bu b.base),la,lc⟩,t'⟩:St)).c,TG ((⟨s.sx,l',⟨s.c.cb,s.c.nm,(cf s.c.es b.bu b.base),la,lc⟩,t'⟩:St)).t]) (.cons .p0 (.cons .p1 (.cons .p3 (.cons .p0 .nil)))) ?_
  refine .aF Tryz.func44 (.t1 rfl) .kp ?_
  exact⟨[_,_,_],⟨(⟨s.sx,l',⟨s.c.cb,s.c.nm,(cf s.c.es b.bu b.base),la,lc⟩,t'⟩:St),d',rfl,⟨hA,rfl,rfl,rfl,Bt⟩,rfl⟩,rfl⟩
 ·
  refine .aL rfl (fun c4=>?_) (fun c4=>?_)
  ·
   refine .seq ?_
   refine .dr [3,5,9,12] [an s.sx (s.cells db) 80,LG db s.l,an bx (b.cells a c) 41] ?_
   refine .aq fds [0] ?_
   refine .aq fds [1] ?_
   refine .aq fds [2] ?_
   refine .re 3 rfl (.ld gU rfl .p0 rfl) .k9 ?_
   refine .aq fds [4] ?_
   refine .re 5 rfl (.ld aj rfl .p2 rfl) .k9 ?_
   refine .aq fds [6] ?_
   refine .aq fds [7] ?_
   refine .aq fds [8] ?_
   refine .re 9 rfl (.ld gq rfl .p0 rfl) .k9 ?_
   refine .aq fds [10] ?_
   refine .aq fds [11] ?_
   refine .re 12 rfl (.load aO rfl (af.one (i:=0) ((LG.at .p1).mono fun _ h=>h.1) rfl)) .k9 ?_
   refine .eg 13 rfl (.fn rfl rfl .nil ((LG.at .p2).mono fun _ h=>h.2.2 _ (Lx.cF (s.l))) (bY db (s.l).ai hl.ai.1)) ?_
   rintro v _ ⟨G1,hq,rfl⟩
   obtain⟨rfl,rfl⟩:=hq
   simp only[ae]
   refine⟨.inr ⟨_,.k9⟩,?_⟩
   refine .al 34 (.int .i64 (s.l).next) rfl (rfl) ?_
   refine .al 34 (.int .i64 b.base) rfl (by rw[oB]) ?_
   refine .eg 14 rfl (.fn rfl rfl (.cons .p3 (.cons .p4 (.cons .p4 .nil))) ah (CD db mb d s.c b.bu b.base yn j6 (by omega) CE k8 hd ph Pc F6)) ?_
   rintro v _ ⟨G1,hq,rfl⟩
   obtain⟨rfl,la,lc,rfl⟩:=hq
   simp only[ag,ae]
   refine aA ?_
   refine .aq fds [15] ?_
   refine .dn ?_
   refine .go fds 7 ?_
   have dx:(cf s.c.es b.bu b.base)=bi b.base s.c.es++[(b.bu,b.base)]:=if_pos (by omega)
   refine .perm .kN ?_
   refine .ca (mp aY Fl.val mb (bA d s.c (cf s.c.es b.bu b.base)).fs) (by rw[dx]) ?_
   refine .perm .kN ?_
   refine .ca (an db ((bA d s.c (cf s.c.es b.bu b.base)).cells mb) 74) (by rw[dx]) ?_
   refine .perm .kN ?_
   refine .ca (CG db ⟨s.c.cb,s.c.nm,(cf s.c.es b.bu b.base),la,lc⟩) (by rw[dx]) ?_
   exact fin (la,lc) trivial .r3 (.cons .p0 (.cons .p0 (.cons .p0 (.cons .p1 (.cons .p1 (.cons .p1 (.cons .p0 (.cons .p0 .nil))))))))
  ·
   refine .skip ?_
   have dx:(cf s.c.es b.bu b.base)=s.c.es:=if_neg (by omega)
   refine .perm (.cons .p6 (.cons .p0 (.cons .p0 (.cons .p0 (.cons .p0 (.cons .p0 (.cons .p0 (.cons .p0 .nil)))))))) ?_
   refine .ca (mp aY Fl.val mb (bA d s.c (cf s.c.es b.bu b.base)).fs) (by rw[dx,bA,if_pos rfl]) ?_
   refine .perm (.cons .p6 (.cons .p0 (.cons .p0 (.cons .p0 (.cons .p0 (.cons .p0 (.cons .p0 (.cons .p0 .nil)))))))) ?_
   refine .ca (an db ((bA d s.c (cf s.c.es b.bu b.base)).cells mb) 74) (by rw[dx,bA,if_pos rfl]) ?_
   refine .perm (.cons .p5 (.cons .p0 (.cons .p0 (.cons .p0 (.cons .p0 (.cons .p0 (.cons .p0 (.cons .p0 .nil)))))))) ?_
   refine .ca (CG db ⟨s.c.cb,s.c.nm,(cf s.c.es b.bu b.base),s.c.la,s.c.lc⟩) (by rw[dx]) ?_
   exact fin (s.c.la,s.c.lc) trivial .r3 (.cons .p0 (.cons .p0 (.cons .p0 (.cons .p1 (.cons .p1 (.cons .p1 (.cons .p0 (.cons .p0 .nil))))))))
theorem me(db mb:Nat)(d:Dk)(s:St)(b:aR)(a:Option Addr)(c:Nat)(hd:d.ok)(hl:s.l.ok d)(ho:mr s.l d)(CW:s.c.nm=ek s.l.pre)(k8:bO s.c.es)(Js:dw d s.c.nm s.c.es)(CE:s.c.es.length<200)(hT:cC (bg s.t.m))(hn:s.l.next<4096)(Nq:s.l.au.length<100000)(KJ:d.fs.length<254)(hb:(b.at_ s.l.next).aT)(yn:cI b.bu)(jX:ct s.c.es≤b.bu)(D6:0<b.pid)(F5:late (aD (bg s.t.m) b.pid) (b.at_ s.l.next)=false)(fw:d.used+8040+(enc (b.at_ s.l.next)).length≤d.size):Cn Tryz.prog 14 [.pointer (some ⟨s.sx,0,none⟩),.agg (b.cells a c).toArray] (fun w=>LV w∧aB a (b.aU.flatMap Rec.cells) w) [SS db s,an db (d.cells mb) 74,mp aY Fl.val mb d.fs] fun v G=>∃s' d',v=.tuple #[.int .i64 s.l.next,.int .i64 0]∧lY s d (b.at_ s.l.next) s' d'∧G=[SS db s',an db (d'.cells mb) 74,mp aY Fl.val mb d'.fs]:=by
 refine .en Tryz.func14 fun R k=>?_
 refine .unpack (L:=[an s.sx (s.cells db) 80,LG db s.l,CG db s.c,TG s.t]) .p0 ?_
 simp only[ag,ae]
 refine .ax fds 2 ?_
 refine .ef (.box (l:=b.cells a c) rfl rfl (ay.of rfl)) ?_
 rintro _ _ ⟨bx,rfl,rfl⟩
 refine .ax fds 8 ?_
 refine .rd (.ld gq rfl .p1 rfl) ?_
 refine .go fds 2 ?_
 refine .rd (.load aO rfl (af.one (i:=0) ((LG.at .p2).mono fun _ h=>h.1) rfl)) ?_
 refine .fn rfl rfl .nil ((LG.at .p2).mono fun _ h=>h.2.2 _ (Lx.cF (s.l))) (bY db (s.l).ai hl.ai.1) (fun v G1 hq=>?_)
 obtain⟨rfl,rfl⟩:=hq
 simp only[ae]
 refine .al 14 (.int .i64 (s.l).next) rfl (rfl) ?_
 refine .rd (.fieldAddr kP rfl) ?_
 refine .cU (.store bQ rfl rfl .p0 rfl aQ) ?_
 rintro _ _ rfl
 refine .ca (an bx ((b.at_ s.l.next).cells a c) 41) (rfl) ?_
 refine .aH fds 3 ?_
 refine .pack (L:=[an (s).sx (St.cells (s) db) 80,LG db (s).l,CG db (s).c,TG (s).t]) .sR ?_
 refine .ax fds 2 ?_
 refine .rd (.jy bh aM rfl .p1 rfl) ?_
 refine .fn rfl rfl (.cons .p0 (.cons .p1 (.cons .p1 .nil))) (af.pick .p1 k) (F4 db mb d s (b.at_ s.l.next) a c hd hl ho CW k8 Js CE hT hn Nq KJ hb rfl yn jX D6 F5 fw) (fun v G1 hq=>?_)
 obtain⟨s',d',rfl,hA,rfl⟩:=hq
 simp only[ag,ae]
 refine .ax fds 12 ?_
 refine .rd (.ld aj rfl .p3 rfl) ?_
 refine .aH fds 3 ?_
 refine .aF Tryz.func14 (.t2 rfl rfl) .kp ?_
 exact⟨[_,_,_],⟨s',d',rfl,hA,rfl⟩,rfl⟩
theorem vG(db mb:Nat)(d:Dk)(l:Lx)(hl:l.ok d)(iC:l.all.length≤100000000):Cn Tryz.prog 19 [.pointer (some ⟨l.lb,0,none⟩)] (tu db l) [an db (d.cells mb) 74,mp aY Fl.val mb d.fs] fun v G=>∃(bl:List lg) (ra:Option Addr) (rc:Nat),bl.map (·.1)=bJ l.start l.all∧v=.slice ra bl.length rc∧G=[an db (d.cells mb) 74,mp aY Fl.val mb d.fs,arr 41 6 ra rc (bl.flatMap mY),bM (qP bl)]:=by
 refine .en Tryz.func19 fun R k=>?_
 have nL:=hl.start
 have Am:=hl.len
 refine .ax fds 14 ?_
 refine .rd (.load cY rfl (af.one (i:=6) (af.pick .p2 (k.mono fun _ h=>h.1)) rfl)) ?_
 refine .rd (.bK rfl rfl Tryz.underlying55 rfl) ?_
 refine .aH fds 2 ?_
 refine .cn 41 6 none ?_
 refine .lq (qP []) (qP.nil) ?_
 have oS:l.au.length=l.bX.length+1:=by unfold Lx.au;simp
 refine .al 12 (.int .i64 (l.au.length:Nat)) rfl (by rw[oS]) ?_
 refine .block ?_
 refine .loop (σ:=Nat×List lg×Option Addr×Nat) (fun⟨i,bl,ra,rc⟩=>i≤l.au.length∧bl.map (·.1)=bJ l.start ((l.au.take i).flatMap (·.bs))) (fun⟨i,bl,ra,rc⟩=>l.au.length-i) (fun⟨i,bl,ra,rc⟩=>[(0,.pointer (some ⟨l.lb,0,none⟩)),(11,.slice l.la (l.bX.length+1) l.lc),(12,.int .i64 (l.au.length:Nat)),(3,.slice ra bl.length rc),(13,.int .i64 (i:Nat))]) (fun⟨i,bl,ra,rc⟩=>[arr 41 6 ra rc (bl.flatMap mY),bM (qP bl),an db (d.cells mb) 74,mp aY Fl.val mb d.fs,R]) (0,[],none,0) ⟨Nat.zero_le _,rfl⟩ .r5 .qw (fun s' hI ih=>?_)
 obtain⟨i,bl,ra,rc⟩:=s'
 dsimp only at hI ih⊢
 obtain⟨jc,cT⟩:=hI
 refine .go fds 5 ?_
 refine .aL rfl (fun c3=>?_) (fun c3=>?_)
 ·
  refine .go fds 4 ?_
  obtain⟨s,hs⟩:∃s,l.au[i]?=some s:=⟨_,List.getElem?_eq_getElem (by omega)⟩
  have CS:=List.mem_of_getElem? hs
  obtain⟨oG,Lz,PA,LC⟩:=hl.gP s CS
  have mh:=oG.bD
  have gL:=oG.ei
  refine .tell (φ:=∃b o,l.la=some ⟨b,o,none⟩) (af.pick .p4 (k.mono fun _ h=>aB.addr h.2.1 (by rw[ar dP];omega))) (fun hh=>?_)
  obtain⟨b9,o9,h9⟩:=hh
  refine .region ?_
  refine .rd (.indexAddr (b:=b9) (o:=o9) Tryz.underlying55 dR (by show some (Value.slice (l.la) _ _)=_;rw[h9]) rfl (by omega) (by omega)) ?_
  refine .rd (.load aO rfl (af.one (i:=0) (af.elem (f:=sp) dP (by decide) (af.pick .p4 (k.mono fun _ h=>h9▸h.2.1)) hs) rfl)) ?_
  refine .ax fds 6 ?_
  refine .fn rfl rfl .nil (af.pick .p4 (k.mono fun _ h=>h.2.2 s CS)) (kW db s) (fun v G1 hq=>?_)
  obtain⟨rfl,rfl⟩:=hq
  simp only[ae]
  refine .fn rfl rfl .GM (af.pick .p2 (k.mono fun _ h=>h.2.2 s CS)) (rF db mb d s s.base 16777216 oG PA LC ⟨by omega,by omega⟩) (fun v G1 hq=>?_)
  obtain⟨xl,xa,xc,Bc,rfl,rfl⟩:=hq
  simp only[ag,ae]
  refine .rd (.bK rfl rfl Tryz.underlying47 rfl) ?_
  refine .aH fds 2 ?_
  rw[u7 oG]at Bc
  have KO:xl.length≤4096:=by have:=congrArg List.length Bc;rw[List.length_map]at this;have:=oG.len;omega
  refine .settle .p2 (gl.arr) ?_
  refine .block ?_
  refine .loop (σ:=Nat×List lg×Option Addr×Nat) (fun⟨j,vO,Jv,Jw⟩=>j≤xl.length∧vO.map (·.1)=bJ l.start ((l.au.take i).flatMap (·.bs))++bJ l.start ((xl.take j).map (·.1))) (fun⟨j,vO,Jv,Jw⟩=>xl.length-j) (fun⟨j,vO,Jv,Jw⟩=>[(0,.pointer (some ⟨l.lb,0,none⟩)),(11,.slice l.la (l.bX.length+1) l.lc),(12,.int .i64 (l.au.length:Nat)),(13,.int .i64 (i:Nat)),(20,.slice xa xl.length xc),(21,.int .i64 (xl.length:Nat)),(3,.slice Jv vO.length Jw),(22,.int .i64 (j:Nat))]) (fun⟨j,vO,Jv,Jw⟩=>[arr 41 6 Jv Jw (vO.flatMap mY),bM (qP vO),bM (aB xa (xl.flatMap mY)),bM (qP xl),an db (d.cells mb) 74,mp aY Fl.val mb d.fs,R]) (0,bl,ra,rc) ⟨Nat.zero_le _,by rw[cT];simp[bJ]⟩ .r8 (.cons .p4 (.cons .p4 (.cons .p0 (.cons .p2 (.cons .p0 (.cons .p0 (.cons .p0 .nil))))))) (fun s2 hI ih=>?_)
  have PZ:=ih
  clear ih
  obtain⟨j,vO,Jv,Jw⟩:=s2
  dsimp only at hI PZ⊢
  obtain⟨QH,Oe⟩:=hI
  refine .go fds 5 ?_
  refine .aL rfl (fun c6=>?_) (fun c6=>?_)
  ·
   refine .go fds 4 ?_
   obtain⟨y,hy⟩:∃y,xl[j]?=some y:=⟨_,List.getElem?_eq_getElem (by omega)⟩
   have PC:y.1∈s.bs:=by rw[←Bc];exact List.mem_map_of_mem (List.mem_of_getElem? hy)
   have Of:=oG.aT _ PC
   have Qi:=Of.base
   have zZ:=Of.en
   have Re:=Of.uH
   have Od:=Of.lt
   have vM:vO.length≤l.all.length:=by
    have h1:=congrArg List.length Oe
    rw[List.length_map,List.length_append]at h1
    have h2:=jj l.start ((l.au.take i).flatMap (·.bs))
    have h3:=jj l.start ((xl.take j).map (·.1))
    rw[List.length_map,List.length_take]at h3
    have h4:=Ia hs
    have h5:=congrArg List.length Bc
    rw[List.length_map]at h5
    omega
   refine .tell (φ:=∃b o,xa=some ⟨b,o,none⟩) ((af.bM .p2).mono fun _ h=>aB.addr h (by rw[ar cz];omega)) (fun hh=>?_)
   obtain⟨b8,o8,h8⟩:=hh
   refine .region ?_
   refine .rd (.indexAddr (b:=b8) (o:=o8) Tryz.underlying47 aM (by show some (Value.slice (xa) _ _)=_;rw[h8]) rfl (by omega) (by omega)) ?_
   refine .rd (.fS bh aM rfl rfl (af.elem (f:=mY) cz (by decide) ((af.bM .p2).mono fun _ h=>h8▸h) hy)) ?_
   refine .ef (.alloc cX rfl (ay.of rfl)) ?_
   rintro _ _ ⟨b7,rfl,rfl⟩
   refine .cU (.storeAll aM rfl rfl (by rfl) .p0 rfl (ay.of rfl)) ?_
   rintro _ _ rfl
   refine .nil ?_
   refine .ca (an b7 (mY y) 41) (rfl) ?_
   refine .seq ?_
   refine .dr [0,5] [an b7 (mY y) 41,R] ?_
   refine .re 0 rfl (.jy bh aM rfl .p0 rfl) (.cons .p0 (.cons .p6 .nil)) ?_
   refine .aq fds [2] ?_
   refine .aq fds [3] ?_
   refine .aq fds [4] ?_
   refine .re 5 rfl (.load aj rfl (af.one (i:=4) (af.pick .p1 (k.mono fun _ h=>h.1)) rfl)) (.cons .p0 (.cons .p6 .nil)) ?_
   refine .eg 1 rfl (.fn rfl rfl .nil ah (vj y.1 y.2.1 y.2.2 (by omega) (by omega) (by omega))) ?_
   rintro v _ ⟨G1,hq,rfl⟩
   obtain⟨rfl,rfl⟩:=hq
   simp only[ae]
   refine⟨.inr ⟨_,(.cons .p0 (.cons .p6 .nil))⟩,?_⟩
   refine .aq fds [6] ?_
   refine .dn ?_
   refine .aL rfl (fun c8=>?_) (fun c8=>?_)
   ·
    refine .ax fds 2 ?_
    refine .rd (.jy bh aM rfl .p0 rfl) ?_
    refine .ef (.cq (cs:=mY y) Tryz.underlying47 cX (by decide) rfl rfl rfl (ay.of rfl)) ?_
    rintro _ _ ⟨bo,rfl,rfl⟩
    refine .ef (.append rfl rfl Tryz.underlying47 cX rfl (ay.of rfl) (by decide) (by decide) rfl rfl .p2 (n:=vO.length) (m:=1) (ar cz _) (.dN .p0 Tryz.underlying47 rfl (by decide)) (by omega)) ?_
    rintro _ _ ⟨qa,qc,rfl,qn,rfl⟩
    refine .aH fds 2 ?_
    refine .ca (arr 41 6 qa qc ((vO++[y]).flatMap mY)) (by rw[List.flatMap_append];simp) ?_
    refine .dup .p5 ?_
    refine .uq (qP (vO++[y])) (.cons .p5 (.cons .p0 .nil)) (fun w h1 h2=>h1.snoc (h2 y (List.mem_of_getElem? hy))) ?_
    refine .ax fds 2 ?_
    refine .rd (.add rfl rfl (by omega) (by omega)) ?_
    refine .aH fds 2 ?_
    have hJ:j+1≤xl.length∧(vO++[y]).map (·.1)=bJ l.start ((l.au.take i).flatMap (·.bs))++bJ l.start ((xl.take (j+1)).map (·.1)):=⟨by omega,by rw[List.map_append,tw hy,eE,xd c8,Oe,List.append_assoc];rfl⟩
    exact(PZ (j+1,vO++[y],qa,qc) hJ (by show xl.length-(j+1)<xl.length-j;omega)).to (.cons rfl (.cons rfl (.cons rfl (.cons rfl (.cons rfl (.cons rfl (.cons (by first|rfl|(show _=some (Value.slice _ (List.length _) _);rw[List.length_append];rfl)) .r1))))))) (.cons .p2 (.cons .p0 (.cons .p3 (.cons .p0 (.cons .p2 (.cons .p2 (.cons .p2 .nil)))))))
   ·
    refine .ax fds 3 ?_
    refine .rd (.add rfl rfl (by omega) (by omega)) ?_
    refine .aH fds 2 ?_
    have hJ:j+1≤xl.length∧(vO).map (·.1)=bJ l.start ((l.au.take i).flatMap (·.bs))++bJ l.start ((xl.take (j+1)).map (·.1)):=⟨by omega,by rw[tw hy,eE,Cj c8,List.append_nil];exact Oe⟩
    exact(PZ (j+1,vO,Jv,Jw) hJ (by show xl.length-(j+1)<xl.length-j;omega)).to (.cons rfl (.cons rfl (.cons rfl (.cons rfl (.cons rfl (.cons rfl (.cons (by first|rfl|(show _=some (Value.slice _ (List.length _) _);rw[List.length_append];rfl)) .r1))))))) (.cons .p1 (.cons .p1 (.cons .p1 (.cons .p1 (.cons .p1 (.cons .p1 (.cons .p1 .nil)))))))
  ·
   refine .ax fds 3 ?_
   refine .rd (.add rfl rfl (by omega) (by omega)) ?_
   refine .aH fds 2 ?_
   have Gq:i+1≤l.au.length∧vO.map (·.1)=bJ l.start ((l.au.take (i+1)).flatMap (·.bs)):=⟨by omega,by rw[Oe,tv hs,eE,List.take_of_length_le (l:=xl) (show xl.length≤j by omega),Bc]⟩
   exact(ih (i+1,vO,Jv,Jw) Gq (by show l.au.length-(i+1)<l.au.length-i;omega)).to .r5 (.cons .p0 (.cons .p0 (.cons .p2 (.cons .p2 (.cons .p2 .nil)))))
 ·
  refine .go fds 6 ?_
  have fC:bl.map (·.1)=bJ l.start l.all:=by rw[cT,List.take_of_length_le (by omega)];rfl
  refine .aF Tryz.func19 (.t1 rfl) (.cons .p2 (.cons .p2 (.cons .p0 (.cons .p0 (.cons .p0 .nil))))) ?_
  exact⟨[_,_,_,_],⟨bl,ra,rc,fC,rfl,rfl⟩,rfl⟩
theorem nJ(db mb:Nat)(d:Dk)(pre:Nm)(most:Int)(es:List Ep)(D:Tm)(φ:Lx→Dk→Prop)(hO:Cn Tryz.prog 32 [.pointer (some ⟨db,0,none⟩),aY pre,.int .i64 most] LV [an db (d.cells mb) 74,mp aY Fl.val mb d.fs] fun v G=>∃l d',v=.tuple #[.pointer (some ⟨l.lb,0,none⟩),.int .i64 0]∧φ l d'∧G=[LG db l,an db (d'.cells mb) 74,mp aY Fl.val mb d'.fs])(hA:∀l e,φ l e→Bk pre es D l e):Cn Tryz.prog 9 [.pointer (some ⟨db,0,none⟩),aY pre,.int .i64 most] LV [an db (d.cells mb) 74,mp aY Fl.val mb d.fs] fun v G=>∃s e d',v=.tuple #[.pointer (some ⟨s.sx,0,none⟩),.int .i64 0]∧φ s.l e∧Bl pre es D s e d'∧G=[SS db s,an db (d'.cells mb) 74,mp aY Fl.val mb d'.fs]:=by
 refine .en Tryz.func9 fun R k=>?_
 refine .ax fds 10 ?_
 refine .fn rfl rfl .cV (af.pick .p0 k) (hO) (fun v G1 hq=>?_)
 obtain⟨l,e,rfl,BC,rfl⟩:=hq
 simp only[ag,ae]
 have hF:=hA l e BC
 have hp:=hF.ok.pre
 refine .aH fds 6 ?_
 have A0:=hp.len
 rw[hF.xM]at A0
 refine .ax fds 12 ?_
 refine .rd (.eb (l:=pre) (m:=[46,101,112,111,99,104,115]) rfl rfl (by simp only[List.length_cons,List.length_nil];omega)) ?_
 refine .al 29 (aY (ek pre)) rfl (rfl) ?_
 refine .fn rfl rfl .pu ah (F0 db mb e (ek pre) es hF.IS hF.eM.JQ) (fun v G1 hq=>?_)
 obtain⟨cb,la,lc,rfl,rfl⟩:=hq
 simp only[ag,ae]
 refine .ax fds 20 ?_
 refine .fn rfl rfl .nil ah (AT) (fun v G1 hq=>?_)
 obtain⟨tb,Nz,rfl,rfl⟩:=hq
 simp only[ag,ae]
 refine .rd (.build rfl (Hr _ _ _ _ _)) ?_
 refine .ef (.box (l:=[.pointer (some ⟨db,0,none⟩),aY pre,.pointer (some ⟨l.lb,0,none⟩),.pointer (some ⟨cb,0,none⟩),.pointer (some ⟨tb,0,none⟩)]) rfl rfl (ay.of rfl)) ?_
 rintro _ _ ⟨sb,rfl,rfl⟩
 refine .ax fds 7 ?_
 refine .fn rfl rfl .nil ((af.an .p0).mono fun _ h=>by show aN _ _ (St.cells _ _) _;unfold St.cells;rw[show(⟨sb,l,(⟨cb,ek pre,es,la,lc⟩:Cx),⟨tb,Nz,[]⟩⟩:St).l.pre=pre from hF.xM];exact h) (BB db (⟨sb,l,(⟨cb,ek pre,es,la,lc⟩:Cx),⟨tb,Nz,[]⟩⟩:St) hp) (fun v G1 hq=>?_)
 obtain⟨rfl,rfl⟩:=hq
 simp only[ae]
 refine .al 46 (aY (eZ pre)) rfl (by rw[show(⟨sb,l,(⟨cb,ek pre,es,la,lc⟩:Cx),⟨tb,Nz,[]⟩⟩:St).l.pre=pre from hF.xM]) ?_
 refine .fn rfl rfl .vL ah (jN db mb e (eZ pre)) (fun v G1 hq=>?_)
 obtain⟨rfl,rfl⟩:=hq
 simp only[ag,ae]
 refine .aH fds 11 ?_
 refine .lI (σ:=Tb) (φ:=fun t=>bg t.m=D) (E':=fun t=>[(8,.pointer (some ⟨l.lb,0,none⟩)),(10,.pointer (some ⟨cb,0,none⟩)),(11,.pointer (some ⟨sb,0,none⟩))]) (aI:=fun t=>[an sb [.pointer (some ⟨db,0,none⟩),aY pre,.pointer (some ⟨l.lb,0,none⟩),.pointer (some ⟨cb,0,none⟩),.pointer (some ⟨t.tb,0,none⟩)] 80,LG db l,CG db (⟨cb,ek pre,es,la,lc⟩:Cx),TG t,an db (e.cells mb) 74,mp aY Fl.val mb e.fs,R]) (fun sj hj=>?_) (fun fin=>?_)
 ·
  obtain⟨t,rfl⟩:∃t,t=sj:=⟨_,rfl⟩
  have hD:=hj
  refine .seq ?_
  have PY:=hF.ok.ai.1.kU
  have IX:=hF.ok.ai.1.eC
  have mh:=hF.ok.ai.1.bD
  have Tg:cC (bg t.m):=by rw[hD];exact hF.zJ.j5
  refine .dr [3,7] [an sb [.pointer (some ⟨db,0,none⟩),aY pre,.pointer (some ⟨l.lb,0,none⟩),.pointer (some ⟨cb,0,none⟩),.pointer (some ⟨t.tb,0,none⟩)] 80,LG db l] ?_
  refine .aq fds [0] ?_
  refine .aq fds [1] ?_
  refine .aq fds [2] ?_
  refine .re 3 rfl (.ld gU rfl .p0 rfl) .cV ?_
  refine .aq fds [4] ?_
  refine .aq fds [5] ?_
  refine .aq fds [6] ?_
  refine .re 7 rfl (.load aO rfl (af.one (i:=0) ((LG.at .p1).mono fun _ h=>h.1) rfl)) .cV ?_
  refine .eg 8 rfl (.fn rfl rfl .nil ((LG.at .p1).mono fun _ h=>h.2.2 _ (Lx.cF (l))) (bY db (l).ai hF.ok.ai.1)) ?_
  rintro v _ ⟨G1,hq,rfl⟩
  obtain⟨rfl,rfl⟩:=hq
  simp only[ae]
  refine⟨.inr ⟨_,.cV⟩,?_⟩
  refine .al 71 (.int .i64 (l).next) rfl (rfl) ?_
  refine .eg 9 rfl (.fn rfl rfl .yN ah (Bw db mb e (⟨cb,ek pre,es,la,lc⟩:Cx) l.next ⟨by show 0≤l.ai.next;omega,by show l.ai.next≤_;omega⟩ hF.IS hF.cR (jk (hF.xM▸hp)) (.inr (by have:=hF.len;omega)) hF.room)) ?_
  rintro v _ ⟨G1,hq,rfl⟩
  obtain⟨rfl,CX,CY,rfl⟩:=hq
  simp only[ag,ae]
  refine aA ?_
  refine .dn ?_
  refine .seq ?_
  refine .dr [3] [an sb [.pointer (some ⟨db,0,none⟩),aY pre,.pointer (some ⟨l.lb,0,none⟩),.pointer (some ⟨cb,0,none⟩),.pointer (some ⟨t.tb,0,none⟩)] 80] ?_
  refine .aq fds [0] ?_
  refine .aq fds [1] ?_
  refine .aq fds [2] ?_
  refine .re 3 rfl (.ld jC rfl .p0 rfl) .q3 ?_
  refine .aq fds [4] ?_
  refine .eg 5 rfl (.fn rfl rfl .nil ((LG.at .p4).mono fun _ h=>h.1) (gD l.lb db (some ⟨l.ai.b,0,none⟩) l.pre l.most l.start l.aJ l.la (l.bX.length+1) l.lc)) ?_
  rintro v _ ⟨G1,hq,rfl⟩
  obtain⟨rfl,rfl⟩:=hq
  simp only[ae]
  refine⟨.inr ⟨_,.q3⟩,?_⟩
  refine .eg 6 rfl (.fn rfl rfl .q5 ah (AZ t l.start Tg)) ?_
  rintro v _ ⟨G1,hq,rfl⟩
  obtain⟨t2,Th,h2,rfl⟩:=hq
  simp only[ag,ae]
  refine aA ?_
  refine .dn ?_
  refine .perm .mJ ?_
  refine .ca (an sb [.pointer (some ⟨db,0,none⟩),aY pre,.pointer (some ⟨l.lb,0,none⟩),.pointer (some ⟨cb,0,none⟩),.pointer (some ⟨t2.tb,0,none⟩)] 80) (by rw[Th]) ?_
  rw[hD]at h2
  obtain⟨hB,_,_⟩:=fq (c:=(⟨cb,ek pre,es,la,lc⟩:Cx)) (es:=bi l.next es) hF.cR hF.ok (by rw[hF.xM]) (hF.IS.cut _) hF.room hF.eM
  refine .ax fds 4 ?_
  refine .fn rfl rfl .vL (LG.at .p3) (vG db mb (bA e (⟨cb,ek pre,es,la,lc⟩:Cx) (bi l.next es)) l hB.ok hF.cap) (fun v G1 hq=>?_)
  obtain⟨bl,ra,rc,vM,rfl,rfl⟩:=hq
  simp only[ag,ae]
  refine .rd (.bK rfl rfl Tryz.underlying47 rfl) ?_
  refine .aH fds 2 ?_
  have CN:bl.map (·.1)=l.e7:=vM
  have P0:bl.length≤100000000:=by have h1:=congrArg List.length CN;rw[List.length_map]at h1;have h2:=jj l.start l.all;have h3:=hF.cap;rw[h1];unfold Lx.e7;omega
  refine .block ?_
  refine .loop (σ:=Nat×Tb) (fun⟨i,t3⟩=>i≤bl.length∧bg t3.m=(l.e7.take i).foldl note (iN l.start D)∧t3.tb=t2.tb) (fun⟨i,t3⟩=>bl.length-i) (fun⟨i,t3⟩=>[(10,.pointer (some ⟨cb,0,none⟩)),(11,.pointer (some ⟨sb,0,none⟩)),(81,.slice ra bl.length rc),(82,.int .i64 (bl.length:Nat)),(83,.int .i64 (i:Nat))]) (fun⟨i,t3⟩=>[an sb [.pointer (some ⟨db,0,none⟩),aY pre,.pointer (some ⟨l.lb,0,none⟩),.pointer (some ⟨cb,0,none⟩),.pointer (some ⟨t2.tb,0,none⟩)] 80,LG db l,CG db (⟨cb,ek pre,bi l.next es,CX,CY⟩:Cx),TG t3,an db ((bA e (⟨cb,ek pre,es,la,lc⟩:Cx) (bi l.next es)).cells mb) 74,mp aY Fl.val mb (bA e (⟨cb,ek pre,es,la,lc⟩:Cx) (bi l.next es)).fs,arr 41 6 ra rc (bl.flatMap mY),bM (qP bl),R]) (0,t2) ⟨Nat.zero_le _,h2,rfl⟩ .r5 (.cons .p4 (.cons .p6 (.cons .p5 (.cons .p4 (.cons .p0 (.cons .p0 (.cons .p0 (.cons .p0 (.cons .p0 .nil))))))))) (fun s' hI ih=>?_)
  obtain⟨i,t3⟩:=s'
  dsimp only at hI ih⊢
  obtain⟨mj,h3,P3⟩:=hI
  refine .go fds 5 ?_
  refine .aL rfl (fun MS=>?_) (fun MS=>?_)
  ·
   refine .go fds 4 ?_
   refine .tell (φ:=∃b o,ra=some ⟨b,o,none⟩) ((af.arr .p6).mono fun _ h=>aB.addr h (by rw[ar cz];omega)) (fun hh=>?_)
   obtain⟨b9,o9,h9⟩:=hh
   obtain⟨y,hy⟩:∃y,bl[i]?=some y:=⟨_,List.getElem?_eq_getElem (by omega)⟩
   have P4:l.e7[i]?=some y.1:=by rw[←CN,List.getElem?_map,hy];rfl
   obtain⟨n1,n2,n3,n4,n5⟩:=hF.notes i y.1 P4
   have U4:=hF.ep y.1 (List.mem_of_getElem? P4)
   rw[←h3]at n1 n5
   refine .region ?_
   refine .rd (.indexAddr (b:=b9) (o:=o9) Tryz.underlying47 aM (by show some (Value.slice (ra) _ _)=_;rw[h9]) rfl (by omega) (by omega)) ?_
   refine .rd (.fS bh aM rfl rfl (af.elem (f:=mY) cz (by decide) ((af.arr .p6).mono fun _ h=>h9▸h) (hy))) ?_
   refine .ef (.alloc cX rfl (ay.of rfl)) ?_
   rintro _ _ ⟨OW,rfl,rfl⟩
   refine .cU (.storeAll (vs:=y.1.cells y.2.1 y.2.2) aM rfl rfl rfl .p0 rfl (ay.of rfl)) ?_
   rintro _ _ rfl
   refine .aH fds 3 ?_
   refine .dr [1] [an OW (y.1.cells y.2.1 y.2.2) 41] ?_
   refine .aq fds [0] ?_
   refine .re 1 rfl (.ld aj rfl .p0 rfl) .q0 ?_
   refine .aq fds [2] ?_
   refine .eg 3 rfl (.fn rfl rfl .nil (CG.at .p3) (pZ db (⟨cb,ek pre,bi l.next es,CX,CY⟩:Cx) (by have:=(hF.IS.cut l.next).len;show(bi l.next es).length≤_;omega))) ?_
   rintro v _ ⟨G1,hq,rfl⟩
   obtain⟨rfl,rfl⟩:=hq
   simp only[ae]
   refine⟨.inr ⟨_,.q0⟩,?_⟩
   refine .aq fds [4] ?_
   refine .al 91 (.bool false) rfl (aE (by show¬ct (bi l.next es)<_;omega)) ?_
   refine .dn ?_
   refine .go fds 2 ?_
   refine .dr [3,4] [an sb [.pointer (some ⟨db,0,none⟩),aY pre,.pointer (some ⟨l.lb,0,none⟩),.pointer (some ⟨cb,0,none⟩),.pointer (some ⟨t2.tb,0,none⟩)] 80,an OW (y.1.cells y.2.1 y.2.2) 41] ?_
   refine .aq fds [0] ?_
   refine .aq fds [1] ?_
   refine .aq fds [2] ?_
   refine .re 3 rfl (.ld jC rfl .p0 rfl) .Gg ?_
   refine .al 101 (.pointer (some ⟨t3.tb,0,none⟩)) rfl (by rw[P3]) ?_
   refine .re 4 rfl (.jy bh aM rfl .p1 rfl) .Gg ?_
   refine .eg 5 rfl (.fn rfl rfl .q4 ((af.bM .p7).mono fun _ h=>h y (List.mem_of_getElem? hy)) (AU t3 y.1 y.2.1 y.2.2 n1 n2 n3 n4 n5)) ?_
   rintro v _ ⟨G1,hq,rfl⟩
   obtain⟨t4,Ti,h4,rfl⟩:=hq
   simp only[ag,ae]
   refine aA ?_
   refine .dn ?_
   have Tj:bg t4.m=(l.e7.take (i+1)).foldl note (iN l.start D):=by rw[h4,h3,List.take_add_one,P4,List.foldl_append];rfl
   refine .ax fds 2 ?_
   refine .rd (.add rfl rfl (by omega) (by omega)) ?_
   refine .aH fds 2 ?_
   exact(ih (i+1,t4) ⟨by show i+1≤bl.length;omega,Tj,by show t4.tb=t2.tb;rw[Ti,P3]⟩ (by show bl.length-(i+1)<bl.length-i;omega)).to .r5 (.cons .p2 (.cons .p2 (.cons .p2 (.cons .p0 (.cons .p1 (.cons .p1 (.cons .p1 (.cons .p1 (.cons .p1 .nil)))))))))
  ·
   refine .go fds 7 ?_
   obtain rfl:i=bl.length:=by omega
   have J6:bg t3.m=l.e7.foldl note (iN l.start D):=by rw[h3,show bl.length=l.e7.length by rw[←CN,List.length_map],List.take_length]
   refine .ca (an ((⟨sb,l,(⟨cb,ek pre,bi l.next es,CX,CY⟩:Cx),t3⟩:St)).sx (St.cells ((⟨sb,l,(⟨cb,ek pre,bi l.next es,CX,CY⟩:Cx),t3⟩:St)) db) 80) (by unfold St.cells;rw[show(St.mk sb l (⟨cb,ek pre,bi l.next es,CX,CY⟩:Cx) t3).l.pre=pre from hF.xM,show(St.mk sb l (⟨cb,ek pre,bi l.next es,CX,CY⟩:Cx) t3).t.tb=t2.tb from P3]) ?_
   refine .pack (L:=[an ((⟨sb,l,(⟨cb,ek pre,bi l.next es,CX,CY⟩:Cx),t3⟩:St)).sx (St.cells ((⟨sb,l,(⟨cb,ek pre,bi l.next es,CX,CY⟩:Cx),t3⟩:St)) db) 80,LG db ((⟨sb,l,(⟨cb,ek pre,bi l.next es,CX,CY⟩:Cx),t3⟩:St)).l,CG db ((⟨sb,l,(⟨cb,ek pre,bi l.next es,CX,CY⟩:Cx),t3⟩:St)).c,TG ((⟨sb,l,(⟨cb,ek pre,bi l.next es,CX,CY⟩:Cx),t3⟩:St)).t]) .fx ?_
   refine .aF Tryz.func9 (.t2 rfl rfl) (.cons .p0 (.cons .p0 (.cons .p0 (.cons .p2 .nil)))) ?_
   exact⟨[_,_,_],⟨(⟨sb,l,(⟨cb,ek pre,bi l.next es,CX,CY⟩:Cx),t3⟩:St),e,_,rfl,BC,⟨rfl,rfl,rfl,J6⟩,rfl⟩,rfl⟩
 ·
  refine .aL rfl (fun c9=>?_) (fun c9=>?_)
  ·
   obtain⟨hg,hb,Tk,Tl,Q9⟩:(e.get (eZ pre)).isSome=true∧(e.file (eZ pre)).b=gO D∧jL D∧D.length≤1000000∧gB D≤400000000:=by
    rcases hF.zJ with h|h
    ·
     rw[h.1]at c9;exact absurd c9 (by decide)
    ·
     exact h
   refine .al 12 (.string (str (gO D))) rfl (by rw[hb];rfl) ?_
   refine .ax fds 4 ?_
   refine .fn rfl rfl .nil ah (I1 D Tk Tl Q9) (fun v G1 hq=>?_)
   obtain⟨t1,rfl,Br,rfl⟩:=hq
   simp only[ag,ae]
   refine .go fds 5 ?_
   refine .cU (.store Hs rfl rfl .p3 rfl aQ) ?_
   rintro _ _ rfl
   refine .ca (an sb [.pointer (some ⟨db,0,none⟩),aY pre,.pointer (some ⟨l.lb,0,none⟩),.pointer (some ⟨cb,0,none⟩),.pointer (some ⟨t1.tb,0,none⟩)] 80) (rfl) ?_
   refine .aH fds 9 ?_
   exact fin t1 Br .r3 (.cons .p0 (.cons .p5 (.cons .p4 (.cons .p0 (.cons .p0 (.cons .p0 (.cons .p1 .nil)))))))
  ·
   obtain rfl:D=[]:=by
    rcases hF.zJ with h|h
    ·
     exact h.2
    ·
     rw[if_pos h.1]at c9;exact absurd rfl c9
   refine .skip ?_
   refine .perm .mK ?_
   refine .ca (an sb [.pointer (some ⟨db,0,none⟩),aY pre,.pointer (some ⟨l.lb,0,none⟩),.pointer (some ⟨cb,0,none⟩),.pointer (some ⟨(⟨tb,Nz,[]⟩:Tb).tb,0,none⟩)] 80) (rfl) ?_
   exact fin ⟨tb,Nz,[]⟩ rfl .r3 (.cons .p0 (.cons .p4 (.cons .p3 (.cons .p2 (.cons .p0 (.cons .p0 (.cons .p0 .nil)))))))
theorem nK(ep pid seq:Int)(n:Nat)(hn:n≤1000):Cn Tryz.prog 13 [.int .i64 ep,.int .i64 pid,.int .i64 seq,.int .i64 (n:Nat)] (fun _=>True) [] fun v G=>∃ra rc,v=.agg ((fQ ep pid 0 seq n 0).cells ra rc).toArray∧G=[arr 99 3 ra rc ((fQ ep pid 0 seq n 0).aU.flatMap Rec.cells)]:=by
 refine .en Tryz.func13 fun R k=>?_
 refine .ax fds 2 ?_
 refine .ef (.alloc cX rfl (ay.of rfl)) ?_
 rintro _ _ ⟨b8,rfl,rfl⟩
 refine .ax fds 6 ?_
 refine .rd (.build rfl (Ht _ _ _)) ?_
 refine .ef (.alloc cX rfl (ay.of rfl)) ?_
 rintro _ _ ⟨b9,rfl,rfl⟩
 refine .cU (.storeAll aM rfl rfl rfl .p0 rfl (ay.of rfl)) ?_
 rintro _ _ rfl
 refine .aH fds 3 ?_
 refine .ca (an b9 [.int .i64 0,.int .i64 ep,.int .i64 pid,.int .i64 0,.int .i64 seq,.slice none 0 0] 41) (rfl) ?_
 refine .cn 99 3 none ?_
 refine .go fds 4 ?_
 refine .loop (σ:=Nat×Option Addr×Nat) (fun⟨i,ra,rc⟩=>i≤n) (fun⟨i,ra,rc⟩=>n-i) (fun⟨i,ra,rc⟩=>[(3,.int .i64 (n:Nat)),(8,.pointer (some ⟨b8,0,none⟩)),(9,.pointer (some ⟨b9,0,none⟩)),(10,.int .i64 (i:Nat))]) (fun⟨i,ra,rc⟩=>[an b9 [.int .i64 0,.int .i64 ep,.int .i64 pid,.int .i64 0,.int .i64 seq,.slice ra i rc] 41,arr 99 3 ra rc ((List.replicate i nD).flatMap Rec.cells),an b8 [.int .i64 0,.int .i64 0,.int .i64 0,.int .i64 0,.int .i64 0,.slice none 0 0] 41,R]) (0,none,0) (Nat.zero_le _) .r4 .qv (fun s' hI ih=>?_)
 obtain⟨i,ra,rc⟩:=s'
 dsimp only at hI ih⊢
 refine .go fds 7 ?_
 refine .aL rfl (fun h3=>?_) (fun h3=>?_)
 ·
  refine .ax fds 5 ?_
  refine .rd (.ld gH rfl .p0 rfl) ?_
  refine .rd (.build rfl (G8 _)) ?_
  refine .ef (.cq (cs:=nD.cells) Tryz.underlying39 iR (by decide) rfl rfl rfl (ay.of rfl)) ?_
  rintro _ _ ⟨bo,rfl,rfl⟩
  refine .ef (.append rfl rfl Tryz.underlying39 iR rfl (ay.of rfl) (by decide) (by decide) rfl rfl .p2 (n:=i) (m:=1) (II i) (.dN .p0 Tryz.underlying39 rfl (by decide)) (by omega)) ?_
  rintro _ _ ⟨qa,qc,rfl,qn,rfl⟩
  refine .rd (.fieldAddr qz rfl) ?_
  refine .cU (.store Ax rfl rfl .p2 rfl aQ) ?_
  rintro _ _ rfl
  refine .nil ?_
  refine .perm .qw ?_
  refine .ca (arr 99 3 qa qc ((List.replicate (i+1) nD).flatMap Rec.cells)) (by rw[Fm]) ?_
  refine .perm .qw ?_
  refine .ca (an b9 [.int .i64 0,.int .i64 ep,.int .i64 pid,.int .i64 0,.int .i64 seq,.slice qa (i+1) qc] 41) (rfl) ?_
  refine .ax fds 3 ?_
  refine .rd (.add rfl rfl (by omega) (by omega)) ?_
  refine .aH fds 2 ?_
  exact(ih (i+1,qa,qc) (by show i+1≤_;omega) (by show n-(i+1)<n-i;omega)).to .r4 .DC
 ·
  refine .ax fds 3 ?_
  refine .rd (.jy bh aM rfl .p0 rfl) ?_
  refine .cU (.storeAll aM rfl rfl (by rfl) .p2 rfl (ay.of rfl)) ?_
  rintro _ _ rfl
  refine .nil ?_
  obtain rfl:i=n:=by omega
  refine .ca (an b8 ((fQ ep pid 0 seq i 0).cells ra rc) 41) (by show _=an b8 [_,_,_,_,_,.slice ra (List.replicate i nD).length rc] 41;rw[List.length_replicate];rfl) ?_
  refine .aF Tryz.func13 (.cons (.yB bh aM rfl .p0 rfl) .nil) .GM ?_
  exact⟨[_],⟨ra,rc,rfl,rfl⟩,rfl⟩
theorem then_ok(db mb:Nat){Z i j:Nat}{E:Int}{D:Tm}(d:Dk)(s:St)(y:Ty)(hb:bw Z i j E s d)(h:dX D s d)(hy:y.ok)(hi:i≤60∧j≤130)(hZ:180000≤Z)(hE:-1≤E):Cn Tryz.prog 15 [.pointer (some ⟨s.sx,0,none⟩),.agg y.cells.toArray] LV [SS db s,an db (d.cells mb) 74,mp aY Fl.val mb d.fs] fun v G=>∃s' d' D',v=.bool true∧s'.sx=s.sx∧bw Z i (j+1) E s' d'∧dX D' s' d'∧G=[SS db s',an db (d'.cells mb) 74,mp aY Fl.val mb d'.fs]:=by
 refine .en Tryz.func15 fun R k=>?_
 have zO:=hb.Bo
 have jz:=hb.size
 have FP:=hb.len
 have nL:=hb.ok.start
 have lD:=hb.next
 refine .ax fds 2 ?_
 refine .ef (.box (l:=y.cells) rfl rfl (ay.of rfl)) ?_
 rintro _ _ ⟨b3,rfl,rfl⟩
 refine .ax fds 5 ?_
 refine .fn rfl rfl .nil (SS.cells .p1) (qb db s) (fun v G1 hq=>?_)
 obtain⟨rfl,rfl⟩:=hq
 simp only[ae]
 refine .ax fds 6 ?_
 refine .rd (.ld aj rfl .p0 rfl) ?_
 refine .fn rfl rfl .nil ah (gr y.th 9 hy.th (by decide)) (fun v G1 hq=>?_)
 obtain⟨rfl,rfl⟩:=hq
 simp only[ae]
 refine .aH fds 8 ?_
 refine .aL rfl (fun c0=>?_) (fun c0=>?_)
 ·
  refine .skip ?_
  refine .aL rfl (fun c0=>?_) (fun c0=>?_)
  ·
   refine .ax fds 3 ?_
   refine .fn rfl rfl .lJ ah (sg db mb d s hb.cR hb.ok) (fun v G1 hq=>?_)
   obtain⟨rfl,rfl⟩:=hq
   simp only[ag,ae]
   refine .aH fds 3 ?_
   refine .aF Tryz.func15 (.t1 rfl) .kp ?_
   exact⟨[_,_,_],⟨s,_,D,rfl,rfl,hb.sync.mono (Nat.le_refl _) (Nat.le_succ _) (Int.le_refl _),h.sync hb,rfl⟩,rfl⟩
  ·
   refine .go fds 5 ?_
   refine .aL rfl (fun c2=>?_) (fun c2=>?_)
   ·
    refine .seq ?_
    refine .dr [4,8] [an b3 (y.cells) 33,SS db s] ?_
    refine .aq fds [0] ?_
    refine .aq fds [1] ?_
    refine .aq fds [3] ?_
    refine .re 4 rfl (.ld aj rfl .p0 rfl) .cV ?_
    refine .aq fds [5] ?_
    refine .aq fds [6] ?_
    refine .aq fds [7] ?_
    refine .re 8 rfl (.load aO rfl (af.one (i:=0) ((SS.log .p1).mono fun _ h=>h.1) rfl)) .cV ?_
    refine .aq fds [10] ?_
    refine .eg 2 rfl (.fn rfl rfl .nil ((SS.log .p1).mono fun _ h=>h.1) (gD s.l.lb db (some ⟨s.l.ai.b,0,none⟩) s.l.pre s.l.most s.l.start s.l.aJ s.l.la (s.l.bX.length+1) s.l.lc)) ?_
    rintro v _ ⟨G1,hq,rfl⟩
    obtain⟨rfl,rfl⟩:=hq
    simp only[ae]
    refine⟨.inr ⟨_,.cV⟩,?_⟩
    refine .eg 9 rfl (.fn rfl rfl .nil ((SS.log .p1).mono fun _ h=>h.2.2 _ s.l.cF) (bY db s.l.ai hb.ok.ai.1)) ?_
    rintro v _ ⟨G1,hq,rfl⟩
    obtain⟨rfl,rfl⟩:=hq
    simp only[ae]
    refine⟨.inr ⟨_,.cV⟩,?_⟩
    refine .al 30 (.int .i64 s.l.next) rfl (rfl) ?_
    refine .eg 11 rfl (.fn rfl rfl .nil ((SS.log .p1).mono fun _ h=>h.1) (gD s.l.lb db (some ⟨s.l.ai.b,0,none⟩) s.l.pre s.l.most s.l.start s.l.aJ s.l.la (s.l.bX.length+1) s.l.lc)) ?_
    rintro v _ ⟨G1,hq,rfl⟩
    obtain⟨rfl,rfl⟩:=hq
    simp only[ae]
    refine⟨.inr ⟨_,.cV⟩,?_⟩
    refine .rq 12 rfl (.sub rfl rfl (by omega) (by omega)) ?_
    refine .rq 13 rfl (.add rfl rfl (by omega) (by omega)) ?_
    have p1:=gz (c:=y.at_) (n:=(s.l.next-s.l.start+1)) (by omega)
    have p2:=gA (c:=y.at_) (n:=(s.l.next-s.l.start+1)) (by omega)
    refine .eg 14 rfl (.fn rfl rfl .nil ah (gr y.at_ (s.l.next-s.l.start+1) hy.at_ (by omega))) ?_
    rintro v _ ⟨G1,hq,rfl⟩
    obtain⟨rfl,rfl⟩:=hq
    simp only[ae]
    refine aA ?_
    refine .rq 15 rfl (.add rfl rfl (by omega) (by omega)) ?_
    refine .eg 16 rfl (.fn rfl rfl .lJ (af.pick .p1 k) (vF db mb d s (s.l.start+aV y.at_ (s.l.next-s.l.start+1)) hb.cR hb.ok hb.nm hb.es hb.j5.tocC (by omega) (by omega) (by omega) (h.rX hb (by omega)).1 (by omega))) ?_
    rintro v _ ⟨G1,hq,rfl⟩
    obtain⟨s',d',rfl,hC,rfl⟩:=hq
    simp only[ag,ae]
    refine aA ?_
    refine .aq fds [17] ?_
    refine .aq fds [18] ?_
    refine .dn ?_
    refine .aF Tryz.func15 (.t1 rfl) .kp ?_
    exact⟨[_,_,_],⟨s',d',D,rfl,hC.sx,hb.cut hE hC hi (by omega),h.cut hb hC hi (by omega),rfl⟩,rfl⟩
   ·
    refine .go fds 5 ?_
    refine .aL rfl (fun c3=>?_) (fun c3=>?_)
    ·
     refine .ax fds 3 ?_
     refine .fn rfl rfl .GM (SS.log .p1) (vG db mb d s.l hb.ok (by have:=hb.all;omega)) (fun v G1 hq=>?_)
     obtain⟨bl,ra,rc,vM,rfl,rfl⟩:=hq
     simp only[ag,ae]
     have CN:bl.map (·.1)=s.l.e7:=vM
     have P0:bl.length≤100000:=by have h1:=congrArg List.length CN;rw[List.length_map]at h1;have h2:=jj s.l.start s.l.all;have h3:=hb.all;rw[h1];unfold Lx.e7;omega
     refine .ax fds 5 ?_
     refine .rd (.bK rfl rfl Tryz.underlying47 rfl) ?_
     refine .aH fds 2 ?_
     refine .aL rfl (fun KN=>?_) (fun KN=>?_)
     ·
      refine .ax fds 4 ?_
      refine .rd (.ld aj rfl .p4 rfl) ?_
      refine .rd (.move rfl) ?_
      refine .rd (.bK rfl rfl Tryz.underlying47 rfl) ?_
      have p1:=gz (c:=y.at_) (n:=(bl.length:Int)) (by omega)
      have p2:=gA (c:=y.at_) (n:=(bl.length:Int)) (by omega)
      refine .fn rfl rfl .nil ah (gr y.at_ (bl.length:Int) hy.at_ (by omega)) (fun v G1 hq=>?_)
      obtain⟨rfl,rfl⟩:=hq
      simp only[ae]
      obtain⟨kn,hk⟩:∃kn:Nat,(kn:Int)=aV y.at_ (bl.length:Int):=⟨(aV y.at_ (bl.length:Int)).toNat,by omega⟩
      refine .al 51 (.int .i64 (kn:Nat)) rfl (congrArg (Value.int .i64) hk.symm) ?_
      refine .tell (φ:=∃b o,ra=some ⟨b,o,none⟩) ((af.arr .p2).mono fun _ h=>aB.addr h (by rw[ar cz];omega)) (fun hh=>?_)
      obtain⟨b9,o9,h9⟩:=hh
      obtain⟨x,hx⟩:∃x,bl[kn]?=some x:=⟨_,List.getElem?_eq_getElem (by omega)⟩
      have NA:x.1∈s.l.e7:=by rw[←CN];exact List.mem_map_of_mem (List.mem_of_getElem? hx)
      have M5:=h.base NA
      have NB:=(dH.1 NA).1
      have KO:=eT hb.ok NB
      obtain⟨off,nI⟩:∃off:Nat,(off:Int)=x.1.base:=⟨x.1.base.toNat,by omega⟩
      have jc:∃b∈s.l.all,b.base=(off:Int):=⟨x.1,NB,nI.symm⟩
      refine .rd (.indexAddr (b:=b9) (o:=o9) Tryz.underlying47 aM (by show some (Value.slice (ra) _ _)=_;rw[h9]) rfl (by omega) (by omega)) ?_
      refine .rd (.fieldAddr kP rfl) ?_
      refine .rd (.load aj rfl (af.one (i:=0) (af.elem (f:=mY) cz (by decide) ((af.arr .p2).mono fun _ h=>h9▸h) (hx)) rfl)) ?_
      refine .al 54 (.int .i64 (off:Int)) rfl (congrArg (Value.int .i64) nI.symm) ?_
      refine .ax fds 6 ?_
      refine .fn rfl rfl .nil ((SS.log .p5).mono fun _ h=>h.1) (gD s.l.lb db (some ⟨s.l.ai.b,0,none⟩) s.l.pre s.l.most s.l.start s.l.aJ s.l.la (s.l.bX.length+1) s.l.lc) (fun v G1 hq=>?_)
      obtain⟨rfl,rfl⟩:=hq
      simp only[ae]
      refine .rd (.lt rfl rfl) ?_
      refine .al 58 (.bool false) rfl (aE (by omega)) ?_
      refine .go fds 3 ?_
      refine .on (t:=59) rfl rfl ?_
      have CU:=iy hb
      have Jx:=hb.Nl
      have Rg:=hb.N7
      refine .fn rfl rfl (.cons .p5 (.cons .p0 (.cons .p0 .nil))) (af.pick .p3 k) (mc db mb d s off hb.cR hb.ok hb.nm hb.es hb.j5.tocC (by omega) (by unfold bg at Jx;rw[List.length_map]at Jx;omega) (by omega) (by omega) (.inr jc) (by omega) (by omega)) (fun v G1 hq=>?_)
      obtain⟨s',d',rfl,hD,rfl⟩:=hq
      simp only[ag,ae]
      refine .aH fds 4 ?_
      refine .aF Tryz.func15 (.t1 rfl) (.cons .p0 (.cons .p0 (.cons .p0 (.cons .p3 .nil)))) ?_
      exact⟨[_,_,_],⟨s',d',_,rfl,hD.sx,hb.del hE hD jc hi (.inl hZ),h.del hb hD jc (by omega) hi (.inl hZ),rfl⟩,rfl⟩
     ·
      refine .go fds 6 ?_
      refine .aF Tryz.func15 (.t1 rfl) (.cons .p5 (.cons .p0 (.cons .p0 (.cons .p3 .nil)))) ?_
      exact⟨[_,_,_],⟨s,d,D,rfl,rfl,hb.mono (Nat.le_refl _) (Nat.le_succ _) (Int.le_refl _),h,rfl⟩,rfl⟩
    ·
     refine .go fds 6 ?_
     refine .aF Tryz.func15 (.t1 rfl) .sR ?_
     exact⟨[_,_,_],⟨s,d,D,rfl,rfl,hb.mono (Nat.le_refl _) (Nat.le_succ _) (Int.le_refl _),h,rfl⟩,rfl⟩
 ·
  refine .go fds 4 ?_
  refine .aL rfl (fun c1=>?_) (fun c1=>?_)
  ·
   refine .ax fds 3 ?_
   refine .fn rfl rfl .lJ ah (sg db mb d s hb.cR hb.ok) (fun v G1 hq=>?_)
   obtain⟨rfl,rfl⟩:=hq
   simp only[ag,ae]
   refine .aH fds 3 ?_
   refine .aF Tryz.func15 (.t1 rfl) .kp ?_
   exact⟨[_,_,_],⟨s,_,D,rfl,rfl,hb.sync.mono (Nat.le_refl _) (Nat.le_succ _) (Int.le_refl _),h.sync hb,rfl⟩,rfl⟩
  ·
   refine .go fds 5 ?_
   refine .aL rfl (fun c2=>?_) (fun c2=>?_)
   ·
    refine .seq ?_
    refine .dr [4,8] [an b3 (y.cells) 33,SS db s] ?_
    refine .aq fds [0] ?_
    refine .aq fds [1] ?_
    refine .aq fds [3] ?_
    refine .re 4 rfl (.ld aj rfl .p0 rfl) .cV ?_
    refine .aq fds [5] ?_
    refine .aq fds [6] ?_
    refine .aq fds [7] ?_
    refine .re 8 rfl (.load aO rfl (af.one (i:=0) ((SS.log .p1).mono fun _ h=>h.1) rfl)) .cV ?_
    refine .aq fds [10] ?_
    refine .eg 2 rfl (.fn rfl rfl .nil ((SS.log .p1).mono fun _ h=>h.1) (gD s.l.lb db (some ⟨s.l.ai.b,0,none⟩) s.l.pre s.l.most s.l.start s.l.aJ s.l.la (s.l.bX.length+1) s.l.lc)) ?_
    rintro v _ ⟨G1,hq,rfl⟩
    obtain⟨rfl,rfl⟩:=hq
    simp only[ae]
    refine⟨.inr ⟨_,.cV⟩,?_⟩
    refine .eg 9 rfl (.fn rfl rfl .nil ((SS.log .p1).mono fun _ h=>h.2.2 _ s.l.cF) (bY db s.l.ai hb.ok.ai.1)) ?_
    rintro v _ ⟨G1,hq,rfl⟩
    obtain⟨rfl,rfl⟩:=hq
    simp only[ae]
    refine⟨.inr ⟨_,.cV⟩,?_⟩
    refine .al 30 (.int .i64 s.l.next) rfl (rfl) ?_
    refine .eg 11 rfl (.fn rfl rfl .nil ((SS.log .p1).mono fun _ h=>h.1) (gD s.l.lb db (some ⟨s.l.ai.b,0,none⟩) s.l.pre s.l.most s.l.start s.l.aJ s.l.la (s.l.bX.length+1) s.l.lc)) ?_
    rintro v _ ⟨G1,hq,rfl⟩
    obtain⟨rfl,rfl⟩:=hq
    simp only[ae]
    refine⟨.inr ⟨_,.cV⟩,?_⟩
    refine .rq 12 rfl (.sub rfl rfl (by omega) (by omega)) ?_
    refine .rq 13 rfl (.add rfl rfl (by omega) (by omega)) ?_
    have p1:=gz (c:=y.at_) (n:=(s.l.next-s.l.start+1)) (by omega)
    have p2:=gA (c:=y.at_) (n:=(s.l.next-s.l.start+1)) (by omega)
    refine .eg 14 rfl (.fn rfl rfl .nil ah (gr y.at_ (s.l.next-s.l.start+1) hy.at_ (by omega))) ?_
    rintro v _ ⟨G1,hq,rfl⟩
    obtain⟨rfl,rfl⟩:=hq
    simp only[ae]
    refine aA ?_
    refine .rq 15 rfl (.add rfl rfl (by omega) (by omega)) ?_
    refine .eg 16 rfl (.fn rfl rfl .lJ (af.pick .p1 k) (vF db mb d s (s.l.start+aV y.at_ (s.l.next-s.l.start+1)) hb.cR hb.ok hb.nm hb.es hb.j5.tocC (by omega) (by omega) (by omega) (h.rX hb (by omega)).1 (by omega))) ?_
    rintro v _ ⟨G1,hq,rfl⟩
    obtain⟨s',d',rfl,hC,rfl⟩:=hq
    simp only[ag,ae]
    refine aA ?_
    refine .aq fds [17] ?_
    refine .aq fds [18] ?_
    refine .dn ?_
    refine .aF Tryz.func15 (.t1 rfl) .kp ?_
    exact⟨[_,_,_],⟨s',d',D,rfl,hC.sx,hb.cut hE hC hi (by omega),h.cut hb hC hi (by omega),rfl⟩,rfl⟩
   ·
    refine .go fds 5 ?_
    refine .aL rfl (fun c3=>?_) (fun c3=>?_)
    ·
     refine .ax fds 3 ?_
     refine .fn rfl rfl .GM (SS.log .p1) (vG db mb d s.l hb.ok (by have:=hb.all;omega)) (fun v G1 hq=>?_)
     obtain⟨bl,ra,rc,vM,rfl,rfl⟩:=hq
     simp only[ag,ae]
     have CN:bl.map (·.1)=s.l.e7:=vM
     have P0:bl.length≤100000:=by have h1:=congrArg List.length CN;rw[List.length_map]at h1;have h2:=jj s.l.start s.l.all;have h3:=hb.all;rw[h1];unfold Lx.e7;omega
     refine .ax fds 5 ?_
     refine .rd (.bK rfl rfl Tryz.underlying47 rfl) ?_
     refine .aH fds 2 ?_
     refine .aL rfl (fun KN=>?_) (fun KN=>?_)
     ·
      refine .ax fds 4 ?_
      refine .rd (.ld aj rfl .p4 rfl) ?_
      refine .rd (.move rfl) ?_
      refine .rd (.bK rfl rfl Tryz.underlying47 rfl) ?_
      have p1:=gz (c:=y.at_) (n:=(bl.length:Int)) (by omega)
      have p2:=gA (c:=y.at_) (n:=(bl.length:Int)) (by omega)
      refine .fn rfl rfl .nil ah (gr y.at_ (bl.length:Int) hy.at_ (by omega)) (fun v G1 hq=>?_)
      obtain⟨rfl,rfl⟩:=hq
      simp only[ae]
      obtain⟨kn,hk⟩:∃kn:Nat,(kn:Int)=aV y.at_ (bl.length:Int):=⟨(aV y.at_ (bl.length:Int)).toNat,by omega⟩
      refine .al 51 (.int .i64 (kn:Nat)) rfl (congrArg (Value.int .i64) hk.symm) ?_
      refine .tell (φ:=∃b o,ra=some ⟨b,o,none⟩) ((af.arr .p2).mono fun _ h=>aB.addr h (by rw[ar cz];omega)) (fun hh=>?_)
      obtain⟨b9,o9,h9⟩:=hh
      obtain⟨x,hx⟩:∃x,bl[kn]?=some x:=⟨_,List.getElem?_eq_getElem (by omega)⟩
      have NA:x.1∈s.l.e7:=by rw[←CN];exact List.mem_map_of_mem (List.mem_of_getElem? hx)
      have M5:=h.base NA
      have NB:=(dH.1 NA).1
      have KO:=eT hb.ok NB
      obtain⟨off,nI⟩:∃off:Nat,(off:Int)=x.1.base:=⟨x.1.base.toNat,by omega⟩
      have jc:∃b∈s.l.all,b.base=(off:Int):=⟨x.1,NB,nI.symm⟩
      refine .rd (.indexAddr (b:=b9) (o:=o9) Tryz.underlying47 aM (by show some (Value.slice (ra) _ _)=_;rw[h9]) rfl (by omega) (by omega)) ?_
      refine .rd (.fieldAddr kP rfl) ?_
      refine .rd (.load aj rfl (af.one (i:=0) (af.elem (f:=mY) cz (by decide) ((af.arr .p2).mono fun _ h=>h9▸h) (hx)) rfl)) ?_
      refine .al 54 (.int .i64 (off:Int)) rfl (congrArg (Value.int .i64) nI.symm) ?_
      refine .ax fds 6 ?_
      refine .fn rfl rfl .nil ((SS.log .p5).mono fun _ h=>h.1) (gD s.l.lb db (some ⟨s.l.ai.b,0,none⟩) s.l.pre s.l.most s.l.start s.l.aJ s.l.la (s.l.bX.length+1) s.l.lc) (fun v G1 hq=>?_)
      obtain⟨rfl,rfl⟩:=hq
      simp only[ae]
      refine .rd (.lt rfl rfl) ?_
      refine .al 58 (.bool false) rfl (aE (by omega)) ?_
      refine .go fds 3 ?_
      refine .on (t:=59) rfl rfl ?_
      have CU:=iy hb
      have Jx:=hb.Nl
      have Rg:=hb.N7
      refine .fn rfl rfl (.cons .p5 (.cons .p0 (.cons .p0 .nil))) (af.pick .p3 k) (mc db mb d s off hb.cR hb.ok hb.nm hb.es hb.j5.tocC (by omega) (by unfold bg at Jx;rw[List.length_map]at Jx;omega) (by omega) (by omega) (.inr jc) (by omega) (by omega)) (fun v G1 hq=>?_)
      obtain⟨s',d',rfl,hD,rfl⟩:=hq
      simp only[ag,ae]
      refine .aH fds 4 ?_
      refine .aF Tryz.func15 (.t1 rfl) (.cons .p0 (.cons .p0 (.cons .p0 (.cons .p3 .nil)))) ?_
      exact⟨[_,_,_],⟨s',d',_,rfl,hD.sx,hb.del hE hD jc hi (.inl hZ),h.del hb hD jc (by omega) hi (.inl hZ),rfl⟩,rfl⟩
     ·
      refine .go fds 6 ?_
      refine .aF Tryz.func15 (.t1 rfl) (.cons .p5 (.cons .p0 (.cons .p0 (.cons .p3 .nil)))) ?_
      exact⟨[_,_,_],⟨s,d,D,rfl,rfl,hb.mono (Nat.le_refl _) (Nat.le_succ _) (Int.le_refl _),h,rfl⟩,rfl⟩
    ·
     refine .go fds 6 ?_
     refine .aF Tryz.func15 (.t1 rfl) .sR ?_
     exact⟨[_,_,_],⟨s,d,D,rfl,rfl,hb.mono (Nat.le_refl _) (Nat.le_succ _) (Int.le_refl _),h,rfl⟩,rfl⟩
theorem CO{s2 s3 s4:St}{d3 d4 e2 d5:Dk}{es:List Ep}(ha:s2.l.all=[fQ 2 7 0 0 1 0,fQ 2 7 0 1 1 1])(ht:bg s2.t.m=[(7,[n0,n1])])(hT:cC (bg s2.t.m))(hA:Fw s2 d3 1 s3 d4)(h4:s4.l.all=s3.l.all)(h5:s4.l.start=s3.l.start)(hO:Bl [112] es (cx (bg s2.t.m)) s4 e2 d5):bg s4.t.m=[(7,[n0,n1])]∧s4.l.start=1:=by
 obtain⟨e,hD,_⟩:=hA.del
 have h1:s4.l.start=1:=h5.trans hD.start
 have hv:s4.l.e7=[fQ 2 7 0 1 1 1]:=by
  unfold Lx.e7
  rw[h1,h4]
  have:=hD.E3
  rw[ha]at this
  exact this
 rw[ht]at hT
 refine⟨?_,h1⟩
 have:=hO.t
 rw[hv,h1,ht,FY _ hT]at this
 exact this.trans IY.2.2.1
theorem bD{Z E s d}(h:bw Z 0 0 E s d)(hp:zP s d):s.l.next=0∧s.l.all=[]∧bg s.t.m=[]:=by
 have h1:=h.next
 have h2:=h.sX
 have h3:s.l.all=[]:=List.eq_nil_of_length_eq_zero (Nat.le_zero.1 h.all)
 exact⟨by omega,h3,by rw[hp.t,h3];rfl⟩
theorem NC(seq u:Int)(h1:0≤seq∧seq≤1)(h2:0≤u∧u≤5):kH 2 7 0 seq 1 u:=⟨by decide,by decide,by decide,by omega,by decide,by omega⟩
theorem CP(db:Nat)(s:St)(b:aR)(a:Option Addr)(c:Nat)(k8:bO s.c.es)(jX:b.bu<ct s.c.es):Cn Tryz.prog 44 [.pointer (some ⟨s.sx,0,none⟩),.agg (b.cells a c).toArray] (fun _=>True) [SS db s] fun v G=>v=.int .i64 13∧G=[SS db s]:=by
 refine .en Tryz.func44 fun R k=>?_
 refine .unpack (L:=[an s.sx (s.cells db) 80,LG db s.l,CG db s.c,TG s.t]) .p0 ?_
 simp only[ag,ae]
 refine .ax fds 2 ?_
 refine .ef (.box (l:=b.cells a c) rfl rfl (ay.of rfl)) ?_
 rintro _ _ ⟨bx,rfl,rfl⟩
 refine .ax fds 7 ?_
 refine .rd (.ld gU rfl .p1 rfl) ?_
 refine .fn rfl rfl .nil (CG.at .p3) (pZ db s.c (by have:=k8.len;omega)) (fun v G1 hq=>?_)
 obtain⟨rfl,rfl⟩:=hq
 simp only[ae]
 refine .ax fds 6 ?_
 refine .rd (.ld aj rfl .p0 rfl) ?_
 refine .go fds 2 ?_
 refine .al 16 (.bool true) rfl (bS jX) ?_
 refine .aH fds 6 ?_
 refine .pack (L:=[an (s).sx (St.cells (s) db) 80,LG db (s).l,CG db (s).c,TG (s).t]) .sR ?_
 refine .aF Tryz.func44 (.t1 rfl) .sD ?_
 exact⟨[_],⟨rfl,rfl⟩,rfl⟩
theorem yd(db:Nat)(d:Dk)(s:St)(b:aR)(a:Option Addr)(c:Nat)(hl:s.l.ok d)(k8:bO s.c.es)(jX:b.bu<ct s.c.es):Cn Tryz.prog 14 [.pointer (some ⟨s.sx,0,none⟩),.agg (b.cells a c).toArray] (fun _=>True) [SS db s] fun v G=>v=.tuple #[.int .i64 0,.int .i64 13]∧G=[SS db s]:=by
 refine .en Tryz.func14 fun R k=>?_
 refine .unpack (L:=[an s.sx (s.cells db) 80,LG db s.l,CG db s.c,TG s.t]) .p0 ?_
 simp only[ag,ae]
 refine .ax fds 2 ?_
 refine .ef (.box (l:=b.cells a c) rfl rfl (ay.of rfl)) ?_
 rintro _ _ ⟨bx,rfl,rfl⟩
 refine .ax fds 8 ?_
 refine .rd (.ld gq rfl .p1 rfl) ?_
 refine .go fds 2 ?_
 refine .rd (.load aO rfl (af.one (i:=0) ((LG.at .p2).mono fun _ h=>h.1) rfl)) ?_
 refine .fn rfl rfl .nil ((LG.at .p2).mono fun _ h=>h.2.2 _ (Lx.cF (s.l))) (bY db (s.l).ai hl.ai.1) (fun v G1 hq=>?_)
 obtain⟨rfl,rfl⟩:=hq
 simp only[ae]
 refine .al 14 (.int .i64 (s.l).next) rfl (rfl) ?_
 refine .rd (.fieldAddr kP rfl) ?_
 refine .cU (.store bQ rfl rfl .p0 rfl aQ) ?_
 rintro _ _ rfl
 refine .ca (an bx ((b.at_ s.l.next).cells a c) 41) (rfl) ?_
 refine .aH fds 3 ?_
 refine .pack (L:=[an (s).sx (St.cells (s) db) 80,LG db (s).l,CG db (s).c,TG (s).t]) .sR ?_
 refine .ax fds 2 ?_
 refine .rd (.jy bh aM rfl .p1 rfl) ?_
 refine .fn rfl rfl .q0 ah (CP db s (b.at_ s.l.next) a c k8 jX) (fun v G1 hq=>?_)
 obtain⟨rfl,rfl⟩:=hq
 simp only[ag,ae]
 refine .aH fds 14 ?_
 refine .aF Tryz.func14 (.t2 rfl rfl) .sD ?_
 exact⟨[_],⟨rfl,rfl⟩,rfl⟩
theorem ye(db mb:Nat)(d:Dk)(ns:List Nm)(ka:Option Addr)(kl:List Int)(kc:Nat)(hd:d.ok)(hk:∀p∈d.fs,p.1.length≤64)(hn:d.fs.length≤1000000)(hs:(bp (d.fs.map (·.1)))=ns)(Tn:kl.length≤kc)(Ma:∀x∈kl,i64 x)(CU:kl.length≤140737488351232):Cn Tryz.prog 16 [.pointer (some ⟨db,0,none⟩),.slice ka kl.length kc] (fun _=>True) [an db (d.cells mb) 74,mp aY Fl.val mb d.fs,bM (aB ka (kl.flatMap rJ))] fun v G=>∃e,ik d e∧G=[an db (e.cells mb) 74,mp aY Fl.val mb e.fs]:=by
 refine .en Tryz.func16 fun R k=>?_
 have To:∀n,n∈d.fs.map (·.1)→n∈ns:=fun n h=>hs▸dF.2 h
 have mm:ns.Nodup:=hs▸fM hd.nodup
 have Rh:ns.length=d.fs.length:=by rw[←hs,bp,List.length_mergeSort,List.length_map]
 refine .ax fds 3 ?_
 refine .fn rfl rfl .cV ah (xq db mb d hk hn) (fun v G1 hq=>?_)
 obtain⟨ra,rc,rfl,rfl⟩:=hq
 simp only[ag,ae]
 refine .rd (.bK rfl rfl Tryz.underlying101 rfl) ?_
 refine .aH fds 2 ?_
 refine .perm .qy ?_
 refine .ca (bM (aB ra (ns.flatMap Gk))) (by rw[hs,vn]) ?_
 refine .al 10 (.slice ra ns.length rc) rfl (by rw[Rh]) ?_
 refine .al 11 (.int .i64 (ns.length:Nat)) rfl (by rw[Rh]) ?_
 skip
 refine .block ?_
 refine .loop (σ:=Nat×Dk×Option Addr×List Int×Nat) (fun⟨j,e,qa,ql,qc⟩=>j≤ns.length∧gh d (ns.take j) e∧ql.length≤qc∧(∀x∈ql,i64 x)∧ql.length≤140737488351232) (fun⟨j,e,qa,ql,qc⟩=>ns.length-j) (fun⟨j,e,qa,ql,qc⟩=>[(0,.pointer (some ⟨db,0,none⟩)),(1,.slice qa ql.length qc),(10,.slice ra ns.length rc),(11,.int .i64 (ns.length:Nat)),(12,.int .i64 (j:Nat))]) (fun⟨j,e,qa,ql,qc⟩=>[an db (e.cells mb) 74,mp aY Fl.val mb e.fs,bM (aB ra (ns.flatMap Gk)),bM (aB qa (ql.flatMap rJ)),R]) (0,d,ka,kl,kc) ⟨Nat.zero_le _,.begin hd,Tn,Ma,CU⟩ .r5 .yO (fun s' hI ih=>?_)
 obtain⟨j,e,qa,ql,qc⟩:=s'
 dsimp only at hI ih⊢
 obtain⟨QH,hC,Ba,Lj,Cs⟩:=hI
 refine .go fds 5 ?_
 refine .aL rfl (fun c1=>?_) (fun c1=>?_)
 ·
  refine .go fds 4 ?_
  obtain⟨x,hx⟩:∃x,ns[j]?=some x:=⟨_,List.getElem?_eq_getElem (by omega)⟩
  have Tp:(d.get x).isSome=true:=er.2 (dF.1 (hs▸List.mem_of_getElem? hx))
  have KO:x∉ns.take j:=fun h=>by
   obtain⟨i,hi⟩:=List.getElem?_of_mem h
   have nM:i<j:=by have:=(List.getElem?_eq_some_iff.1 hi).1;rw[List.length_take]at this;omega
   rw[List.getElem?_take,if_pos nM]at hi
   obtain⟨h1,h2⟩:=List.getElem?_eq_some_iff.1 hi
   obtain⟨h3,h4⟩:=List.getElem?_eq_some_iff.1 hx
   exact(List.pairwise_iff_getElem.1 mm i j h1 h3 nM) (h2.trans h4.symm)
  have Bc:=hC.left x KO
  have LC:=Dk.nX hd x
  have yo:=Dk.jD (d:=d) x
  have zO:=hd.used
  have jz:=hd.size
  refine .tell (φ:=∃b o,ra=some ⟨b,o,none⟩) ((af.bM .p2).mono fun _ h=>aB.addr h (by rw[ar pV];omega)) (fun hh=>?_)
  obtain⟨b9,o9,h9⟩:=hh
  refine .region ?_
  refine .rd (.indexAddr (b:=b9) (o:=o9) Tryz.underlying101 fG (by show some (Value.slice ra _ _)=_;rw[h9]) rfl (by omega) (by omega)) ?_
  refine .rd (.load aS rfl (af.one (i:=0) (af.elem (f:=Gk) pV (by decide) ((af.bM .p2).mono fun _ h=>h9▸h) hx) rfl)) ?_
  refine .ax fds 7 ?_
  refine .rd (.ld eB rfl .p0 rfl) ?_
  refine .rd (.move rfl) ?_
  refine .rd (.lookup (q:=x) ry Tryz.underlying72 (fun w=>dh.zero w) rfl rfl .p1) ?_
  refine .al 21 ((d.file x).val) rfl ((DM e x).trans (by rw[Bc])) ?_
  refine .ef (.alloc dh rfl (ay.of rfl)) ?_
  rintro _ _ ⟨b6,rfl,rfl⟩
  refine .cU (.storeAll iS rfl rfl (by rfl) .p0 rfl (ay.of rfl)) ?_
  rintro _ _ rfl
  refine .nil ?_
  refine .ca (an b6 [.string (str (d.file x).b),.int .i64 ((d.file x).safe:Int)] 104) (rfl) ?_
  refine .ax fds 3 ?_
  refine .rd (.ld aS rfl .p0 rfl) ?_
  refine .rd (.ey rfl rfl Tryz.underlying9 rfl) ?_
  refine .rd (.fieldAddr DF rfl) ?_
  refine .rd (.ld aj rfl .p0 rfl) ?_
  refine .rd (.sub rfl rfl (by omega) (by omega)) ?_
  refine .al 27 (.int .i64 (((d.file x).b.length-(d.file x).safe:Nat):Int)) rfl (congrArg (Value.int .i64) (by omega)) ?_
  refine .aH fds 8 ?_
  refine .aL rfl (fun c5=>?_) (fun c5=>?_)
  ·
   have L6:(d.file x).safe=(d.file x).b.length:=by omega
   refine .ax fds 2 ?_
   refine .rd (.add rfl rfl (by omega) (by omega)) ?_
   refine .aH fds 2 ?_
   exact(ih (j+1,e,qa,ql,qc) ⟨by show j+1≤_;omega,by rw[List.take_add_one,hx];exact hC.E3 KO L6,Ba,Lj,Cs⟩ (by show ns.length-(j+1)<ns.length-j;omega)).to .r5 (.cons .p1 (.cons .p1 (.cons .p1 (.cons .p1 (.cons .p1 .nil)))))
  ·
   refine .ax fds 9 ?_
   refine .rd (.bK rfl rfl Tryz.underlying31 rfl) ?_
   refine .aH fds 2 ?_
   refine .lI (σ:=Int×Option Addr×List Int×Nat) (φ:=fun⟨n,qa,ql,qc⟩=>i64 n∧ql.length≤qc∧(∀x∈ql,i64 x)∧ql.length≤140737488351232) (E':=fun⟨n,qa,ql,qc⟩=>[(0,.pointer (some ⟨db,0,none⟩)),(5,aY x),(6,.pointer (some ⟨b6,0,none⟩)),(7,.int .i64 (((d.file x).b.length-(d.file x).safe:Nat):Int)),(10,.slice ra ns.length rc),(11,.int .i64 (ns.length:Nat)),(12,.int .i64 (j:Nat)),(1,.slice qa ql.length qc),(8,.int .i64 n)]) (aI:=fun⟨n,qa,ql,qc⟩=>[an b6 [.string (str (d.file x).b),.int .i64 ((d.file x).safe:Int)] 104,an db (e.cells mb) 74,mp aY Fl.val mb e.fs,bM (aB ra (ns.flatMap Gk)),bM (aB qa (ql.flatMap rJ)),R]) (fun sj hj=>?_) (fun fin=>?_)
   ·
    clear Ba Lj Cs
    obtain⟨n,Tq,Tr,Ts⟩:=sj
    dsimp only at hj⊢
    obtain⟨Gn,Ba,Lj,Cs⟩:=hj
    obtain⟨B8,LB⟩:-9223372036854775808≤n∧n≤9223372036854775807:=Gn
    obtain⟨qa,rfl⟩:∃q,q=Tq:=⟨_,rfl⟩
    obtain⟨ql,rfl⟩:∃q,q=Tr:=⟨_,rfl⟩
    obtain⟨qc,rfl⟩:∃q,q=Ts:=⟨_,rfl⟩
    refine .go fds 6 ?_
    refine .lI (σ:=Int) (φ:=fun n=>0≤n∧n≤9223372036854775807) (E':=fun n=>[(0,.pointer (some ⟨db,0,none⟩)),(5,aY x),(6,.pointer (some ⟨b6,0,none⟩)),(7,.int .i64 (((d.file x).b.length-(d.file x).safe:Nat):Int)),(10,.slice ra ns.length rc),(11,.int .i64 (ns.length:Nat)),(12,.int .i64 (j:Nat)),(1,.slice qa ql.length qc),(8,.int .i64 n)]) (aI:=fun n=>[an b6 [.string (str (d.file x).b),.int .i64 ((d.file x).safe:Int)] 104,an db (e.cells mb) 74,mp aY Fl.val mb e.fs,bM (aB ra (ns.flatMap Gk)),bM (aB qa (ql.flatMap rJ)),R]) (fun sj hj=>?_) (fun fin=>?_)
    ·
     obtain⟨n2,rfl⟩:∃n:Int,n=sj:=⟨sj,rfl⟩
     obtain⟨Oz,NP⟩:=hj
     refine .seq ?_
     refine .dr [1] [an b6 [.string (str (d.file x).b),.int .i64 ((d.file x).safe:Int)] 104] ?_
     refine .aq fds [0] ?_
     refine .re 1 rfl (.ld aj rfl .p0 rfl) .q0 ?_
     refine .aq fds [2] ?_
     refine .aq fds [3] ?_
     refine .rq 4 rfl (.add rfl rfl (by omega) (by omega)) ?_
     refine .al 47 (.int .i64 ((((d.file x).b.length-(d.file x).safe+1:Nat)):Int)) rfl (congrArg (Value.int .i64) (by omega)) ?_
     refine .rq 5 rfl (.rem rfl rfl (by omega) (by omega)) ?_
     have U5:=Int.emod_nonneg n2 (show(((d.file x).b.length-(d.file x).safe+1:Nat):Int)≠0 by omega)
     have QK:=Int.emod_lt_of_pos n2 (show(0:Int)<(((d.file x).b.length-(d.file x).safe+1:Nat):Int) by omega)
     obtain⟨z,hz⟩:∃z:Nat,(z:Int)=(d.file x).safe+n2%(((d.file x).b.length-(d.file x).safe+1:Nat):Int):=⟨((d.file x).safe+n2%(((d.file x).b.length-(d.file x).safe+1:Nat):Int)).toNat,by omega⟩
     have Ea:(d.file x).safe≤z:=by omega
     have AS:z≤(d.file x).b.length:=by omega
     refine .rq 6 rfl (.add rfl rfl (by omega) (by omega)) ?_
     refine .al 49 (.int .i64 (z:Nat)) rfl (by rw[hz]) ?_
     refine .aq fds [7] ?_
     refine .dn ?_
     refine .ax fds 4 ?_
     refine .rd (.ld aS rfl .p0 rfl) ?_
     refine .rd (.move rfl) ?_
     refine .rd (.cJ (l:=(d.file x).b) (a:=0) (h:=z) Tryz.underlying9 rfl rfl ⟨_,rfl⟩ (by omega) (by omega)) ?_
     refine .rd (.move rfl) ?_
     refine .rd (.build rfl (mN _ _)) ?_
     refine .al 57 ((Fl.val ⟨(d.file x).b.take z,z⟩)) rfl (by simp[Fl.val]) ?_
     refine .fn rfl rfl .pu ah (oy db mb e x ⟨(d.file x).b.take z,z⟩ hC.cR (by rw[List.length_take];omega)) (fun v G1 hq=>?_)
     obtain rfl:=hq
     simp only[ag,ae]
     refine .ax fds 3 ?_
     refine .rd (.add rfl rfl (by omega) (by omega)) ?_
     refine .aH fds 2 ?_
     exact(ih (j+1,e.put x ⟨(d.file x).b.take z,z⟩,qa,ql,qc) ⟨by show j+1≤_;omega,by rw[List.take_add_one,hx];exact hC.step KO Tp Ea AS,Ba,Lj,Cs⟩ (by show ns.length-(j+1)<ns.length-j;omega)).to .r5 (.cons .p0 (.cons .p0 (.cons .p1 (.cons .p1 (.cons .p1 .nil)))))
    ·
     refine .aL rfl (fun c9=>?_) (fun c9=>?_)
     ·
      refine .ax fds 2 ?_
      refine .rd (.add rfl rfl (by omega) (by omega)) ?_
      refine .rd (.neg rfl (by omega) (by omega)) ?_
      refine .aH fds 2 ?_
      exact fin (-(n+1)) ⟨by omega,by omega⟩ .r9 .kL
     ·
      refine .skip ?_
      exact fin n ⟨by omega,LB⟩ .r9 .kL
   ·
    refine .aL rfl (fun c7=>?_) (fun c7=>?_)
    ·
     obtain⟨v,r,ND⟩:∃v r,ql=v::r:=by
      cases h:ql with
      |nil=>rw[h]at c7;exact absurd c7 (by decide)
      |cons v r=>exact⟨v,r,rfl⟩
     have hv:i64 v:=Lj v (by rw[ND];exact .head _)
     have Tt:∀x∈r,i64 x:=fun x hx=>Lj x (by rw[ND];exact .tail _ hx)
     have P5:ql.length=r.length+1:=by rw[ND];rfl
     have Tu:ql[0]?=some v:=by rw[ND];rfl
     refine .tell (φ:=∃b o,qa=some ⟨b,o,none⟩) ((af.bM .p4).mono fun _ h=>aB.addr h (by rw[ar vr];omega)) (fun hh=>?_)
     obtain⟨b8,o8,h8⟩:=hh
     refine .dr [2] [bM (aB qa (ql.flatMap rJ))] ?_
     refine .aq fds [0] ?_
     refine .rq 1 rfl (.indexAddr (b:=b8) (o:=o8) Tryz.underlying31 bQ (by show some (Value.slice qa _ _)=_;rw[h8]) rfl (by omega) (by omega)) ?_
     refine .re 2 rfl (.load aj rfl (af.one (i:=0) (af.elem (f:=rJ) vr (by decide) ((af.bM .p0).mono fun _ h=>h8▸h) Tu) rfl)) .q4 ?_
     refine .aq fds [3] ?_
     refine .rq 4 rfl (.slice (l:=1) (h:=ql.length) (m:=qc) Tryz.underlying31 bQ rfl rfl ⟨rfl,rfl⟩ ⟨_,rfl⟩ (by omega) (by omega) (by omega)) ?_
     refine .aq fds [5] ?_
     refine .aq fds [6] ?_
     refine .dn ?_
     refine .al 1 (.slice (if qc=1 then qa else qa.map (·.add (1*1))) r.length (qc-1)) rfl (by rw[P5];rfl) ?_
     refine .qq (aB (if qc=1 then qa else qa.map (·.add (1*1))) (r.flatMap rJ)) .p4 (fun w h=>FE h8 (ND▸h) (by omega)) ?_
     exact fin (v,(if qc=1 then qa else qa.map (·.add (1*1))),r,qc-1) ⟨hv,by show r.length≤qc-1;omega,Tt,by show r.length≤_;omega⟩ .r9 (.cons .p1 (.cons .p1 (.cons .p1 (.cons .p1 (.cons .p0 (.cons .p0 .nil))))))
    ·
     refine .skip ?_
     exact fin (0,qa,ql,qc) ⟨⟨by decide,by decide⟩,Ba,Lj,Cs⟩ .r9 .kL
 ·
  refine .exit rfl ?_
  refine .su Tryz.func16 .nil .BQ ?_
  exact⟨[_,_],⟨e,hC.all hd fun n h=>by rw[List.take_of_length_le (by omega)];exact To n h,rfl⟩,rfl⟩
theorem F7(lb db mb:Nat)(d:Dk)(pre:Nm)(most:Int)(z w:Nat){L:List Piece}(hp:og pre)(hF:fN pre d L z w):Cn Tryz.prog 65 [.pointer (some ⟨lb,0,none⟩)] LV [an lb (a6 none db pre most 0 0 none 0 0) 57,an db (d.cells mb) 74,mp aY Fl.val mb d.fs] fun v G=>v=.bool true∧G=[an lb (a6 none db pre most (z:Int) (w:Int) none 0 0) 57,an db (d.cells mb) 74,mp aY Fl.val mb d.fs]:=by
 have KX:=hF.zw
 rcases hF.wU with⟨rfl,rfl,hm⟩|⟨hm,hf⟩
 ·
  exact CB lb db mb d none pre most 0 0 none 0 0 hp hm
 ·
  exact FJ lb db mb d none pre most 0 0 none 0 0 z w hp hm hf (by omega) (by omega) (by omega)
theorem yf(db mb:Nat)(d:Dk)(pre:Nm)(most:Int)(L:List Piece)(z w:Nat)(hd:d.ok)(hp:og pre)(hk:∀p∈d.fs,p.1.length≤64)(hn:d.fs.length<255)(h1:256≤most)(h2:most≤1000000)(hF:fN pre d L z w):Cn Tryz.prog 32 [.pointer (some ⟨db,0,none⟩),aY pre,.int .i64 most] LV [an db (d.cells mb) 74,mp aY Fl.val mb d.fs] fun v G=>∃l e,v=.tuple #[.pointer (some ⟨l.lb,0,none⟩),.int .i64 0]∧((∃ss,l6 pre d L z w l ss e∧∃q,L.getLast?=some q∧(z:Int)≤aC (q.1:Int) q.2.1)∨(vD pre d z w l e∧∃q,L.getLast?=some q∧aC (q.1:Int) q.2.1<(z:Int)))∧G=[LG db l,an db (e.cells mb) 74,mp aY Fl.val mb e.fs]:=by
 refine .en Tryz.func32 fun R k=>?_
 have h3:=hp.len
 refine .ax fds 9 ?_
 refine .rd (.NR (m:=[]) rfl rfl) ?_
 refine .al 14 (.bool false) rfl (aE hp.ne) ?_
 refine .go fds 2 ?_
 refine .on (t:=15) rfl rfl ?_
 refine .rd (.ey rfl rfl Tryz.underlying9 rfl) ?_
 refine .go fds 1 ?_
 refine .al 18 (.bool false) rfl (aE (by omega)) ?_
 refine .go fds 3 ?_
 refine .on (t:=20) rfl rfl ?_
 refine .fn rfl rfl .nil ah (nu pre yp (by omega) (by decide) (by decide)) (fun v G1 hq=>?_)
 obtain⟨rfl,rfl⟩:=hq
 simp only[ae]
 refine .on (t:=20) rfl rfl ?_
 refine .rd (.Ds (m:=[]) rfl rfl) ?_
 refine .al 23 (.bool false) rfl (congrArg Value.bool (by rw[decide_eq_true (ji.2 hp.yp)];rfl)) ?_
 refine .go fds 4 ?_
 refine .al 27 (.bool false) rfl (aE (by omega)) ?_
 refine .go fds 4 ?_
 refine .al 31 (.bool false) rfl (aE (by omega)) ?_
 refine .ax fds 9 ?_
 refine .rd (.build rfl (AA _ _ _)) ?_
 refine .ef (.box (l:=a6 none db pre most 0 0 none 0 0) rfl rfl (ay.of rfl)) ?_
 rintro _ _ ⟨lx,rfl,rfl⟩
 refine .ax fds 6 ?_
 refine .fn rfl rfl .ez (af.pick .p0 k) (F7 lx db mb d pre most z w hp hF) (fun v G1 hq=>?_)
 obtain⟨rfl,rfl⟩:=hq
 simp only[ag,ae]
 refine .ax fds 12 ?_
 refine .fn rfl rfl .pu ((af.an .p0)) (rE lx db mb d none pre most (z:Int) (w:Int) none 0 0 hk (by omega) hp.len) (fun v G1 hq=>?_)
 obtain⟨ra,rc,rfl,rfl⟩:=hq
 simp only[ag,ae]
 refine .rd (.bK rfl rfl Tryz.underlying31 rfl) ?_
 refine .aH fds 2 ?_
 refine .perm .qy ?_
 refine .ca (arr 3 1 ra rc ((L.map (·.1)).flatMap fJ)) (by rw[hF.nF]) ?_
 refine .al 42 (.slice ra L.length rc) rfl (by rw[hF.nF,List.length_map]) ?_
 refine .al 43 (.int .i64 (L.length:Nat)) rfl (by rw[hF.nF,List.length_map]) ?_
 refine .perm .uw ?_
 refine .ca (an lx (a6 (jY []) db pre most (z:Int) (w:Int) none (([]:List Sx).map (·.b)).length 0) 57) (rfl) ?_
 refine .cn 54 1 none ?_
 refine .ca (arr 54 1 none 0 ((([]:List Sx).map (·.b)).flatMap yu)) rfl ?_
 refine .close (X:=cD (SG db) []) .nil (fun _ _=>cD.nil) ?_
 refine .block ?_
 refine .loop (σ:=Nat×List Sx×Dk×Option Addr×Nat) (fun⟨i,ss,e,la,lc⟩=>i≤L.length∧eu pre d L i ss e) (fun⟨i,ss,e,la,lc⟩=>L.length-i) (fun⟨i,ss,e,la,lc⟩=>[(0,.pointer (some ⟨db,0,none⟩)),(8,.pointer (some ⟨lx,0,none⟩)),(9,.bool true),(42,.slice ra L.length rc),(43,.int .i64 (L.length:Nat)),(44,.int .i64 (i:Nat))]) (fun⟨i,ss,e,la,lc⟩=>[an lx (a6 (jY ss) db pre most (z:Int) (w:Int) la (ss.map (·.b)).length lc) 57,arr 54 1 la lc ((ss.map (·.b)).flatMap yu),cD (SG db) ss,an db (e.cells mb) 74,mp aY Fl.val mb e.fs,arr 3 1 ra rc ((L.map (·.1)).flatMap fJ),R]) (0,[],d,none,0) ⟨Nat.zero_le _,.begin pre hd L⟩ .r6 (.cons .p2 (.cons .p1 (.cons .p0 (.cons .p1 (.cons .p1 (.cons .p0 (.cons .p0 .nil))))))) (fun s' hI ih=>?_)
 obtain⟨i,ss,e,la,lc⟩:=s'
 dsimp only at hI ih⊢
 obtain⟨mj,hO⟩:=hI
 have oS:=hO.len mj
 have U6:=hF.len
 have Tv:(ss.map (·.b)).length=i:=by rw[List.length_map];exact oS
 refine .go fds 5 ?_
 refine .aL rfl (fun c8=>?_) (fun c8=>?_)
 ·
  refine .go fds 4 ?_
  obtain⟨p,mo⟩:∃p,L[i]?=some p:=⟨_,List.getElem?_eq_getElem (by omega)⟩
  have hh:=hF.holds p (List.mem_of_getElem? mo)
  have Tw:=hh.le
  have Md:(L.map (·.1))[i]?=some p.1:=by rw[List.getElem?_map,mo];rfl
  refine .tell (φ:=∃b o,ra=some ⟨b,o,none⟩) ((af.arr .p5).mono fun _ h=>aB.addr h (by rw[ar dS,List.length_map];omega)) (fun hh=>?_)
  obtain⟨b9,o9,h9⟩:=hh
  refine .region ?_
  refine .rd (.indexAddr (b:=b9) (o:=o9) Tryz.underlying31 bQ (by show some (Value.slice ra _ _)=_;rw[h9]) rfl (by omega) (by omega)) ?_
  refine .rd (.load aj rfl (af.one (i:=0) (af.elem (f:=fJ) dS (by decide) ((af.arr .p5).mono fun _ h=>h9▸h) Md) rfl)) ?_
  refine .ax fds 8 ?_
  refine .rd (.ld cY rfl .p0 rfl) ?_
  refine .rd (.bK rfl rfl Tryz.underlying55 rfl) ?_
  refine .aH fds 2 ?_
  refine .lI (σ:=Unit) (φ:=fun _=>True) (E':=fun _=>[(0,.pointer (some ⟨db,0,none⟩)),(8,.pointer (some ⟨lx,0,none⟩)),(9,.bool true),(42,.slice ra L.length rc),(43,.int .i64 (L.length:Nat)),(44,.int .i64 (i:Nat)),(11,.int .i64 (p.1:Nat))]) (aI:=fun _=>[an lx (a6 (jY ss) db pre most (z:Int) (w:Int) la (ss.map (·.b)).length lc) 57,arr 54 1 la lc ((ss.map (·.b)).flatMap yu),cD (SG db) ss,an db (e.cells mb) 74,mp aY Fl.val mb e.fs,arr 3 1 ra rc ((L.map (·.1)).flatMap fJ),R]) (fun sj hj=>?_) (fun fin=>?_)
  ·
   skip
   refine .ax fds 6 ?_
   refine .on (t:=74) rfl rfl ?_
   refine .fn rfl rfl .DC (af.pick .p2 k) (vl lx db mb e (jY ss) pre most (z:Int) (w:Int) la lc (ss.map (·.b)) p.1 p.2.1 p.2.2 hO.cR hp Tw (.inl (by rw[hO.get];exact hh.get)) (by rw[hO.here hF.nodup mo];exact hh.file) hh.stop hh.chain hh.aT hh.len (by have:=hF.len;omega)) (fun v G1 hq=>?_)
   obtain⟨sb,sm,aa,ac,ia,ic,qa,qc,rfl,iM,qQ,rfl⟩:=hq
   simp only[ag,ae]
   refine .aH fds 4 ?_
   refine .pack (L:=[an sb ((Sx.mk sb (nameOf pre p.1) (p.1:Int) p.2.1 sm aa ac ia ic).cells db) 110,arr 112 4 aa ac (Sx.mk sb (nameOf pre p.1) (p.1:Int) p.2.1 sm aa ac ia ic).rows,arr 3 1 ia ic (sm.flatMap fJ)]) (.cons .p4 (.cons .p4 (.cons .p4 .nil))) ?_
   refine .close (X:=cD (SG db) (ss++[(Sx.mk sb (nameOf pre p.1) (p.1:Int) p.2.1 sm aa ac ia ic)])) .JS (fun h H=>iI (bX:=ss) (s:=(Sx.mk sb (nameOf pre p.1) (p.1:Int) p.2.1 sm aa ac ia ic)) H) ?_
   refine .perm .iD ?_
   refine .ca (an lx (a6 (jY (ss++[(Sx.mk sb (nameOf pre p.1) (p.1:Int) p.2.1 sm aa ac ia ic)])) db pre most (z:Int) (w:Int) qa ((ss++[(Sx.mk sb (nameOf pre p.1) (p.1:Int) p.2.1 sm aa ac ia ic)]).map (·.b)).length qc) 57) (by rw[l5,List.map_append];rfl) ?_
   refine .perm .mK ?_
   refine .ca (arr 54 1 qa qc (((ss++[(Sx.mk sb (nameOf pre p.1) (p.1:Int) p.2.1 sm aa ac ia ic)]).map (·.b)).flatMap yu)) (by rw[List.map_append];rfl) ?_
   refine .ax fds 9 ?_
   refine .rd (.add rfl rfl (by omega) (by omega)) ?_
   refine .aH fds 2 ?_
   exact(ih (i+1,ss++[(Sx.mk sb (nameOf pre p.1) (p.1:Int) p.2.1 sm aa ac ia ic)],(e.put (nameOf pre p.1) ⟨flat p.2.1,(flat p.2.1).length⟩),qa,qc) ⟨by show i+1≤_;omega,hO.step hF.nodup mo hh iM qQ⟩ (by show L.length-(i+1)<L.length-i;omega)).to .r6 .iD
  ·
   refine .aL rfl (fun KN=>?_) (fun KN=>?_)
   ·
    have Tx:i=0:=by omega
    have hle:(p.1:Int)≤(z:Int):=hF.first (Tx▸mo)
    refine .ax fds 7 ?_
    refine .on (t:=55) rfl rfl ?_
    refine .rd (.ld aj rfl .p0 rfl) ?_
    refine .go fds 1 ?_
    refine .al 61 (.bool true) rfl (bS hle) ?_
    refine .aH fds 3 ?_
    exact fin () trivial .r7 .mL
   ·
    obtain⟨r,y,LM,Gm,Jr,F8,lD⟩:=hO.ahead hF mj (by omega) mo
    refine .ax fds 7 ?_
    refine .on (t:=64) rfl rfl ?_
    refine .rd (.ld aO rfl .p0 rfl) ?_
    refine .al 69 (.pointer (some ⟨y.b,0,none⟩)) rfl (by rw[Jr]) ?_
    refine .on (t:=64) rfl rfl ?_
    refine .fn rfl rfl .nil ((af.lE .p2).mono fun _ h=>h y Gm) (bY db y F8) (fun v G1 hq=>?_)
    obtain⟨rfl,rfl⟩:=hq
    simp only[ae]
    refine .go fds 1 ?_
    refine .al 71 (.bool true) rfl (bS lD) ?_
    refine .aH fds 3 ?_
    exact fin () trivial .r7 .mL
 ·
  refine .go fds 3 ?_
  obtain rfl:i=L.length:=by omega
  obtain⟨r,y,LM,Gm,Jr,F8,q,Cs,U7⟩:=hO.end_ hF
  have KX:=hF.zw
  have R4:0<L.length:=List.length_pos_iff.2 hF.xS
  have U8:=F8.eC
  refine .dr [3,10,15] [an lx (a6 (jY ss) db pre most (z:Int) (w:Int) la (ss.map (·.b)).length lc) 57] ?_
  refine .aq fds [0] ?_
  refine .aq fds [1] ?_
  refine .aq fds [2] ?_
  refine .re 3 rfl (.ld cY rfl .p0 rfl) .q0 ?_
  refine .rq 4 rfl (.bK rfl rfl Tryz.underlying55 rfl) ?_
  refine .aq fds [5] ?_
  refine .al 93 (.bool false) rfl (aE (by omega)) ?_
  refine .aq fds [6] ?_
  refine .aq fds [7] ?_
  refine .aq fds [8] ?_
  refine .aq fds [9] ?_
  refine .si 10 (t:=94) rfl rfl rfl rfl (by kernel_rfl) (by kernel_rfl) (by kernel_rfl) (.ld aO rfl .p0 rfl) .q0 ?_
  refine .al 98 (.pointer (some ⟨y.b,0,none⟩)) rfl (by rw[Jr]) ?_
  refine .aq fds [12] ?_
  refine .aq fds [13] ?_
  refine .aq fds [14] ?_
  refine .si 15 (t:=94) rfl rfl rfl rfl (by kernel_rfl) (by kernel_rfl) (by kernel_rfl) (.ld aj rfl .p0 rfl) .q0 ?_
  refine .GC 11 (t:=94) (by kernel_rfl) rfl rfl rfl (.fn rfl rfl .nil ((af.lE .p2).mono fun _ h=>h y Gm) (bY db y F8)) ?_
  rintro v _ ⟨G1,hq,rfl⟩
  obtain⟨rfl,rfl⟩:=hq
  simp only[ae]
  refine⟨.inr ⟨_,.q0⟩,?_⟩
  refine .aq fds [16] ?_
  refine .aq fds [17] ?_
  refine .dn ?_
  refine .aL rfl (fun P6=>?_) (fun P6=>?_)
  ·
   obtain⟨⟨Jm,hle⟩,k1,k2,k3,k4,k5⟩:=tX hF hO hd hn
   have Kj:∀p∈e.fs,p.1.length≤64:=fun p hp=>by
    obtain⟨x,hx,e1⟩:=List.mem_map.1 (Jm.mem_iff.1 (List.mem_map_of_mem hp))
    rw[←e1];exact hk x hx
   refine .ax fds 6 ?_
   refine .rd (.ld aj rfl .p0 rfl) ?_
   refine .fn rfl rfl (.cons .p0 (.cons .p2 (.cons .p2 .nil))) (af.pick .p3 k) (Bd lx db mb e (jY ss) pre most (z:Int) (w:Int) la (ss.map (·.b)).length lc z (L.map (·.1)) hO.cR hp Kj (by omega) (by omega) k1 hF.nodup k2 k3 k4 (by rw[Dk.dK k5];rfl)) (fun v G1 hq=>?_)
   obtain⟨sb,sm,aa,ac,ia,ic,qa,qc,rfl,iM,rfl⟩:=hq
   simp only[ag,ae]
   have Ri:=IZ hF hO hd hn hp h1 h2 lx sb iM aa ac ia ic qa qc
   refine .aH fds 2 ?_
   refine .pack (L:=[an sb ((Sx.mk sb (nameOf pre z) (z:Int) [] sm aa ac ia ic).cells db) 110,arr 112 4 aa ac (Sx.mk sb (nameOf pre z) (z:Int) [] sm aa ac ia ic).rows,arr 3 1 ia ic (sm.flatMap fJ)]) (.cons .p4 (.cons .p4 (.cons .p4 .nil))) ?_
   refine .go fds 8 ?_
   refine .dr [4,8] [an lx (a6 (some ⟨sb,0,none⟩) db pre most (z:Int) (w:Int) qa ([]++[sb]).length qc) 57] ?_
   refine .aq fds [0] ?_
   refine .aq fds [1] ?_
   refine .aq fds [2] ?_
   refine .aq fds [3] ?_
   refine .re 4 rfl (.ld aj rfl .p0 rfl) .q1 ?_
   refine .aq fds [5] ?_
   refine .aq fds [6] ?_
   refine .aq fds [7] ?_
   refine .re 8 rfl (.ld aO rfl .p0 rfl) .q1 ?_
   refine .eg 9 rfl (.fn rfl rfl .nil (SG.at .p0) (bY db (Sx.mk sb (nameOf pre z) (z:Int) [] sm aa ac ia ic) Ri.ok.ai.1)) ?_
   rintro v _ ⟨G1,hq,rfl⟩
   obtain⟨rfl,rfl⟩:=hq
   simp only[ae]
   refine⟨.inr ⟨_,.q1⟩,?_⟩
   refine .al 124 (.int .i64 (z:Int)) rfl (rfl) ?_
   refine .rq 10 rfl (.min2 rfl rfl rfl) ?_
   refine .al 125 (.int .i64 (z:Int)) rfl (congrArg (Value.int .i64) (by omega)) ?_
   refine .aq fds [11] ?_
   refine .aq fds [12] ?_
   refine .eh 13 rfl (.store bQ rfl rfl .p1 rfl aQ) ?_
   rintro _ _ rfl
   refine aA ?_
   refine .dn ?_
   refine .go fds 6 ?_
   refine .ca (an (Lx.mk lx pre most z z [] (Sx.mk sb (nameOf pre z) (z:Int) [] sm aa ac ia ic) qa qc).lb ((Lx.mk lx pre most z z [] (Sx.mk sb (nameOf pre z) (z:Int) [] sm aa ac ia ic) qa qc).cells db) 57) (rfl) ?_
   refine .perm (.cons .p2 (.cons .p0 (.cons .p0 (.cons .p0 (.cons .p0 (.cons .p0 (.cons .p0 (.cons .p0 (.cons .p0 .nil))))))))) ?_
   refine .ca (arr 54 1 (Lx.mk lx pre most z z [] (Sx.mk sb (nameOf pre z) (z:Int) [] sm aa ac ia ic) qa qc).la (Lx.mk lx pre most z z [] (Sx.mk sb (nameOf pre z) (z:Int) [] sm aa ac ia ic) qa qc).lc ((Lx.mk lx pre most z z [] (Sx.mk sb (nameOf pre z) (z:Int) [] sm aa ac ia ic) qa qc).au.flatMap sp)) (rfl) ?_
   refine .close (X:=cD (SG db) []) (B:=[]) .nil (fun _ _=>cD.nil) ?_
   refine .close (X:=cD (SG db) ([]++[(Sx.mk sb (nameOf pre z) (z:Int) [] sm aa ac ia ic)])) (.cons .p3 (.cons .p0 .nil)) (fun h H=>iI (bX:=[]) (s:=(Sx.mk sb (nameOf pre z) (z:Int) [] sm aa ac ia ic)) H) ?_
   refine .ca (cD (SG db) (Lx.mk lx pre most z z [] (Sx.mk sb (nameOf pre z) (z:Int) [] sm aa ac ia ic) qa qc).au) (rfl) ?_
   refine .pack (L:=[an (Lx.mk lx pre most z z [] (Sx.mk sb (nameOf pre z) (z:Int) [] sm aa ac ia ic) qa qc).lb ((Lx.mk lx pre most z z [] (Sx.mk sb (nameOf pre z) (z:Int) [] sm aa ac ia ic) qa qc).cells db) 57,arr 54 1 (Lx.mk lx pre most z z [] (Sx.mk sb (nameOf pre z) (z:Int) [] sm aa ac ia ic) qa qc).la (Lx.mk lx pre most z z [] (Sx.mk sb (nameOf pre z) (z:Int) [] sm aa ac ia ic) qa qc).lc ((Lx.mk lx pre most z z [] (Sx.mk sb (nameOf pre z) (z:Int) [] sm aa ac ia ic) qa qc).au.flatMap sp),cD (SG db) (Lx.mk lx pre most z z [] (Sx.mk sb (nameOf pre z) (z:Int) [] sm aa ac ia ic) qa qc).au]) (.cons .p2 (.cons .p1 (.cons .p0 .nil))) ?_
   refine .aF Tryz.func32 (.t2 rfl rfl) (.cons .p0 (.cons .p0 (.cons .p0 (.cons .p3 .nil)))) ?_
   exact⟨[_,_,_],⟨(Lx.mk lx pre most z z [] (Sx.mk sb (nameOf pre z) (z:Int) [] sm aa ac ia ic) qa qc),((bP pre (L.map (·.1)) e).put (nameOf pre z) ⟨flat [],(flat []).length⟩),rfl,.inr ⟨Ri,q,Cs,by omega⟩,rfl⟩,rfl⟩
  ·
   have A3:=hO.log hF (by omega) hp LM h1 h2 lx la lc
   refine .go fds 2 ?_
   refine .dr [4,8] [an lx (a6 (jY ss) db pre most (z:Int) (w:Int) la (ss.map (·.b)).length lc) 57] ?_
   refine .aq fds [0] ?_
   refine .aq fds [1] ?_
   refine .aq fds [2] ?_
   refine .aq fds [3] ?_
   refine .re 4 rfl (.ld aj rfl .p0 rfl) .q0 ?_
   refine .aq fds [5] ?_
   refine .aq fds [6] ?_
   refine .aq fds [7] ?_
   refine .re 8 rfl (.ld aO rfl .p0 rfl) .q0 ?_
   refine .al 123 (.pointer (some ⟨y.b,0,none⟩)) rfl (by rw[Jr]) ?_
   refine .eg 9 rfl (.fn rfl rfl .nil ((af.lE .p2).mono fun _ h=>h y Gm) (bY db y F8)) ?_
   rintro v _ ⟨G1,hq,rfl⟩
   obtain⟨rfl,rfl⟩:=hq
   simp only[ae]
   refine⟨.inr ⟨_,.q0⟩,?_⟩
   refine .rq 10 rfl (.min2 rfl rfl rfl) ?_
   refine .al 125 (.int .i64 (min (w:Int) y.next)) rfl (congrArg (Value.int .i64) (by omega)) ?_
   refine .aq fds [11] ?_
   refine .aq fds [12] ?_
   refine .eh 13 rfl (.store bQ rfl rfl .p0 rfl aQ) ?_
   rintro _ _ rfl
   refine aA ?_
   refine .dn ?_
   refine .go fds 6 ?_
   refine .ca (an (Lx.mk lx pre most z (min (w:Int) y.next) r y la lc).lb ((Lx.mk lx pre most z (min (w:Int) y.next) r y la lc).cells db) 57) (by rw[Jr,Tv,show L.length=r.length+1 by rw[←oS,LM,List.length_append];rfl];rfl) ?_
   refine .perm .iD ?_
   refine .ca (arr 54 1 (Lx.mk lx pre most z (min (w:Int) y.next) r y la lc).la (Lx.mk lx pre most z (min (w:Int) y.next) r y la lc).lc ((Lx.mk lx pre most z (min (w:Int) y.next) r y la lc).au.flatMap sp)) (by rw[LM,List.flatMap_map];rfl) ?_
   refine .perm .mK ?_
   refine .ca (cD (SG db) (Lx.mk lx pre most z (min (w:Int) y.next) r y la lc).au) (by rw[LM];rfl) ?_
   refine .pack (L:=[an (Lx.mk lx pre most z (min (w:Int) y.next) r y la lc).lb ((Lx.mk lx pre most z (min (w:Int) y.next) r y la lc).cells db) 57,arr 54 1 (Lx.mk lx pre most z (min (w:Int) y.next) r y la lc).la (Lx.mk lx pre most z (min (w:Int) y.next) r y la lc).lc ((Lx.mk lx pre most z (min (w:Int) y.next) r y la lc).au.flatMap sp),cD (SG db) (Lx.mk lx pre most z (min (w:Int) y.next) r y la lc).au]) (.cons .p2 (.cons .p1 (.cons .p0 .nil))) ?_
   refine .aF Tryz.func32 (.t2 rfl rfl) .kp ?_
   exact⟨[_,_,_],⟨(Lx.mk lx pre most z (min (w:Int) y.next) r y la lc),e,rfl,.inl ⟨ss,⟨A3,hO,LM.symm,rfl,rfl⟩,q,Cs,by omega⟩,rfl⟩,rfl⟩
theorem F9(db mb:Nat)(d:Dk)(pre:Nm)(most:Int)(L:List Piece)(z w:Nat)(hd:d.ok)(hp:og pre)(hk:∀p∈d.fs,p.1.length≤64)(hn:d.fs.length<255)(h1:256≤most)(h2:most≤1000000)(hF:Found pre d L z w):Cn Tryz.prog 32 [.pointer (some ⟨db,0,none⟩),aY pre,.int .i64 most] LV [an db (d.cells mb) 74,mp aY Fl.val mb d.fs] fun v G=>∃l ss e,v=.tuple #[.pointer (some ⟨l.lb,0,none⟩),.int .i64 0]∧l6 pre d L z w l ss e∧G=[LG db l,an db (e.cells mb) 74,mp aY Fl.val mb e.fs]:=
 (yf db mb d pre most L z w hd hp hk hn h1 h2 hF.x).mono fun v G ⟨l,e,hv,h,hG⟩=>by
  rcases h with⟨ss,hO,_⟩|⟨_,q,hq,hl⟩
  ·
   exact⟨l,ss,e,hv,hO,hG⟩
  ·
   have:=hF.next q hq;omega
theorem Ga:Cn Tryz.prog 7 [] LV [] fun v G=>v=.bool true∧G=[]:=by
 refine .en Tryz.func7 fun R k=>?_
 refine .ax fds 6 ?_
 refine .fn rfl rfl .nil ah (EQ 100000 (by decide) (by decide)) (fun v G1 hq=>?_)
 obtain⟨db,mb,rfl,rfl⟩:=hq
 simp only[ag,ae]
 refine .ax fds 10 ?_
 refine .rd (.jx Tryz.underlying24 rfl rfl) ?_
 refine .ax fds 10 ?_
 refine .fn rfl rfl .cV (af.pick .p0 (k.mono fun _ h=>h)) (nJ db mb (Dk.mk 100000 []) [112] 256 [] [] (fun l d'=>dG [112] 256 (Dk.mk 100000 []) l d') (xL db mb (Dk.mk 100000 []) [112] 256 (FL (by decide)) FK (oJ _) (Nat.zero_lt_succ _) (xX _ _) (by decide) (by decide)) (fun l e h=>tQ (.inr h) (by decide))) (fun v G1 hq=>?_)
 obtain⟨s0,e0,d0,rfl,P7,Nv,rfl⟩:=hq
 simp only[ag,ae]
 obtain⟨mh,mo⟩:=tR P7 (by decide) Nv
 obtain⟨Ac,Og,NE⟩:=bD mh mo
 have P8:=By (z:=0) (m:=0) (e:=d0) mo Og NE
 have mg:=mh.mono (Nat.le_refl _) (Nat.le_refl _) (show(0:Int)≤2 by decide)
 refine .ax fds 10 ?_
 refine .rd (.jx Tryz.underlying28 rfl rfl) ?_
 refine .go fds 6 ?_
 refine .on (t:=34) rfl rfl ?_
 refine .fn rfl rfl .nil (SS.cells .p0) (qb db s0) (fun v G1 hq=>?_)
 obtain⟨rfl,rfl⟩:=hq
 simp only[ae]
 refine .on (t:=34) rfl rfl ?_
 refine .rd (.jx Tryz.underlying48 rfl rfl) ?_
 refine .go fds 3 ?_
 refine .on (t:=39) rfl rfl ?_
 refine .fn rfl rfl .nil (SS.cells .p0) (tY db s0) (fun v G1 hq=>?_)
 obtain⟨rfl,rfl⟩:=hq
 simp only[ae]
 refine .on (t:=39) rfl rfl ?_
 refine .rd (.jx Tryz.underlying65 rfl rfl) ?_
 refine .go fds 3 ?_
 refine .on (t:=44) rfl rfl ?_
 refine .fn rfl rfl .nil (SS.cells .p0) (jv db s0) (fun v G1 hq=>?_)
 obtain⟨rfl,rfl⟩:=hq
 simp only[ae]
 refine .on (t:=44) rfl rfl ?_
 refine .rd (.jx Tryz.underlying36 rfl rfl) ?_
 refine .ax fds 7 ?_
 refine .fn rfl rfl .nil ah (nK 2 7 0 1 (by decide)) (fun v G1 hq=>?_)
 obtain⟨ra,rc,rfl,rfl⟩:=hq
 simp only[ag,ae]
 have Ab:=NC 0 s0.l.next (by decide) (by omega)
 have Ll:late (aD (bg s0.t.m) 7) (fQ 2 7 0 0 1 s0.l.next)=false:=by rw[NE,Ac];exact asks.2.2.2
 have U9:=Ab.enc
 have Tz:=mg.Bo
 have NF:=mg.size
 have TA:=mg.au
 have TB:=mg.len
 have Rj:=mg.Fy
 refine .fn rfl rfl .lJ ((af.pick .p1 k).and (af.arr .p0)) (me db mb d0 s0 (fQ 2 7 0 0 1 0) ra rc mg.cR mg.ok mg.own mg.nm mg.es mg.eM (by omega) mg.j5.tocC (by omega) (by omega) (by omega) Ab.aT Ab.ep mg.last (by decide) Ll (by show Dk.used d0+8040+(enc (fQ 2 7 0 0 1 s0.l.next)).length≤_;omega)) (fun v G1 hq=>?_)
 obtain⟨s1,d1,rfl,P9,rfl⟩:=hq
 simp only[ag,ae]
 refine .al 52 (.tuple #[.int .i64 0,.int .i64 0]) rfl (by rw[Ac]) ?_
 have I6:lY s0 d0 (fQ 2 7 0 0 1 s0.l.next) s1 d1:=P9
 have gL:=mg.zN I6 Ab (Int.le_refl _) (by decide) (by decide) Ll ⟨by decide,by decide⟩ (by decide)
 have Px:=P8.zN mg I6 Ab (Int.le_refl _) (by decide) Ll ⟨by decide,by decide⟩ (by decide)
 have B8:s1.l.next=1:=by rw[I6.app.next,xN,Ac];rfl
 have Br:bg s1.t.m=[(7,[n0])]:=by rw[I6.t,NE,Ac];exact IY.1
 have TC:s1.l.all=[fQ 2 7 0 0 1 0]:=by rw[I6.app.all,Og,Ac];rfl
 refine .aH fds 6 ?_
 refine .al 3 (.pointer (some ⟨s1.sx,0,none⟩)) rfl (by rw[I6.sx];try rfl) ?_
 refine .ax fds 3 ?_
 refine .fn rfl rfl .nil ah (nK 2 7 1 1 (by decide)) (fun v G1 hq=>?_)
 obtain⟨ra,rc,rfl,rfl⟩:=hq
 simp only[ag,ae]
 have Df:=NC 1 s1.l.next (by decide) (by omega)
 have I3:late (aD (bg s1.t.m) 7) (fQ 2 7 0 1 1 s1.l.next)=false:=by rw[Br,B8];exact asks.2.2.1
 have M7:=Df.enc
 have TD:=gL.Bo
 have TE:=gL.size
 have TF:=gL.au
 have TH:=gL.len
 have Rk:=gL.Fy
 refine .fn rfl rfl .lJ ((af.pick .p2 k).and (af.arr .p0)) (me db mb d1 s1 (fQ 2 7 0 1 1 0) ra rc gL.cR gL.ok gL.own gL.nm gL.es gL.eM (by omega) gL.j5.tocC (by omega) (by omega) (by omega) Df.aT Df.ep gL.last (by decide) I3 (by show Dk.used d1+8040+(enc (fQ 2 7 0 1 1 s1.l.next)).length≤_;omega)) (fun v G1 hq=>?_)
 obtain⟨s2,d2,rfl,Qa,rfl⟩:=hq
 simp only[ag,ae]
 refine .al 58 (.tuple #[.int .i64 1,.int .i64 0]) rfl (by rw[B8]) ?_
 have jw:lY s1 d1 (fQ 2 7 0 1 1 s1.l.next) s2 d2:=Qa
 have lp:=gL.zN jw Df (Int.le_refl _) (by decide) (by decide) I3 ⟨by decide,by decide⟩ (by decide)
 have CR:=Px.zN gL jw Df (Int.le_refl _) (by decide) I3 ⟨by decide,by decide⟩ (by decide)
 have LB:s2.l.next=2:=by rw[jw.app.next,xN,B8];rfl
 have Bt:bg s2.t.m=[(7,[n0,n1])]:=by rw[jw.t,Br,B8];exact IY.2.1
 have Rl:s2.l.all=[fQ 2 7 0 0 1 0,fQ 2 7 0 1 1 1]:=by rw[jw.app.all,TC,B8];rfl
 refine .aH fds 6 ?_
 refine .al 3 (.pointer (some ⟨s2.sx,0,none⟩)) rfl (by rw[jw.sx];try rfl) ?_
 refine .ax fds 3 ?_
 refine .fn rfl rfl .nil ah (nK 1 0 0 1 (by decide)) (fun v G1 hq=>?_)
 obtain⟨ra,rc,rfl,rfl⟩:=hq
 simp only[ag,ae]
 have Ko:ct s2.c.es=2:=by rw[jw.es];exact rI gL.last
 refine .fn rfl rfl .q1 ah (yd db d2 s2 (fQ 1 0 0 0 1 0) ra rc lp.ok lp.es (by rw[Ko];decide)) (fun v G1 hq=>?_)
 obtain⟨rfl,rfl⟩:=hq
 simp only[ag,ae]
 refine .aH fds 7 ?_
 refine .unpack (L:=[an s2.sx (s2.cells db) 80,LG db s2.l,CG db s2.c,TG s2.t]) .p0 ?_
 simp only[ag,ae]
 refine .ax fds 2 ?_
 refine .fn rfl rfl .nil (af.an .p0) (jv db s2) (fun v G1 hq=>?_)
 obtain⟨rfl,rfl⟩:=hq
 simp only[ae]
 refine .fn rfl rfl .q3 ah (uX s2.t 7 0 0 1 lp.j5.tocC ⟨by decide,by decide⟩ ⟨by decide,by decide⟩ ⟨by decide,by decide⟩ ⟨by decide,by decide⟩) (fun v G1 hq=>?_)
 obtain⟨rfl,rfl⟩:=hq
 simp only[ag,ae]
 refine .al 70 (.tuple #[.int .i64 0,.int .i64 0]) rfl (by rw[show ask (bg s2.t.m) 7 0 0 1=(0,0)from by rw[Bt];exact asks.1]) ?_
 refine .aH fds 6 ?_
 refine .pack (L:=[an (s2).sx (St.cells (s2) db) 80,LG db (s2).l,CG db (s2).c,TG (s2).t]) .mG ?_
 refine .ax fds 31 ?_
 refine .on (t:=99) rfl rfl ?_
 refine .fn rfl rfl .nil (SS.cells .p0) (tY db s2) (fun v G1 hq=>?_)
 obtain⟨rfl,rfl⟩:=hq
 simp only[ae]
 refine .on (t:=99) rfl rfl ?_
 refine .fn rfl rfl .nil (SS.cache .p0) (pZ db s2.c (by have:=lp.es.len;omega)) (fun v G1 hq=>?_)
 obtain⟨rfl,rfl⟩:=hq
 simp only[ae]
 refine .al 102 (.int .i64 2) rfl (by rw[Ko]) ?_
 refine .go fds 4 ?_
 refine .on (t:=105) rfl rfl ?_
 refine .fn rfl rfl (.cons .p0 (.cons .p1 (.cons .p1 .nil))) ah (sg db mb d2 s2 lp.cR lp.ok) (fun v G1 hq=>?_)
 obtain⟨rfl,rfl⟩:=hq
 simp only[ag,ae]
 have z1:=lp.sync
 have Rm:=CR.sync lp
 have Rn:=K4 s2.l d2
 generalize sync s2.l d2=d3 at z1 Rm Rn⊢
 refine .go fds 4 ?_
 refine .on (t:=110) rfl rfl ?_
 have CU:=iy z1
 have TJ:=z1.Bo
 have TK:=z1.size
 have TL:=z1.len
 have Jx:=z1.Nl
 have Rg:=z1.N7
 have TN:s2.l.start=0:=by rw[jw.app.start,I6.app.start];exact mo.start
 have Lm:∃b∈s2.l.all,b.base=((1:Nat):Int):=⟨fQ 2 7 0 1 1 1,by rw[Rl];exact .tail _ (.head _),rfl⟩
 refine .fn rfl rfl .ez (af.pick .p3 k) (mc db mb d3 s2 1 z1.cR z1.ok z1.nm z1.es z1.j5.tocC (by omega) (by unfold bg at Jx;rw[List.length_map]at Jx;omega) (by omega) (by omega) (.inr Lm) (by omega) (by omega)) (fun v G1 hq=>?_)
 obtain⟨s3,d4,rfl,hD,rfl⟩:=hq
 simp only[ag,ae]
 have yt:=z1.del (by decide) hD Lm ⟨by decide,by decide⟩ (.inr ⟨by decide,by decide,by decide⟩)
 have Lo:=Rm.del z1 hD Lm (by omega) ⟨by decide,by decide⟩ (.inr ⟨by decide,by decide,by decide⟩)
 have Od:=Rn.del z1 hD ⟨by decide,by decide⟩
 have TO:=yt.len
 refine .ax fds 8 ?_
 refine .lq (aB none (([]:List Int).flatMap rJ)) (fun _=>.inl rfl) ?_
 refine .fn rfl rfl (.cons .p2 (.cons .p2 (.cons .p0 .nil))) ah (ye db mb d4 _ none [] 0 yt.cR yt.short.all (by omega) rfl (Nat.le_refl _) eG (by decide)) (fun v G1 hq=>?_)
 obtain⟨e,hC,rfl⟩:=hq
 simp only[ag,ae]
 have Kj:e.fs.length=d4.fs.length:=by have:=congrArg List.length hC.keys;rwa[List.length_map,List.length_map]at this
 have Qb:dJ e:=fun n hn=>yt.short n (by rw[←hC.get];exact hn)
 refine .ax fds 4 ?_
 refine .fn rfl rfl .cV (af.pick .p4 k) (nJ db mb e [112] 256 s3.c.es (cx (bg s2.t.m)) (fun l d'=>oY s3 d4 l d'∧l.all=s3.l.all∧l.next=s3.l.next) (CK db mb 256 yt Lo Od hC ⟨by decide,by decide⟩ (by decide) (by decide) (fun L z w hF=>F9 db mb e [112] 256 L z w hC.cR FK Qb.all (by omega) (by decide) (by decide) hF)) (fun l e2 h=>oL yt Lo h.1 ⟨by decide,by decide⟩ (by decide))) (fun v G1 hq=>?_)
 obtain⟨s4,e2,d5,rfl,BC,Ro,rfl⟩:=hq
 simp only[ag,ae]
 obtain⟨xD,TP⟩:=rW yt Lo (by decide) BC.1 Ro ⟨by decide,by decide⟩ (by decide)
 obtain⟨Rp,Qc⟩:=CO Rl Bt lp.j5.tocC hD BC.2.1 BC.1.start Ro
 refine .ax fds 10 ?_
 refine .rd (.jx Tryz.underlying28 rfl rfl) ?_
 refine .go fds 6 ?_
 refine .on (t:=128) rfl rfl ?_
 refine .fn rfl rfl .nil (SS.cells .p0) (qb db s4) (fun v G1 hq=>?_)
 obtain⟨rfl,rfl⟩:=hq
 simp only[ae]
 refine .on (t:=128) rfl rfl ?_
 refine .fn rfl rfl .nil ((SS.log .p0).mono fun _ h=>h.1) (gD s4.l.lb db (some ⟨s4.l.ai.b,0,none⟩) s4.l.pre s4.l.most s4.l.start s4.l.aJ s4.l.la (s4.l.bX.length+1) s4.l.lc) (fun v G1 hq=>?_)
 obtain⟨rfl,rfl⟩:=hq
 simp only[ae]
 refine .al 131 (.int .i64 1) rfl (congrArg (Value.int .i64) Qc) ?_
 refine .aH fds 6 ?_
 refine .unpack (L:=[an s4.sx (s4.cells db) 80,LG db s4.l,CG db s4.c,TG s4.t]) .p0 ?_
 simp only[ag,ae]
 refine .ax fds 2 ?_
 refine .fn rfl rfl .nil (af.an .p0) (jv db s4) (fun v G1 hq=>?_)
 obtain⟨rfl,rfl⟩:=hq
 simp only[ae]
 refine .fn rfl rfl .q3 ah (uX s4.t 7 0 0 1 xD.j5.tocC ⟨by decide,by decide⟩ ⟨by decide,by decide⟩ ⟨by decide,by decide⟩ ⟨by decide,by decide⟩) (fun v G1 hq=>?_)
 obtain⟨rfl,rfl⟩:=hq
 simp only[ag,ae]
 refine .al 137 (.tuple #[.int .i64 0,.int .i64 0]) rfl (by rw[show ask (bg s4.t.m) 7 0 0 1=(0,0)from by rw[Rp];exact asks.1]) ?_
 refine .aH fds 6 ?_
 refine .pack (L:=[an (s4).sx (St.cells (s4) db) 80,LG db (s4).l,CG db (s4).c,TG (s4).t]) .mG ?_
 refine .ax fds 11 ?_
 refine .on (t:=146) rfl rfl ?_
 have Va:s4.l.next=2:=by rw[BC.2.2];obtain⟨_,h1,_⟩:=hD.del;exact(show s3.l.ai.next=s2.l.ai.next by rw[h1.ai]).trans LB
 have IL:=TP.rX xD (off:=1) (by omega)
 have TQ:=xD.Bo
 have TR:=xD.size
 have TT:=xD.len
 refine .fn rfl rfl .ez (af.pick .p4 k) (vF db mb d5 s4 1 xD.cR xD.ok xD.nm xD.es xD.j5.tocC (by omega) (by omega) (by omega) IL.1 (by omega)) (fun v G1 hq=>?_)
 obtain⟨s5,d6,rfl,Oh,rfl⟩:=hq
 simp only[ag,ae]
 have TU:s5.l.next=1:=by
  obtain⟨e5,h1,_⟩:=Oh.cut
  have h2:=h1.ok.aC
  rw[h1.all,h1.base]at h2
  omega
 have TW:bg s5.t.m=[(7,[n0])]:=by rw[Oh.t,TU,Rp];exact IY.2.2.2
 have TX:gY (bg s5.t.m):=by rw[Oh.t];exact xD.j5.cut _
 refine .aH fds 3 ?_
 refine .al 12 (.pointer (some ⟨s5.sx,0,none⟩)) rfl (by rw[Oh.sx];try rfl) ?_
 refine .go fds 3 ?_
 refine .unpack (L:=[an s5.sx (s5.cells db) 80,LG db s5.l,CG db s5.c,TG s5.t]) .p0 ?_
 simp only[ag,ae]
 refine .ax fds 2 ?_
 refine .fn rfl rfl .nil (af.an .p0) (jv db s5) (fun v G1 hq=>?_)
 obtain⟨rfl,rfl⟩:=hq
 simp only[ae]
 refine .fn rfl rfl .q3 ah (uX s5.t 7 0 1 1 TX.tocC ⟨by decide,by decide⟩ ⟨by decide,by decide⟩ ⟨by decide,by decide⟩ ⟨by decide,by decide⟩) (fun v G1 hq=>?_)
 obtain⟨rfl,rfl⟩:=hq
 simp only[ag,ae]
 refine .al 154 (.tuple #[.int .i64 (-1),.int .i64 0]) rfl (by rw[show ask (bg s5.t.m) 7 0 1 1=(-1,0)from by rw[TW];exact asks.2.1]) ?_
 refine .aH fds 6 ?_
 refine .pack (L:=[an (s5).sx (St.cells (s5) db) 80,LG db (s5).l,CG db (s5).c,TG (s5).t]) .mG ?_
 refine .go fds 10 ?_
 refine .aF Tryz.func7 (.t1 rfl) .q7 ?_
 exact⟨[],⟨rfl,rfl⟩,rfl⟩
theorem vH(ta:Option Addr)(ts:List Ty)(tc:Nat)(o6:∀y∈ts,y.ok)(oS:ts.length≤140737488351232):Cn Tryz.prog 3 [.slice ta ts.length tc] (fun _=>True) [bM (fun w=>LV w∧aB ta (ts.flatMap Ty.cells) w∧∀y∈ts,aB y.ka (y.kl.flatMap rJ) w)] fun v G=>v=.bool true∧G=[]:=by
 refine .en Tryz.func3 fun R k=>?_
 refine .ax fds 6 ?_
 refine .fn rfl rfl .nil ((af.bM .p0).mono fun _ h=>h.1) (Ga) (fun v G1 hq=>?_)
 obtain⟨rfl,rfl⟩:=hq
 simp only[ae]
 refine .ax fds 4 ?_
 refine .fn rfl rfl .nil ah (EQ 1000000 (by decide) (by decide)) (fun v G1 hq=>?_)
 obtain⟨db,mb,rfl,rfl⟩:=hq
 simp only[ag,ae]
 refine .ax fds 13 ?_
 refine .on (t:=23) rfl rfl ?_
 refine .rd (.jx Tryz.underlying24 rfl rfl) ?_
 refine .ax fds 11 ?_
 refine .fn rfl rfl .cV ((af.bM .p0).mono fun _ h=>h.1) (nJ db mb (Dk.mk 1000000 []) [112] 300 [] [] (fun l d'=>dG [112] 300 (Dk.mk 1000000 []) l d') (xL db mb (Dk.mk 1000000 []) [112] 300 (FL (by decide)) FK (oJ _) (Nat.zero_lt_succ _) (xX _ _) (by decide) (by decide)) (fun l e h=>tQ (.inl h) (by decide))) (fun v G1 hq=>?_)
 obtain⟨s0,e0,d0,rfl,P7,Nv,rfl⟩:=hq
 simp only[ag,ae]
 obtain⟨mh,mo⟩:=tR P7 (by decide) Nv
 obtain⟨Ac,Og,NE⟩:=bD mh mo
 have P8:=By (z:=0) (m:=0) (e:=d0) mo Og NE
 refine .ax fds 10 ?_
 refine .rd (.jx Tryz.underlying28 rfl rfl) ?_
 refine .aH fds 13 ?_
 refine .loop (σ:=Nat×St×Dk×Tm) (fun⟨i,s,d,D⟩=>i≤ts.length∧i≤60∧bw 1000000 i (2*i) 1 s d∧dX D s d) (fun⟨i,s,d,D⟩=>ts.length-i) (fun⟨i,s,d,D⟩=>[(0,.slice ta ts.length tc),(4,.pointer (some ⟨db,0,none⟩)),(6,.pointer (some ⟨s.sx,0,none⟩)),(7,.int .i64 (i:Nat))]) (fun⟨i,s,d,D⟩=>[SS db s,an db (d.cells mb) 74,mp aY Fl.val mb d.fs,bM (fun w=>LV w∧aB ta (ts.flatMap Ty.cells) w∧∀y∈ts,aB y.ka (y.kl.flatMap rJ) w),R]) (0,s0,d0,[]) ⟨Nat.zero_le _,by decide,mh.mono (Nat.le_refl _) (Nat.le_refl _) (by decide),P8⟩ .r4 .qx (fun s' hI ih=>?_)
 obtain⟨i,s,d,D⟩:=s'
 dsimp only at hI ih⊢
 obtain⟨mj,TY,hB,hO⟩:=hI
 refine .ax fds 3 ?_
 refine aZ.join 9 49 (decide (i<ts.length∧i<60)) ?_ ?_
 ·
  refine .go fds 2 ?_
  refine .rd (.bK rfl rfl Tryz.underlying22 rfl) ?_
  refine .go fds 2 ?_
  refine .split (t:=46) rfl (fun g9=>?_) (fun g9=>?_)
  ·
   replace g9:=of_decide_eq_true g9
   refine .go fds 3 ?_
   refine .nil ⟨rfl,?_,by repeat (first|exact Le.refl _|refine Le.skip rfl ?_)⟩
   exact congrArg (fun x=>some (Value.bool x)) (decide_eq_decide.2 (by omega))
  ·
   replace g9:=of_decide_eq_false g9
   refine .go fds 3 ?_
   refine .nil ⟨rfl,?_,by repeat (first|exact Le.refl _|refine Le.skip rfl ?_)⟩
   exact congrArg (fun x=>some (Value.bool x)) ((decide_eq_false (by omega)).symm)
 refine .nil ?_
 refine .aL rfl (fun c9=>?_) (fun c9=>?_)
 ·
  refine .go fds 4 ?_
  obtain⟨y,hy⟩:∃y,ts[i]?=some y:=⟨_,List.getElem?_eq_getElem (by omega)⟩
  have Rq:=List.mem_of_getElem? hy
  have zZ:=o6 y Rq
  have q1:=gz (c:=y.pid) (n:=3) (by decide)
  have q2:=gA (c:=y.pid) (n:=3) (by decide)
  have q3:=gz (c:=y.ep) (n:=3) (by decide)
  have q4:=gA (c:=y.ep) (n:=3) (by decide)
  have q5:=gz (c:=y.seq) (n:=12) (by decide)
  have q6:=gA (c:=y.seq) (n:=12) (by decide)
  have q7:=gz (c:=y.n) (n:=3) (by decide)
  have q8:=gA (c:=y.n) (n:=3) (by decide)
  obtain⟨m,hm⟩:∃m:Nat,(m:Int)=1+aV y.n 3:=⟨(1+aV y.n 3).toNat,by omega⟩
  have Ac:=hB.sX
  have lD:=hB.next
  have hS:kH 1 (1+aV y.pid 3) (aV y.ep 3) (aV y.seq 12) m s.l.next:=⟨by decide,by omega,by omega,by omega,by omega,by omega⟩
  have Rf:Ty.ok ({y with pid:=1+aV y.pid 3,ep:=aV y.ep 3,seq:=aV y.seq 12,n:=1+aV y.n 3}:Ty):=⟨by show i64 (1+aV y.pid 3);unfold i64;omega,by show i64 (aV y.ep 3);unfold i64;omega,by show i64 (aV y.seq 12);unfold i64;omega,by show i64 (1+aV y.n 3);unfold i64;omega,zZ.th,zZ.at_,zZ.kl⟩
  refine .tell (φ:=∃b o,ta=some ⟨b,o,none⟩) ((af.bM .p3).mono fun _ h=>aB.addr h.2.1 (by rw[ar Ty.bV];omega)) (fun hh=>?_)
  obtain⟨TZ,T0,Rr⟩:=hh
  refine .ax fds 3 ?_
  refine .rd (.indexAddr (b:=TZ) (o:=T0) Tryz.underlying22 mR (by show some (Value.slice (ta) _ _)=_;rw[Rr]) rfl (by omega) (by omega)) ?_
  refine .rd (.fS wm mR rfl rfl (af.elem (f:=Ty.cells) Ty.bV (by decide) ((af.bM .p3).mono fun _ h=>Rr▸h.2.1) hy)) ?_
  refine .ef (.alloc DE rfl (ay.of rfl)) ?_
  rintro _ _ ⟨b8,rfl,rfl⟩
  refine .cU (.storeAll (vs:=y.cells) mR rfl rfl rfl .p0 rfl (ay.of rfl)) ?_
  rintro _ _ rfl
  refine .ax fds 4 ?_
  refine .rd (.ld aj rfl .p0 rfl) ?_
  refine .fn rfl rfl .nil ah (gr y.pid 3 zZ.pid (by decide)) (fun v G1 hq=>?_)
  obtain⟨rfl,rfl⟩:=hq
  simp only[ae]
  refine .rd (.add rfl rfl (by omega) (by omega)) ?_
  refine .rd (.fieldAddr DG rfl) ?_
  refine .cU (.store bQ rfl rfl .p0 rfl aQ) ?_
  rintro _ _ rfl
  refine .ca (an b8 (Ty.cells ({y with pid:=1+aV y.pid 3}:Ty)) 33) (rfl) ?_
  refine .ax fds 4 ?_
  refine .rd (.ld aj rfl .p0 rfl) ?_
  refine .fn rfl rfl .nil ah (gr y.ep 3 zZ.ep (by decide)) (fun v G1 hq=>?_)
  obtain⟨rfl,rfl⟩:=hq
  simp only[ae]
  refine .rd (.fieldAddr DH rfl) ?_
  refine .cU (.store bQ rfl rfl .p0 rfl aQ) ?_
  rintro _ _ rfl
  refine .ca (an b8 (Ty.cells ({y with pid:=1+aV y.pid 3,ep:=aV y.ep 3}:Ty)) 33) (rfl) ?_
  refine .ax fds 4 ?_
  refine .rd (.ld aj rfl .p0 rfl) ?_
  refine .fn rfl rfl .nil ah (gr y.seq 12 zZ.seq (by decide)) (fun v G1 hq=>?_)
  obtain⟨rfl,rfl⟩:=hq
  simp only[ae]
  refine .rd (.fieldAddr wo rfl) ?_
  refine .cU (.store bQ rfl rfl .p0 rfl aQ) ?_
  rintro _ _ rfl
  refine .ca (an b8 (Ty.cells ({y with pid:=1+aV y.pid 3,ep:=aV y.ep 3,seq:=aV y.seq 12}:Ty)) 33) (rfl) ?_
  refine .ax fds 4 ?_
  refine .rd (.ld aj rfl .p0 rfl) ?_
  refine .fn rfl rfl .nil ah (gr y.n 3 zZ.n (by decide)) (fun v G1 hq=>?_)
  obtain⟨rfl,rfl⟩:=hq
  simp only[ae]
  refine .rd (.add rfl rfl (by omega) (by omega)) ?_
  refine .rd (.fieldAddr wq rfl) ?_
  refine .cU (.store bQ rfl rfl .p0 rfl aQ) ?_
  rintro _ _ rfl
  refine .ca (an b8 (Ty.cells ({y with pid:=1+aV y.pid 3,ep:=aV y.ep 3,seq:=aV y.seq 12,n:=1+aV y.n 3}:Ty)) 33) (rfl) ?_
  refine .aH fds 2 ?_
  refine .unpack (L:=[an s.sx (s.cells db) 80,LG db s.l,CG db s.c,TG s.t]) .p1 ?_
  simp only[ag,ae]
  refine .dr [3,5,7,9] [an b8 (Ty.cells ({y with pid:=1+aV y.pid 3,ep:=aV y.ep 3,seq:=aV y.seq 12,n:=1+aV y.n 3}:Ty)) 33] ?_
  refine .aq fds [0] ?_
  refine .aq fds [2] ?_
  refine .re 3 rfl (.ld aj rfl .p0 rfl) .q4 ?_
  refine .aq fds [4] ?_
  refine .re 5 rfl (.ld aj rfl .p0 rfl) .q4 ?_
  refine .aq fds [6] ?_
  refine .re 7 rfl (.ld aj rfl .p0 rfl) .q4 ?_
  refine .aq fds [8] ?_
  refine .re 9 rfl (.ld aj rfl .p0 rfl) .q4 ?_
  refine .al 84 (.int .i64 (m:Nat)) rfl (congrArg (Value.int .i64) hm.symm) ?_
  refine .eg 1 rfl (.fn rfl rfl .nil (af.an .p0) (jv db s)) ?_
  rintro v _ ⟨G1,hq,rfl⟩
  obtain⟨rfl,rfl⟩:=hq
  simp only[ae]
  refine⟨.inr ⟨_,.q4⟩,?_⟩
  refine .eg 10 rfl (.fn rfl rfl .q3 ah (uX s.t (1+aV y.pid 3) (aV y.ep 3) (aV y.seq 12) (m:Int) hB.j5.tocC (by unfold i64;omega) (by unfold i64;omega) (by unfold i64;omega) (by unfold i64;omega))) ?_
  rintro v _ ⟨G1,hq,rfl⟩
  obtain⟨rfl,rfl⟩:=hq
  simp only[ag,ae]
  refine aA ?_
  refine .aq fds [11] ?_
  refine .aq fds [12] ?_
  refine .aq fds [13] ?_
  refine .aq fds [14] ?_
  refine .aq fds [15] ?_
  refine .dn ?_
  refine .pack (L:=[an (s).sx (St.cells (s) db) 80,LG db (s).l,CG db (s).c,TG (s).t]) .mG ?_
  refine .ax fds 3 ?_
  refine aZ.join 17 93 (decide ((ask (bg s.t.m) (1+aV y.pid 3) (aV y.ep 3) (aV y.seq 12) (m:Int)).2=0∧(ask (bg s.t.m) (1+aV y.pid 3) (aV y.ep 3) (aV y.seq 12) (m:Int)).1<0)) ?_ ?_
  ·
   refine .go fds 3 ?_
   refine .split (t:=90) rfl (fun g17=>?_) (fun g17=>?_)
   ·
    replace g17:=of_decide_eq_true g17
    refine .go fds 3 ?_
    refine .nil ⟨rfl,?_,by repeat (first|exact Le.refl _|refine Le.skip rfl ?_)⟩
    exact congrArg (fun x=>some (Value.bool x)) (decide_eq_decide.2 (by omega))
   ·
    replace g17:=of_decide_eq_false g17
    refine .go fds 3 ?_
    refine .nil ⟨rfl,?_,by repeat (first|exact Le.refl _|refine Le.skip rfl ?_)⟩
    exact congrArg (fun x=>some (Value.bool x)) ((decide_eq_false (by omega)).symm)
  refine .nil ?_
  refine .lI (σ:=St×Dk) (φ:=fun⟨s1,d1⟩=>bw 1000000 (i+1) (2*i) 1 s1 d1∧dX D s1 d1) (E':=fun⟨s1,d1⟩=>[(0,.slice ta ts.length tc),(4,.pointer (some ⟨db,0,none⟩)),(6,.pointer (some ⟨s1.sx,0,none⟩)),(7,.int .i64 (i:Nat)),(8,.pointer (some ⟨b8,0,none⟩))]) (aI:=fun⟨s1,d1⟩=>[SS db s1,an db (d1.cells mb) 74,mp aY Fl.val mb d1.fs,an b8 (Ty.cells ({y with pid:=1+aV y.pid 3,ep:=aV y.ep 3,seq:=aV y.seq 12,n:=1+aV y.n 3}:Ty)) 33,bM (fun w=>LV w∧aB ta (ts.flatMap Ty.cells) w∧∀y∈ts,aB y.ka (y.kl.flatMap rJ) w),R]) (fun sj hj=>?_) (fun fin=>?_)
  ·
   obtain⟨s1,d1⟩:=sj
   obtain⟨Rs,Rt⟩:=hj
   dsimp only at Rs Rt⊢
   refine .ax fds 3 ?_
   refine .rd (.jy wm mR rfl .p3 rfl) ?_
   refine .fn rfl rfl .ez ((af.bM .p1).mono fun _ h=>h.1) (then_ok db mb d1 s1 ({y with pid:=1+aV y.pid 3,ep:=aV y.ep 3,seq:=aV y.seq 12,n:=1+aV y.n 3}:Ty) Rs Rt Rf ⟨by omega,by omega⟩ (by decide) (by decide)) (fun v G1 hq=>?_)
   obtain⟨s2,d2,D2,rfl,Qd,Jy,Oi,rfl⟩:=hq
   simp only[ag,ae]
   refine .aH fds 2 ?_
   refine .al 6 (.pointer (some ⟨s2.sx,0,none⟩)) rfl (by rw[Qd];try rfl) ?_
   refine .ax fds 12 ?_
   refine .rd (.ld aj rfl .p3 rfl) ?_
   refine .fn rfl rfl .nil ah (gr y.th 9 zZ.th (by decide)) (fun v G1 hq=>?_)
   obtain⟨rfl,rfl⟩:=hq
   simp only[ae]
   refine .aH fds 2 ?_
   refine .lI (σ:=St×Dk×Tm) (φ:=fun⟨s4,d4,D4⟩=>bw 1000000 (i+1) (2*(i+1)) 1 s4 d4∧dX D4 s4 d4) (E':=fun⟨s4,d4,D4⟩=>[(0,.slice ta ts.length tc),(4,.pointer (some ⟨db,0,none⟩)),(6,.pointer (some ⟨s4.sx,0,none⟩)),(7,.int .i64 (i:Nat))]) (aI:=fun⟨s4,d4,D4⟩=>[SS db s4,an db (d4.cells mb) 74,mp aY Fl.val mb d4.fs,bM (fun w=>LV w∧aB ta (ts.flatMap Ty.cells) w∧∀y∈ts,aB y.ka (y.kl.flatMap rJ) w),R]) (fun sj hj=>?_) (fun fin=>?_)
   ·
    obtain⟨s4,d4,D4⟩:=sj
    obtain⟨LN,Oj⟩:=hj
    dsimp only at LN Oj⊢
    refine .ax fds 3 ?_
    refine .fn rfl rfl .nil (SS.cells .p0) (qb db s4) (fun v G1 hq=>?_)
    obtain⟨rfl,rfl⟩:=hq
    simp only[ae]
    refine .fn rfl rfl .pu (SS.log .p0) (vG db mb d4 s4.l LN.ok (by have:=LN.all;omega)) (fun v G1 hq=>?_)
    obtain⟨bl,T3,T4,vM,rfl,rfl⟩:=hq
    simp only[ag,ae]
    have CN:bl.map (·.1)=s4.l.e7:=vM
    have P0:bl.length≤100000:=by have h1:=congrArg List.length CN;rw[List.length_map]at h1;have h2:=jj s4.l.start s4.l.all;have h3:=LN.all;rw[h1];unfold Lx.e7;omega
    refine .fn rfl rfl .nil (af.arr .p2) (F2 T3 T4 bl (by omega) (by rw[CN];exact Oj.PX LN) (by rw[CN];exact fun b hb=>Oj.lQ b (dH.1 hb).1)) (fun v G1 hq=>?_)
    obtain⟨rfl,rfl⟩:=hq
    simp only[ae]
    refine .ax fds 12 ?_
    refine .rd (.add rfl rfl (by omega) (by omega)) ?_
    refine .aH fds 2 ?_
    exact(ih (i+1,s4,d4,D4) ⟨by show i+1≤_;omega,by show i+1≤_;omega,LN,Oj⟩ (by show ts.length-(i+1)<ts.length-i;omega)).to .r4 (.cons .p4 (.cons .p0 (.cons .p0 (.cons .p2 (.cons .p2 .nil)))))
   ·
    refine .aL rfl (fun T5=>?_) (fun T5=>?_)
    ·
     refine .seq ?_
     refine .dup .p4 ?_
     refine .qq (aB y.ka (y.kl.flatMap rJ)) .p0 (fun w h=>h.2.2 y Rq) ?_
     have PT:=Jy.len
     refine .ax fds 3 ?_
     refine .rd (.ld iT rfl .p5 rfl) ?_
     refine .fn rfl rfl (.cons .p3 (.cons .p3 (.cons .p0 .nil))) ah (ye db mb d2 _ y.ka y.kl y.kc Jy.cR Jy.short.all (by omega) rfl zZ.kl.1 zZ.kl.2.1 zZ.kl.2.2) (fun v G1 hq=>?_)
     obtain⟨e,hC,rfl⟩:=hq
     simp only[ag,ae]
     have Kj:e.fs.length=d2.fs.length:=by have:=congrArg List.length hC.keys;rwa[List.length_map,List.length_map]at this
     have Qb:dJ e:=fun n hn=>Jy.short n (by rw[←hC.get];exact hn)
     refine .ax fds 4 ?_
     refine .fn rfl rfl .cV ((af.bM .p0).mono fun _ h=>h.1) (nJ db mb e [112] 300 s2.c.es D2 (fun l d'=>oY s2 d2 l d') (zY db mb 300 Jy Oi hC ⟨by omega,by omega⟩ (fun L z w hF=>yf db mb e [112] 300 L z w hC.cR FK Qb.all (by omega) (by decide) (by decide) hF)) (fun l e2 h=>oL Jy Oi h ⟨by omega,by omega⟩ (by decide))) (fun v G1 hq=>?_)
     obtain⟨s3,e3,d3,rfl,T6,T7,rfl⟩:=hq
     simp only[ag,ae]
     obtain⟨T8,T9⟩:=rW Jy Oi (by decide) T6 T7 ⟨by omega,by omega⟩ (by decide)
     refine .ax fds 9 ?_
     refine .rd (.jx Tryz.underlying28 rfl rfl) ?_
     refine .aH fds 7 ?_
     exact fin (s3,d3,D2) ⟨T8,T9⟩ .r4 (.cons .p0 (.cons .p0 (.cons .p0 (.cons .p0 (.cons .p2 .nil)))))
    ·
     refine .skip ?_
     exact fin (s2,d2,D2) ⟨Jy.mono (Nat.le_refl _) (by omega) (Int.le_refl _),Oi⟩ .r4 (.cons .p0 (.cons .p0 (.cons .p0 (.cons .p1 (.cons .p1 .nil)))))
  ·
   refine .aL rfl (fun P6=>?_) (fun P6=>?_)
   ·
    have hk:(ask (bg s.t.m) (1+aV y.pid 3) (aV y.ep 3) (aV y.seq 12) (m:Int)).2=0∧(ask (bg s.t.m) (1+aV y.pid 3) (aV y.ep 3) (aV y.seq 12) (m:Int)).1<0:=by omega
    refine .ax fds 3 ?_
    refine .rd (.ld aj rfl .p1 rfl) ?_
    refine .rd (.fieldAddr wo rfl) ?_
    refine .rd (.ld aj rfl .p1 rfl) ?_
    refine .rd (.fieldAddr wq rfl) ?_
    refine .rd (.ld aj rfl .p1 rfl) ?_
    refine .al 99 (.int .i64 (m:Nat)) rfl (congrArg (Value.int .i64) hm.symm) ?_
    refine .fn rfl rfl .nil ah (nK 1 (1+aV y.pid 3) (aV y.seq 12) m (by omega)) (fun v G1 hq=>?_)
    obtain⟨ra,rc,rfl,rfl⟩:=hq
    simp only[ag,ae]
    refine .ef (.alloc cX rfl (ay.of rfl)) ?_
    rintro _ _ ⟨O7,rfl,rfl⟩
    refine .cU (.storeAll (vs:=(fQ 1 (1+aV y.pid 3) 0 (aV y.seq 12) m 0).cells ra rc) aM rfl rfl rfl .p0 rfl (ay.of rfl)) ?_
    rintro _ _ rfl
    refine .ax fds 4 ?_
    refine .rd (.ld aj rfl .p3 rfl) ?_
    refine .rd (.fieldAddr DD rfl) ?_
    refine .cU (.store bQ rfl rfl .p0 rfl aQ) ?_
    rintro _ _ rfl
    refine .ca (an O7 ((fQ 1 (1+aV y.pid 3) (aV y.ep 3) (aV y.seq 12) m 0).cells ra rc) 41) (rfl) ?_
    refine .ax fds 4 ?_
    refine .rd (.jy bh aM rfl .p0 rfl) ?_
    have cP:=hB.late (e:=1) hk.1 hk.2 (by omega)
    have hq:=hS.enc
    have zO:=hB.Bo
    have jz:=hB.size
    have Nq:=hB.au
    have FP:=hB.len
    have Ua:=hB.Fy
    refine .fn rfl rfl .yN (((af.bM .p3).mono fun _ h=>h.1).and (af.arr .p1)) (me db mb d s (fQ 1 (1+aV y.pid 3) (aV y.ep 3) (aV y.seq 12) m 0) ra rc hB.cR hB.ok hB.own hB.nm hB.es hB.eM (by omega) hB.j5.tocC (by omega) (by omega) (by omega) hS.aT hS.ep hB.last (by show 0<1+aV y.pid 3;omega) cP (by show d.used+8040+(enc (fQ 1 (1+aV y.pid 3) (aV y.ep 3) (aV y.seq 12) m s.l.next)).length≤_;omega)) (fun v G1 hq=>?_)
    obtain⟨s',d',rfl,Ub,rfl⟩:=hq
    simp only[ag,ae]
    have hA:lY s d (fQ 1 (1+aV y.pid 3) (aV y.ep 3) (aV y.seq 12) m s.l.next) s' d':=Ub
    have Uc:=hB.zN hA hS (Int.le_refl _) (by omega) (by omega) cP ⟨by omega,by omega⟩ (by decide)
    have Oc:=hO.zN hB hA hS (Int.le_refl _) (by omega) cP ⟨by omega,by omega⟩ (by decide)
    refine .aH fds 6 ?_
    refine .al 6 (.pointer (some ⟨s'.sx,0,none⟩)) rfl (by rw[hA.sx];try rfl) ?_
    refine .go fds 7 ?_
    exact fin (s',d') ⟨Uc,Oc⟩ .r5 (.cons .p0 (.cons .p0 (.cons .p0 (.cons .p2 (.cons .p2 (.cons .p2 .nil))))))
   ·
    refine .skip ?_
    exact fin (s,d) ⟨hB.mono (Nat.le_succ _) (Nat.le_refl _) (Int.le_refl _),hO⟩ .r5 (.cons .p0 (.cons .p1 (.cons .p1 (.cons .p0 (.cons .p0 (.cons .p0 .nil))))))
 ·
  refine .go fds 5 ?_
  refine .aF Tryz.func3 (.t1 rfl) .q4 ?_
  exact⟨[],⟨rfl,rfl⟩,rfl⟩
open Go Go.Sp Go.RowKit
theorem NG{W:World}(h:laidMetH Tryz.prog Go.Proofs.YtoglbebcdjdkiaaGreatDoor.Rows.storeOnceRow.laid W)(hs:W.ShapedOpen Tryz.prog):LV W:=by
 have hl:laidMet Tryz.prog Go.Proofs.YtoglbebcdjdkiaaGreatDoor.Rows.storeOnceRow.laid W:=by
  rw[←MakeChecks.laidMetH_plain _ _ _ (by kernel_rfl)];exact h
 have h2:=hl.tail.tail
 refine⟨?_,?_⟩
 ·
  exact Go.Proofs.cell_of_shapedOpen_int (g:=2) (zero:=#[.int .i64 0]) (t:=3) hs (of_decide_eq_true (by kernel_rfl)) (by kernel_rfl) rfl (by kernel_rfl) (by kernel_rfl) Tryz.underlying3
 ·
  exact Lib.tabIs_of_head (g:=5) (t:=273) (e:=192) (n:=20) (by kernel_rfl) (by kernel_rfl) (by kernel_rfl) (by kernel_rfl) (by kernel_rfl) (by kernel_rfl) (rest:=_) (by
   have e:(Go.Proofs.YtoglbebcdjdkiaaGreatDoor.Rows.laid_internal_strconv_uint64pow10:DataW Unit)=Lib.tabData .u64 Lib.pow10Tab:=by kernel_rfl
   exact e▸h2)
theorem LV.later{W w:World}(H:∀(b:Nat) (o:Obj),W.heap[b]?=some o→w.heap[b]?=some o)(h:LV W):LV w:=by
 have hc:∀b off v,W.cell? ⟨b,off,none⟩=some v→w.cell? ⟨b,off,none⟩=some v:=fun b off v h1=>by
  unfold World.cell? at h1⊢
  cases hb:W.heap[b]? with
  |none=>simp[hb]at h1
  |some ob=>rw[hb]at h1;rw[H b ob hb];exact h1
 obtain⟨⟨m,h0⟩,h3⟩:=h
 refine⟨⟨m,hc _ _ _ h0⟩,?_⟩
 unfold Lib.TabIs World.var? at h3⊢
 cases hg:Tryz.prog.globalNamed A4 with
 |none=>simp[hg]at h3
 |some g=>
  rw[hg]at h3
  simp only[Option.bind_some]at h3⊢
  cases hb:W.heap[g]? with
  |none=>simp[hb]at h3
  |some ob=>rw[hb]at h3;rw[H g ob hb];exact h3
theorem Ln{n:Int}(h:(Lit.int .i64 n).wf=true):i64 n:=by simpa[i64,Lit.wf,IntKind.min,IntKind.max,IntKind.signed,IntKind.bits]using h
theorem Rd.num{H:Type}{enc:TypeId×Value→H}{P:Program}{W:World}{spare:Nat→Bool}{held:Bool}{t}(ht:P.underlying t=some (.int .i64)):Rd enc P W spare held t (fun n:Int=>[.int .i64 n]) i64:=fun n cs x h hf=>by
 obtain⟨m,e,hm⟩:=Rd.int ht n cs x h hf
 exact⟨m,e,Ln hm⟩
theorem Ty.z6(y:Ty):ay y.cells:=.of rfl
theorem NH{H:Type}{enc:TypeId×Value→H}{W:World}{spare:Nat→Bool}{held:Bool}:Rd enc Tryz.prog W spare held 33 Ty.cells (fun y=>aB y.ka (y.kl.flatMap rJ) W∧y.ok):=by
 intro n cs x h hf
 have hl:cs.length=7:=(Rd.BP Tryz.underlying33 h).trans (by kernel_rfl)
 obtain⟨c0,Vb,rfl,Mr⟩:=ec hl
 obtain⟨c1,Vc,rfl,Ud⟩:=ec Mr
 obtain⟨c2,Vd,rfl,Ko⟩:=ec Ud
 obtain⟨c3,Ve,rfl,Ue⟩:=ec Ko
 obtain⟨c4,Vf,rfl,Uf⟩:=ec Ue
 obtain⟨c5,Vg,rfl,Ug⟩:=ec Uf
 obtain⟨c6,Uh,rfl,Ui⟩:=ec Ug
 obtain rfl:Uh=[]:=List.eq_nil_of_length_eq_zero Ui
 obtain⟨f0,e0,w0⟩:=Rd.field Tryz.underlying33 h hf 0 0 1 rfl (by kernel_rfl) (Rd.num Tryz.underlying3)
 simp only[List.drop_zero,List.take_succ_cons,List.take_zero,List.cons.injEq,and_true]at e0
 obtain⟨f1,e1,w1⟩:=Rd.field Tryz.underlying33 h hf 1 1 1 rfl (by kernel_rfl) (Rd.num Tryz.underlying3)
 simp only[List.drop_succ_cons,List.drop_zero,List.take_succ_cons,List.take_zero,List.cons.injEq,and_true]at e1
 obtain⟨f2,e2,w2⟩:=Rd.field Tryz.underlying33 h hf 2 2 1 rfl (by kernel_rfl) (Rd.num Tryz.underlying3)
 simp only[List.drop_succ_cons,List.drop_zero,List.take_succ_cons,List.take_zero,List.cons.injEq,and_true]at e2
 obtain⟨f3,e3,w3⟩:=Rd.field Tryz.underlying33 h hf 3 3 1 rfl (by kernel_rfl) (Rd.num Tryz.underlying3)
 simp only[List.drop_succ_cons,List.drop_zero,List.take_succ_cons,List.take_zero,List.cons.injEq,and_true]at e3
 obtain⟨f4,e4,w4⟩:=Rd.field Tryz.underlying33 h hf 4 4 1 rfl (by kernel_rfl) (Rd.num Tryz.underlying3)
 simp only[List.drop_succ_cons,List.drop_zero,List.take_succ_cons,List.take_zero,List.cons.injEq,and_true]at e4
 obtain⟨f5,e5,w5⟩:=Rd.field Tryz.underlying33 h hf 5 5 1 rfl (by kernel_rfl) (Rd.num Tryz.underlying3)
 simp only[List.drop_succ_cons,List.drop_zero,List.take_succ_cons,List.take_zero,List.cons.injEq,and_true]at e5
 obtain⟨⟨ka,kc,kl⟩,e6,hr,hg,hb,_,hc⟩:=Rd.field Tryz.underlying33 h hf 6 6 1 rfl (by kernel_rfl) (Rd.slice (s:=1) (o7:=8) Tryz.underlying31 (by kernel_rfl) (by decide) (by kernel_rfl) vr FB (Rd.num Tryz.underlying3))
 simp only[List.drop_succ_cons,List.drop_zero,List.take_succ_cons,List.take_zero,List.cons.injEq,and_true]at e6
 subst e0
 subst e1
 subst e2
 subst e3
 subst e4
 subst e5
 subst e6
 exact⟨⟨f0,f1,f2,f3,f4,f5,ka,kl,kc⟩,rfl,hr,⟨w0,w1,w2,w3,w4,w5,hc,hg,Nat.le_trans (Nat.le_mul_of_pos_right _ (by decide)) hb⟩⟩
end Go.Proofs.YtoglbebcdjdkiaaGreatDoor