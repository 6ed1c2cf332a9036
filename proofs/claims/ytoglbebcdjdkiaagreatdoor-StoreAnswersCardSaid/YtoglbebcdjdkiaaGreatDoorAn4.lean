/- Part 4 of a claim's texts: rules for the machine's steps, and steps through functions of the program, under the conditions that each theorem states. -/
import Derived.Test.YtoglbebcdjdkiaaGreatDoorProg
import Derived.LaidLaws
import Derived.Lib.LaidTab
import Derived.Stop.LaidErr
import Derived.MakeChecks
import Derived.Shelf.Vars
import Derived.FnData
import Derived.KernelRfl
import Derived.Test.YtoglbebcdjdkiaaGreatDoorAn3
set_option linter.unusedVariables false
set_option maxRecDepth 20000
set_option maxHeartbeats 8000000
namespace Go.Proofs.YtoglbebcdjdkiaaGreatDoor
open Go Go.Sp
theorem zS{Z i j E s d e l2 e2}{z w:Nat}(hb:bz Z i j E s d)(hC:ii d e)(hz:s.l.start=(z:Int))(hL:vD s.l.pre e z w l2 e2):oY s d l2 e2:=by
 have cy:l2.all=[]:=by unfold Lx.all Lx.ar;rw[hL.bX];simp[hL.bs]
 have lX:l2.next=(z:Int):=by show aC l2.ai.base l2.ai.bs=_;rw[hL.bs,hL.base];rfl
 have nK:=hb.ok.start
 have S5:z≤1000000000:=by have:=hL.ok.ai.1.ed;rw[hL.base]at this;omega
 have ph:∀n,(e2.get n).isSome=true→(d.get n).isSome=true∨n=nameOf s.l.pre z:=fun n hn=>(hL.names n hn).imp_left fun h=>by rw[←hC.get];exact h
 refine⟨hL.cS,hL.ok,hL.xI,hL.start.trans hz.symm,⟨s.l.all,by rw[cy];rfl⟩,by omega,hL.own,fun t ht=>(by rw[hL.bX]at ht;cases ht),fun n hn=>(ph n hn).imp_right fun h=>⟨z,S5,h⟩,fun n hn=>by rw[(hL.eF n hn).2,hC.get],?_,by rw[hL.size,hC.size],by have:=hL.used;have:=hC.used;omega,?_,fun n h1 h2=>by rw[(hL.eF n h1).1];exact ij (hC.file n) h2,hL.sync⟩
 ·
  have:=ju (e2.fs.map (·.1)) (nameOf s.l.pre z::d.fs.map (·.1)) hL.cS.nodup fun n hn=>by
   rcases ph n (er.2 hn)with h|h
   ·
    exact .tail _ (er.1 h)
   ·
    rw[h];exact .head _
  rw[List.length_cons,List.length_map,List.length_map]at this
  exact this
 ·
  unfold Lx.ar;rw[hL.bX,List.length_append];simp
theorem zT(db mb:Nat){Z i j E D s d e}(most:Int)(hb:bz Z i j E s d)(h:dW D s d)(hC:ii d e)(hi:i≤60∧j≤130)(FY:∀(L:List Piece) (z w:Nat),fO [112] e L z w→Cn Tryz.prog 32 [.pointer (some ⟨db,0,none⟩),aW [112],.int .i64 most] LV [an db (e.cells mb) 74,mp aW Fl.val mb e.fs] fun v G=>∃l e2,v=.tuple #[.pointer (some ⟨l.lb,0,none⟩),.int .i64 0]∧((∃ss,l8 [112] e L z w l ss e2∧∃q,L.getLast?=some q∧(z:Int)≤aC (q.1:Int) q.2.1)∨(vD [112] e z w l e2∧∃q,L.getLast?=some q∧aC (q.1:Int) q.2.1<(z:Int)))∧G=[LG db l,an db (e2.cells mb) 74,mp aW Fl.val mb e2.fs]):Cn Tryz.prog 32 [.pointer (some ⟨db,0,none⟩),aW [112],.int .i64 most] LV [an db (e.cells mb) 74,mp aW Fl.val mb e.fs] fun v G=>∃l d',v=.tuple #[.pointer (some ⟨l.lb,0,none⟩),.int .i64 0]∧oY s d l d'∧G=[LG db l,an db (d'.cells mb) 74,mp aW Fl.val mb d'.fs]:=by
 obtain⟨z,w,a1,a2,a3,a4⟩:=h.num
 have Nq:=hb.ar
 obtain⟨k,rest,_,hk,hF⟩:=nG (m:=0) (z:=z) (w:=w) hb.ok hb.cS hb.own hb.full hC (by omega) a1 ⟨a2,a3⟩ a4 ⟨Nat.zero_le _,by rw[List.take_zero];exact Nat.zero_le _⟩
 have PO:fO [112] e (pieces s.l k rest) z w:=by rw[←hb.pre];exact hF
 refine(FY _ z w PO).mono fun v G hv=>?_
 obtain⟨l,e2,hv,hr,hG⟩:=hv
 refine⟨l,e2,hv,?_,hG⟩
 rw[←hb.pre]at hr
 rcases hr with⟨ss,hO,_⟩|⟨hL,_⟩
 ·
  exact x6 hb hC hk a1 hF hO
 ·
  exact zS hb hC a1 hL
def S6(bs:List aQ):Prop:=bs.Pairwise fun a b=>a.pid=b.pid→a.a7=b.a7→a.seq+(a.aS.length:Int)≤b.seq
theorem CL{t:Tm}{pid ep seq n:Int}(h:0≤(ask t pid ep seq n).1):∃y∈aA t pid,y.ep=ep∧y.seq=seq∧y.n=n∧(ask t pid ep seq n).1=y.off:=by
 by_cases h1:ei pid ep seq n
 ·
  unfold ask at h;rw[if_pos h1]at h;cases h
 by_cases h2:pid=0
 ·
  unfold ask at h;rw[if_neg h1,if_pos h2]at h;cases h
 by_cases h3:1000000-n+1<seq
 ·
  unfold ask at h;rw[if_neg h1,if_neg h2,if_pos h3]at h;cases h
 rw[jc h1 h2 h3]at h⊢
 cases hx:(aY (aA t pid))[0]? with
 |none=>
  have:aY (aA t pid)=[]:=by cases e:aY (aA t pid)with|nil=>rfl|cons a b=>rw[e]at hx;cases hx
  rw[qV (.inl this)]at h;cases h
 |some x=>
  by_cases c1:x.ep<ep
  ·
   rw[qV (.inr ⟨x,hx,c1⟩)]at h;cases h
  by_cases c2:ep<x.ep
  ·
   rw[D1 hx c2]at h;cases h
  cases hf:qU (aY (aA t pid)) ep seq n with
  |none=>
   have hl:=(List.getElem?_eq_some_iff.1 hx).1
   rw[wI hx c1 c2 hf (List.getElem?_eq_getElem (by omega))]at h
   split at h
   ·
    cases h
   ·
    split at h<;>cases h
  |some y=>
   rw[D2 hx c1 c2 hf]
   have Ji:(aY (aA t pid)).find? (fun x=>decide (x.ep=ep∧x.seq=seq∧x.n=n))=some y:=hf
   have h4:y.ep=ep∧y.seq=seq∧y.n=n:=by have:=List.find?_some Ji;exact of_decide_eq_true this
   have h5:=List.mem_of_find?_eq_some hf
   unfold aY at h5
   exact⟨y,List.mem_of_mem_drop h5,h4.1,h4.2.1,h4.2.2,rfl⟩
theorem dW.answer{Z i j E D s d}(hb:bz Z i j E s d)(h:dW D s d){pid seq n:Int}(ha:s.l.start≤(ask (bf s.t.m) pid 0 seq n).1):∃b∈s.l.fN,b.base=(ask (bf s.t.m) pid 0 seq n).1∧b.pid=pid∧b.a7=0∧b.seq=seq∧(b.aS.length:Int)=n:=by
 have h0:=hb.ok.start
 obtain⟨y,hy,e1,e2,e3,e4⟩:=CL (t:=bf s.t.m) (pid:=pid) (ep:=0) (seq:=seq) (n:=n) (by omega)
 obtain⟨S,a1,_,a3⟩:=h.t pid
 rw[a3]at hy
 rcases List.mem_append.1 hy with h1|h1
 ·
  have h2:=dW.FV a1 y h1
  omega
 ·
  unfold vN at h1
  obtain⟨b,gE,rfl⟩:=List.mem_map.1 h1
  obtain⟨kO,vJ⟩:=List.mem_filter.1 gE
  exact⟨b,kO,e4.symm,of_decide_eq_true vJ,e1,e2,e3⟩
theorem F0{bl:List lp}{i k:Nat}{f:Bool}{P:lp→Prop}[DecidablePred P]{x z:lp}(hf:k<i→f=true)(hx:bl[i]?=some x)(hz:bl[k]?=some z)(hp:P z):k<i+1→(f||decide (P x))=true:=fun cO=>by
 by_cases JH:k<i
 ·
  rw[hf JH];rfl
 ·
  obtain rfl:k=i:=by omega
  rw[hx]at hz
  cases hz
  rw[decide_eq_true hp,Bool.or_true]
theorem x8{l:List Nt}(ho:∀x∈l,lq x)(i:Nat):(gL l i).seq≤1000000∧0≤(gL l i).seq∧0≤(gL l i).n∧(gL l i).n≤64:=by
 unfold gL
 cases e:(l.take i).getLast? with
 |none=>exact⟨by decide,by decide,by decide,by decide⟩
 |some x=>
  have:=ho x (List.mem_of_mem_take (List.mem_of_getLast? e))
  have h1:=this.seq;have h2:=this.n
  show x.seq≤_∧0≤x.seq∧0≤x.n∧x.n≤64;omega
theorem iI(rb:Nat)(n:Int)(rest:List UInt8)(hn:i64 n)(hl:(aF n++rest).length≤1000000000):Cn Tryz.prog 72 [.pointer (some ⟨rb,0,none⟩)] (fun _=>True) [an rb [.string (str (aF n++rest)),.bool true] 132] fun v G=>v=.int .i64 n∧G=[an rb [.string (str (rest)),.bool true] 132]:=by
 refine .en Tryz.func72 fun R k=>?_
 have Kn:(aF n++rest).length=(aF n).length+rest.length:=List.length_append
 refine .ax fds 9 ?_
 refine .rd (.ld aR rfl .p0 rfl) ?_
 refine .fn rfl rfl .nil ah (lV (aF n++rest) (by omega)) (fun v G1 hq=>?_)
 obtain⟨rfl,rfl⟩:=hq
 simp only[ae]
 refine .al 11 (.tuple #[.int .i64 n,.int .i64 ((aF n).length:Nat),.int .i64 0]) rfl (by rw[nS hn]) ?_
 refine .ax fds 14 ?_
 refine .rd (.ld gp rfl .p0 rfl) ?_
 refine .go fds 6 ?_
 refine .dc (.store kU rfl rfl .p0 rfl aU) ?_
 rintro _ _ rfl
 refine .ax fds 7 ?_
 refine .rd (.ld aR rfl .p0 rfl) ?_
 refine .rd (.move rfl) ?_
 refine .rd (.cH (l:=aF n++rest) (a:=(aF n).length) (h:=(aF n++rest).length) Tryz.underlying9 rfl ⟨_,rfl⟩ rfl (by omega) (by omega)) ?_
 refine .al 32 (.string (str rest)) rfl (by rw[List.drop_left,List.take_of_length_le (by rw[List.length_append];omega)]) ?_
 refine .go fds 2 ?_
 refine .dc (.store fF rfl rfl .p0 rfl aU) ?_
 rintro _ _ rfl
 refine .aH fds 6 ?_
 refine .aG Tryz.func72 (.t1 rfl) .cU ?_
 exact⟨[_],⟨rfl,rfl⟩,rfl⟩
theorem F1(rb:Nat)(ns:List Nt)(rest:List UInt8)(hc:ns.Pairwise gA)(ho:∀x∈ns,lq x)(hn:ns.length≤10000)(hl:rest.length≤500000000):Cn Tryz.prog 73 [.pointer (some ⟨rb,0,none⟩),.int .i64 (ns.length:Nat)] (fun _=>True) [an rb [.string (str (ns.flatMap jg++rest)),.bool true] 132] fun v G=>∃a c,v=.slice a ns.length c∧G=[an rb [.string (str (rest)),.bool true] 132,arr 97 4 a c (ns.flatMap fQ)]:=by
 refine .en Tryz.func73 fun R k=>?_
 refine .ax fds 10 ?_
 refine .rd (.build rfl (Hf _)) ?_
 refine .ef (.alloc de rfl (aB.of rfl)) ?_
 rintro _ _ ⟨b6,rfl,rfl⟩
 refine .dc (.storeAll (vs:=fQ Qt) bE rfl rfl rfl .p0 rfl (aB.of rfl)) ?_
 rintro _ _ rfl
 refine .nil ?_
 refine .ca (an b6 (fQ (gL ns 0)) 97) (rfl) ?_
 refine .perm .wh ?_
 refine .ca (an rb [.string (str ((ns.drop 0).flatMap jg++rest)),.bool true] 132) (by rw[List.drop_zero]) ?_
 refine .cq 97 4 none ?_
 refine .ca (arr 97 4 none 0 ((ns.take 0).flatMap fQ)) (by rw[List.take_zero];rfl) ?_
 refine .go fds 2 ?_
 refine .loop (σ:=Nat×Option Addr×Nat) (fun⟨i,la,lc⟩=>i≤ns.length) (fun⟨i,la,lc⟩=>ns.length-i) (fun⟨i,la,lc⟩=>[(0,.pointer (some ⟨rb,0,none⟩)),(1,.int .i64 ((ns.length-i:Nat):Int)),(5,.slice la i lc),(6,.pointer (some ⟨b6,0,none⟩))]) (fun⟨i,la,lc⟩=>[arr 97 4 la lc ((ns.take i).flatMap fQ),an rb [.string (str ((ns.drop i).flatMap jg++rest)),.bool true] 132,an b6 (fQ (gL ns i)) 97,R]) (0,none,0) (Nat.zero_le _) .r4 .fw (fun s' hI ih=>?_)
 obtain⟨i,la,lc⟩:=s'
 dsimp only at hI ih⊢
 have mm:=hI
 refine .go fds 6 ?_
 refine .aM rfl (fun h3=>?_) (fun h3=>?_)
 ·
  refine .go fds 4 ?_
  obtain⟨x,hx⟩:∃x,ns[i]?=some x:=⟨_,List.getElem?_eq_getElem (by omega)⟩
  have AR:=ho x (List.mem_of_getElem? hx)
  have MC:i64 x.ep∧i64 x.seq∧i64 x.n∧i64 x.off:=⟨AR.wV _ (.head _),AR.wV _ (.tail _ (.head _)),AR.wV _ (.tail _ (.tail _ (.head _))),AR.wV _ (.tail _ (.tail _ (.tail _ (.head _))))⟩
  obtain⟨RZ,OE,S7⟩:=EA hc ho hx
  have sE:=AR.ep
  have NM:=AR.seq
  have U1:=AR.n
  have U2:=AR.ON
  have U3:=AR.off
  unfold cF at sE
  have yf:(gL ns i).seq≤1000000∧0≤(gL ns i).seq∧0≤(gL ns i).n∧(gL ns i).n≤64:=x8 ho i
  have uV:(ns.drop i).flatMap jg++rest=aF x.ep++(aF x.seq++(aF x.n++(aF x.off++((ns.drop (i+1)).flatMap jg++rest)))):=by rw[EB hx];simp only[List.append_assoc]
  have mi:=wW ho i
  have xz:(aF x.ep++(aF x.seq++(aF x.n++(aF x.off++((ns.drop (i+1)).flatMap jg++rest))))).length≤1000000000:=by rw[←uV,List.length_append];omega
  have vJ:(aF x.seq++(aF x.n++(aF x.off++((ns.drop (i+1)).flatMap jg++rest)))).length≤1000000000:=by rw[List.length_append]at xz;omega
  have kO:(aF x.n++(aF x.off++((ns.drop (i+1)).flatMap jg++rest))).length≤1000000000:=by have h:=vJ;rw[List.length_append]at h;omega
  have gE:(aF x.off++((ns.drop (i+1)).flatMap jg++rest)).length≤1000000000:=by have h:=kO;rw[List.length_append]at h;omega
  refine .perm .qy ?_
  refine .ca (an rb [.string (str (aF x.ep++(aF x.seq++(aF x.n++(aF x.off++((ns.drop (i+1)).flatMap jg++rest)))))),.bool true] 132) (by rw[uV]) ?_
  refine .ax fds 2 ?_
  refine .sR rfl rfl .q0 ah (iI rb x.ep (aF x.seq++(aF x.n++(aF x.off++((ns.drop (i+1)).flatMap jg++rest)))) MC.1 xz) (fun v G1 hq=>?_)
  obtain⟨rfl,rfl⟩:=hq
  simp only[ag,ae]
  refine .rd (.move rfl) ?_
  refine .sR rfl rfl .q0 ah (iI rb x.seq (aF x.n++(aF x.off++((ns.drop (i+1)).flatMap jg++rest))) MC.2.1 vJ) (fun v G1 hq=>?_)
  obtain⟨rfl,rfl⟩:=hq
  simp only[ag,ae]
  refine .rd (.move rfl) ?_
  refine .sR rfl rfl .q0 ah (iI rb x.n (aF x.off++((ns.drop (i+1)).flatMap jg++rest)) MC.2.2.1 kO) (fun v G1 hq=>?_)
  obtain⟨rfl,rfl⟩:=hq
  simp only[ag,ae]
  refine .rd (.build rfl (uz _ _ _)) ?_
  refine .rd (.move rfl) ?_
  refine .sR rfl rfl .q0 ah (iI rb x.off ((ns.drop (i+1)).flatMap jg++rest) MC.2.2.2 gE) (fun v G1 hq=>?_)
  obtain⟨rfl,rfl⟩:=hq
  simp only[ag,ae]
  refine .rd (.build rfl (Al _ _ _ _)) ?_
  refine .ef (.alloc de rfl (aB.of rfl)) ?_
  rintro _ _ ⟨b7,rfl,rfl⟩
  refine .dc (.storeAll (vs:=fQ x) bE rfl rfl rfl .p0 rfl (aB.of rfl)) ?_
  rintro _ _ rfl
  refine .ax fds 6 ?_
  refine .rd (.ld gp rfl .p1 rfl) ?_
  refine .go fds 3 ?_
  refine .on (t:=28) rfl rfl ?_
  refine .rd (.ld ak rfl .p0 rfl) ?_
  refine .go fds 1 ?_
  refine .al 32 (.bool true) rfl (bR (by omega)) ?_
  refine .go fds 4 ?_
  refine .on (t:=34) rfl rfl ?_
  refine .rd (.ld ak rfl .p0 rfl) ?_
  refine .go fds 1 ?_
  refine .al 38 (.bool true) rfl (bR (by omega)) ?_
  refine .go fds 4 ?_
  refine .on (t:=40) rfl rfl ?_
  refine .rd (.ld ak rfl .p0 rfl) ?_
  refine .on (t:=40) rfl rfl ?_
  refine .fn rfl rfl .nil ah (ga x.ep 1000000000) (fun v G1 hq=>?_)
  obtain⟨rfl,rfl⟩:=hq
  simp only[ae]
  refine .al 44 (.bool true) rfl (bR (by omega)) ?_
  refine .go fds 4 ?_
  refine .on (t:=46) rfl rfl ?_
  refine .rd (.ld ak rfl .p0 rfl) ?_
  refine .go fds 2 ?_
  refine .on (t:=46) rfl rfl ?_
  refine .rd (.ld ak rfl .p0 rfl) ?_
  refine .on (t:=46) rfl rfl ?_
  refine .rd (.sub rfl rfl (by omega) (by omega)) ?_
  refine .on (t:=46) rfl rfl ?_
  refine .rd (.add rfl rfl (by omega) (by omega)) ?_
  refine .on (t:=46) rfl rfl ?_
  refine .fn rfl rfl .nil ah (ga x.seq (1000000-x.n+1)) (fun v G1 hq=>?_)
  obtain⟨rfl,rfl⟩:=hq
  simp only[ae]
  refine .al 55 (.bool true) rfl (bR (by omega)) ?_
  refine .go fds 3 ?_
  refine .on (t:=57) rfl rfl ?_
  refine .rd (.ld ak rfl .p0 rfl) ?_
  refine .go fds 2 ?_
  refine .on (t:=57) rfl rfl ?_
  refine .rd (.ld ak rfl .p0 rfl) ?_
  refine .on (t:=57) rfl rfl ?_
  refine .rd (.sub rfl rfl (by omega) (by omega)) ?_
  refine .on (t:=57) rfl rfl ?_
  refine .rd (.add rfl rfl (by omega) (by omega)) ?_
  refine .on (t:=57) rfl rfl ?_
  refine .fn rfl rfl .nil ah (ga x.off (1000000000-x.n+1)) (fun v G1 hq=>?_)
  obtain⟨rfl,rfl⟩:=hq
  simp only[ae]
  refine .al 65 (.bool true) rfl (bR (by omega)) ?_
  refine .ax fds 10 ?_
  refine .on (t:=69) rfl rfl ?_
  refine .rd (.ld ak rfl .p0 rfl) ?_
  refine .go fds 1 ?_
  refine .on (t:=69) rfl rfl ?_
  refine .rd (.ld ak rfl .p3 rfl) ?_
  refine .go fds 1 ?_
  refine .al 74 (.bool false) rfl (aE (by omega)) ?_
  refine .go fds 4 ?_
  refine .on (t:=76) rfl rfl ?_
  refine .rd (.ld ak rfl .p0 rfl) ?_
  refine .go fds 2 ?_
  refine .on (t:=76) rfl rfl ?_
  refine .rd (.ld ak rfl .p3 rfl) ?_
  refine .go fds 1 ?_
  refine .al 83 (.bool false) rfl (aE (by omega)) ?_
  refine .go fds 4 ?_
  refine .on (t:=85) rfl rfl ?_
  refine .rd (.ld ak rfl .p0 rfl) ?_
  refine .go fds 2 ?_
  refine .on (t:=85) rfl rfl ?_
  refine .rd (.ld ak rfl .p3 rfl) ?_
  refine .go fds 2 ?_
  refine .split (t:=93) rfl (fun CW=>?_) (fun CW=>?_)
  ·
   replace CW:=of_decide_eq_true CW
   refine .go fds 2 ?_
   refine .on (t:=93) rfl rfl ?_
   refine .rd (.ld ak rfl .p0 rfl) ?_
   refine .go fds 2 ?_
   refine .on (t:=93) rfl rfl ?_
   refine .rd (.ld ak rfl .p3 rfl) ?_
   refine .go fds 2 ?_
   refine .on (t:=93) rfl rfl ?_
   refine .rd (.ld ak rfl .p3 rfl) ?_
   refine .on (t:=93) rfl rfl ?_
   refine .rd (.add rfl rfl (by omega) (by omega)) ?_
   refine .go fds 1 ?_
   refine .al 104 (.bool false) rfl (aE (by have:=S7 CW.symm;omega)) ?_
   refine .aH fds 5 ?_
   refine .dr [1,4] [an b7 (fQ x) 97] ?_
   refine .aq fds [0] ?_
   refine .re 1 rfl (.j4 gQ bE rfl .p0 rfl) .q0 ?_
   refine .re 4 rfl (.j4 gQ bE rfl .p0 rfl) .q0 ?_
   refine .eg 2 rfl (.cr (cs:=fQ x) Tryz.underlying89 de (by decide) rfl rfl rfl (aB.of rfl)) ?_
   rintro _ _ ⟨bs,rfl,rfl⟩
   refine⟨.inr ⟨_,.q1⟩,?_⟩
   refine .eg 3 rfl (.append rfl rfl Tryz.underlying89 de rfl (aB.of rfl) (by decide) (by decide) rfl rfl .p3 (n:=i) (m:=1) (by rw[au bY,List.length_take];omega) (.dM .p0 Tryz.underlying89 rfl (by decide)) (by omega)) ?_
   rintro _ _ ⟨ra,rc,rfl,rn,rfl⟩
   refine⟨.inr ⟨_,.q2⟩,?_⟩
   refine .aq fds [5] ?_
   refine .eh 6 rfl (.storeAll (vs:=fQ x) bE rfl rfl rfl .p4 rfl (aB.of rfl)) ?_
   rintro _ _ rfl
   refine ay ?_
   refine .dn ?_
   refine .perm .eT ?_
   refine .ca (arr 97 4 ra rc ((ns.take (i+1)).flatMap fQ)) (by rw[List.take_add_one,hx,List.flatMap_append];simp) ?_
   refine .perm .eT ?_
   refine .ca (an b6 (fQ (gL ns (i+1))) 97) (by rw[lY hx]) ?_
   refine .ax fds 3 ?_
   refine .rd (.sub rfl rfl (by omega) (by omega)) ?_
   refine .al 13 (.int .i64 (((ns.length-(i+1):Nat):Int))) rfl (congrArg (Value.int .i64) (by omega)) ?_
   refine .aH fds 2 ?_
   exact(ih (i+1,ra,rc) (by show i+1≤ns.length;omega) (by show ns.length-(i+1)<ns.length-i;omega)).to .r4 (.cons .p1 (.cons .p3 (.cons .p0 (.cons .p2 .nil))))
  ·
   replace CW:=of_decide_eq_false CW
   refine .aH fds 16 ?_
   refine .dr [1,4] [an b7 (fQ x) 97] ?_
   refine .aq fds [0] ?_
   refine .re 1 rfl (.j4 gQ bE rfl .p0 rfl) .q0 ?_
   refine .re 4 rfl (.j4 gQ bE rfl .p0 rfl) .q0 ?_
   refine .eg 2 rfl (.cr (cs:=fQ x) Tryz.underlying89 de (by decide) rfl rfl rfl (aB.of rfl)) ?_
   rintro _ _ ⟨bs,rfl,rfl⟩
   refine⟨.inr ⟨_,.q1⟩,?_⟩
   refine .eg 3 rfl (.append rfl rfl Tryz.underlying89 de rfl (aB.of rfl) (by decide) (by decide) rfl rfl .p3 (n:=i) (m:=1) (by rw[au bY,List.length_take];omega) (.dM .p0 Tryz.underlying89 rfl (by decide)) (by omega)) ?_
   rintro _ _ ⟨ra,rc,rfl,rn,rfl⟩
   refine⟨.inr ⟨_,.q2⟩,?_⟩
   refine .aq fds [5] ?_
   refine .eh 6 rfl (.storeAll (vs:=fQ x) bE rfl rfl rfl .p4 rfl (aB.of rfl)) ?_
   rintro _ _ rfl
   refine ay ?_
   refine .dn ?_
   refine .perm .eT ?_
   refine .ca (arr 97 4 ra rc ((ns.take (i+1)).flatMap fQ)) (by rw[List.take_add_one,hx,List.flatMap_append];simp) ?_
   refine .perm .eT ?_
   refine .ca (an b6 (fQ (gL ns (i+1))) 97) (by rw[lY hx]) ?_
   refine .ax fds 3 ?_
   refine .rd (.sub rfl rfl (by omega) (by omega)) ?_
   refine .al 13 (.int .i64 (((ns.length-(i+1):Nat):Int))) rfl (congrArg (Value.int .i64) (by omega)) ?_
   refine .aH fds 2 ?_
   exact(ih (i+1,ra,rc) (by show i+1≤ns.length;omega) (by show ns.length-(i+1)<ns.length-i;omega)).to .r4 (.cons .p1 (.cons .p3 (.cons .p0 (.cons .p2 .nil))))
 ·
  refine .go fds 6 ?_
  obtain rfl:i=ns.length:=by omega
  refine .perm .qy ?_
  refine .ca (an rb [.string (str (rest)),.bool true] 132) (by rw[List.drop_length];rfl) ?_
  refine .perm .qy ?_
  refine .ca (arr 97 4 la lc (ns.flatMap fQ)) (by rw[List.take_length]) ?_
  refine .aG Tryz.func73 (.t1 rfl) (.cons .p1 (.cons .p0 (.cons .p1 .nil))) ?_
  exact⟨[_,_],⟨la,lc,rfl,rfl⟩,rfl⟩
theorem I0(u:Tm)(hu:jL u)(hl:u.length≤1000000)(hs:gz u≤400000000):Cn Tryz.prog 37 [.string (str (gM u))] (fun _=>True) [] fun v G=>∃t:Tb,v=.tuple #[.pointer (some ⟨t.tb,0,none⟩),.int .i64 0]∧bf t.m=u∧G=[TG t]:=by
 refine .en Tryz.func37 fun R k=>?_
 have yl:=ED hu.tocC hl
 have oS:(gM u).length=4+(eR u).length:=fh (eR u)
 have PG:(aF (u.length:Int)++u.flatMap j6).length≤1000000000:=by show(eR u).length≤_;omega
 refine .ax fds 10 ?_
 refine .rd (.ey rfl rfl Tryz.underlying9 rfl) ?_
 refine .rd (.lt rfl rfl) ?_
 refine .al 14 (.bool false) rfl (aE (by omega)) ?_
 refine .aH fds 4 ?_
 refine .dr [] [] ?_
 refine .aq fds [0] ?_
 refine .rq 1 rfl (.cH (l:=gM u) (a:=4) (h:=(gM u).length) Tryz.underlying9 rfl ⟨_,rfl⟩ rfl (by omega) (by omega)) ?_
 refine .al 17 (.string (str (eR u))) rfl (by rw[oS];unfold gM summed;rw[show((bI (fx (eR u)).toNat++eR u).drop 4)=eR u from rfl,List.take_of_length_le (by omega)]) ?_
 refine .aq fds [5] ?_
 refine .rq 6 rfl (.cH (l:=gM u) (a:=0) (h:=4) Tryz.underlying9 rfl rfl ⟨_,rfl⟩ (by omega) (by omega)) ?_
 refine .al 22 (.string (str (bI (fx (eR u)).toNat))) rfl (rfl) ?_
 refine .eg 2 rfl (.yD (l:=eR u) Tryz.underlying9 Tryz.underlying115 Tryz.underlying5 rfl) ?_
 rintro _ _ ⟨sa,sc,rfl,rfl⟩
 refine ay ?_
 refine .eg 3 rfl (.fn rfl rfl .nil (af.arr .p0) (AM (some ⟨sa,0,none⟩) sc (eR u) (by omega))) ?_
 rintro v _ ⟨G1,hq,rfl⟩
 obtain⟨sb,rfl,rfl⟩:=hq
 simp only[ag,ae]
 refine ay ?_
 refine .rs (Δ:=[]) 4 (by kernel_rfl) rfl (.fc (l:=bI (fx (eR u)).toNat) Tryz.underlying115 Tryz.underlying5 Tryz.underlying9 rfl rfl (af.arr .p0)) (.inl (by kernel_rfl)) ?_
 refine .rq 7 rfl (.Ds (m:=bI (fx (eR u)).toNat) rfl rfl) ?_
 refine .al 23 (.bool false) rfl (congrArg Value.bool (by simp)) ?_
 refine .aq fds [8] ?_
 refine .dn ?_
 refine .ax fds 6 ?_
 refine .rd (.cH (l:=gM u) (a:=4) (h:=(gM u).length) Tryz.underlying9 rfl ⟨_,rfl⟩ rfl (by omega) (by omega)) ?_
 refine .al 25 (.string (str (eR u))) rfl (by rw[oS];unfold gM summed;rw[show((bI (fx (eR u)).toNat++eR u).drop 4)=eR u from rfl,List.take_of_length_le (by omega)]) ?_
 refine .rd (.build rfl (Hg _ _)) ?_
 refine .ef (.box (l:=[.string (str (eR u)),.bool true]) rfl rfl (aB.of rfl)) ?_
 rintro _ _ ⟨rb,rfl,rfl⟩
 refine .aH fds 2 ?_
 refine .ca (an rb [.string (str (aF (u.length:Int)++u.flatMap j6)),.bool true] 132) (rfl) ?_
 refine .ax fds 2 ?_
 refine .fn rfl rfl .nil ah (AP) (fun v G1 hq=>?_)
 obtain⟨tb,mb,rfl,rfl⟩:=hq
 simp only[ag,ae]
 refine .ax fds 5 ?_
 refine .sR rfl rfl .q1 ah (iI rb (u.length:Int) (u.flatMap j6) (by unfold i64;omega) PG) (fun v G1 hq=>?_)
 obtain⟨rfl,rfl⟩:=hq
 simp only[ag,ae]
 refine .aH fds 6 ?_
 refine .unpack (L:=[an tb [.map (some mb)] 93,mp cY jW mb [],cD gI []]) .p1 ?_
 simp only[ag,ae]
 refine .perm .mK ?_
 refine .ca (an rb [.string (str ((u.drop (0)).flatMap j6)),.bool true] 132) (by rw[List.drop_zero]) ?_
 refine .go fds 2 ?_
 refine .loop (σ:=Nat×TM) (fun⟨i,m⟩=>i≤u.length∧bf m=u.take i) (fun⟨i,m⟩=>u.length-i) (fun⟨i,m⟩=>[(4,.pointer (some ⟨rb,0,none⟩)),(5,.pointer (some ⟨tb,0,none⟩)),(6,.int .i64 ((u.length-i:Nat):Int)),(7,.int .i64 (wX u i))]) (fun⟨i,m⟩=>[an rb [.string (str ((u.drop (i)).flatMap j6)),.bool true] 132,an tb [.map (some mb)] 93,mp cY jW mb m,cD gI m,R]) (0,[]) ⟨Nat.zero_le _,rfl⟩ .r4 (.cons .p0 (.cons .p0 (.cons .p0 (.cons .p0 (.cons .p2 .nil))))) (fun s' hI ih=>?_)
 obtain⟨i,m⟩:=s'
 dsimp only at hI ih⊢
 obtain⟨mm,hm⟩:=hI
 refine .ax fds 6 ?_
 refine .split (t:=33) rfl (fun h9=>?_) (fun h9=>?_)
 ·
  replace h9:=of_decide_eq_true h9
  refine .go fds 3 ?_
  refine .on (t:=33) rfl rfl ?_
  refine .rd (.ld gp rfl .p0 rfl) ?_
  refine .aH fds 7 ?_
  obtain⟨p,hp⟩:∃p,u[i]?=some p:=⟨_,List.getElem?_eq_getElem (by omega)⟩
  have Jl:=List.mem_of_getElem? hp
  have Qw:=hu.pid p Jl
  have dx:=hu.ne p Jl
  have AW:=hu.len p Jl
  have mq:0<p.2.length:=List.length_pos_iff.2 dx
  have cO:=hu.lt hp
  have Cf:i64 p.1:=by unfold i64;omega
  have Nr:i64 (p.2.length:Int):=by unfold i64;omega
  have U4:=wY hu.tocC (i+1)
  have z8:=wW (hu.ok p Jl) 0
  rw[List.drop_zero]at z8
  have e1:=bB Cf
  have e2:=bB Nr
  have kO:(aF p.1++(aF (p.2.length:Int)++(p.2.flatMap jg++(u.drop (i+1)).flatMap j6))).length≤1000000000:=by simp only[List.length_append];omega
  have gE:(aF (p.2.length:Int)++(p.2.flatMap jg++(u.drop (i+1)).flatMap j6)).length≤1000000000:=by simp only[List.length_append];omega
  have ug:bK m p.1=none:=by
   have:=hu.fresh hp
   rw[←hm,uR]at this
   cases e:bK m p.1 with
   |none=>rfl
   |some v=>rw[e]at this;cases this
  have mo:(m.map (·.1)).Nodup:=by
   rw[←gw,hm];exact hu.nodup.sublist ((List.take_sublist _ _).map _)
  refine .ca (an rb [.string (str (aF p.1++(aF (p.2.length:Int)++(p.2.flatMap jg++(u.drop (i+1)).flatMap j6)))),.bool true] 132) (by rw[EC hp]) ?_
  refine .ax fds 2 ?_
  refine .sR rfl rfl .q0 ah (iI rb p.1 (aF (p.2.length:Int)++(p.2.flatMap jg++(u.drop (i+1)).flatMap j6)) Cf kO) (fun v G1 hq=>?_)
  obtain⟨rfl,rfl⟩:=hq
  simp only[ag,ae]
  refine .rd (.move rfl) ?_
  refine .sR rfl rfl .q0 ah (iI rb (p.2.length:Int) (p.2.flatMap jg++(u.drop (i+1)).flatMap j6) Nr gE) (fun v G1 hq=>?_)
  obtain⟨rfl,rfl⟩:=hq
  simp only[ag,ae]
  refine .ax fds 9 ?_
  refine .al 47 (.bool false) rfl (aE (by omega)) ?_
  refine .go fds 3 ?_
  refine .al 50 (.bool false) rfl (aE (by omega)) ?_
  refine .go fds 4 ?_
  refine .al 54 (.bool false) rfl (aE (by omega)) ?_
  refine .aH fds 9 ?_
  refine .al 7 (.int .i64 (wX u (i+1))) rfl (by rw[ru hp]) ?_
  refine .ax fds 4 ?_
  refine .fn rfl rfl .q0 ah (F1 rb p.2 ((u.drop (i+1)).flatMap j6) (hu.chain p Jl) (hu.ok p Jl) AW (by omega)) (fun v G1 hq=>?_)
  obtain⟨a,c,rfl,rfl⟩:=hq
  simp only[ag,ae]
  refine .aH fds 4 ?_
  refine .tell (φ:=∃b o,a=some ⟨b,o,none⟩) ((af.arr .p1).mono fun _ h=>aD.addr h (by rw[au bY];omega)) (fun hh=>?_)
  obtain⟨b9,o9,rfl⟩:=hh
  refine .ax fds 2 ?_
  refine .rd (.yw Tryz.underlying89 rfl rfl) ?_
  refine .al 61 (.bool false) rfl (congrArg Value.bool (rfl)) ?_
  refine .ax fds 7 ?_
  refine .rd (.ld eA rfl .p2 rfl) ?_
  refine .go fds 2 ?_
  refine .dc (.mapUpdate (q:=p.1) (u:=(⟨some ⟨b9,o9,none⟩,c,p.2⟩:TV)) HK Tryz.underlying91 rfl rfl rfl .p3) ?_
  rintro _ _ rfl
  refine .nil ?_
  refine .perm (.cons .p2 (.cons .p0 (.cons .p0 (.cons .p0 (.cons .p0 (.cons .p0 .nil)))))) ?_
  refine .ca (gI (p.1,(⟨some ⟨b9,o9,none⟩,c,p.2⟩:TV))) (rfl) ?_
  refine .close (X:=cD gI (bT m p.1 (⟨some ⟨b9,o9,none⟩,c,p.2⟩:TV))) .Lt (fun h H=>uQ mo (by rw[s8 ug];exact H)) ?_
  have NL:bf (bT m p.1 (⟨some ⟨b9,o9,none⟩,c,p.2⟩:TV))=u.take (i+1):=by rw[uS,hm,uP (hu.fresh hp),List.take_add_one,hp];rfl
  refine .ax fds 3 ?_
  refine .rd (.sub rfl rfl (by omega) (by omega)) ?_
  refine .al 40 (.int .i64 (((u.length-(i+1):Nat):Int))) rfl (congrArg (Value.int .i64) (by omega)) ?_
  refine .aH fds 2 ?_
  exact(ih (i+1,bT m p.1 (⟨some ⟨b9,o9,none⟩,c,p.2⟩:TV)) ⟨by show i+1≤u.length;omega,NL⟩ (by show u.length-(i+1)<u.length-i;omega)).to .r4 (.cons .p2 (.cons .p2 (.cons .p1 (.cons .p0 (.cons .p0 .nil)))))
 ·
  replace h9:=of_decide_eq_false h9
  refine .aH fds 10 ?_
  obtain rfl:i=u.length:=by omega
  refine .ca (an rb [.string (str ([])),.bool true] 132) (by rw[List.drop_length];rfl) ?_
  refine .ax fds 4 ?_
  refine .rd (.ld gp rfl .p0 rfl) ?_
  refine .go fds 5 ?_
  refine .on (t:=73) rfl rfl ?_
  refine .rd (.ld aR rfl .p0 rfl) ?_
  refine .on (t:=73) rfl rfl ?_
  refine .rd (.Ds (m:=[]) rfl rfl) ?_
  refine .al 78 (.bool false) rfl (congrArg Value.bool (by simp)) ?_
  refine .go fds 4 ?_
  refine .al 82 (.bool false) rfl (aE (by omega)) ?_
  refine .aH fds 10 ?_
  refine .close (X:=TG ⟨tb,mb,m⟩) .nP (fun h H=>H) ?_
  refine .aG Tryz.func37 (.t2 rfl rfl) .sI ?_
  exact⟨[_],⟨⟨tb,mb,m⟩,rfl,hm.trans (List.take_length ..),rfl⟩,rfl⟩
def me(es:List Ep)(i:Nat):Ep:=(es.take i).getLast?.getD (-1,-1)
theorem o4{es:List Ep}{i:Nat}{x:Ep}(h:es[i]?=some x):me es (i+1)=x:=by
 unfold me;rw[List.take_add_one,h,List.getLast?_append];rfl
theorem CN{es:List Ep}(he:bM es){i:Nat}{x:Ep}(h:es[i]?=some x):(me es i).1<x.1∧(me es i).2<x.2:=by
 obtain⟨hi,hx⟩:=List.getElem?_eq_some_iff.1 h
 cases i with
 |zero=>have:=he.may x (List.mem_of_getElem? h);unfold cF at this;show(-1:Int)<_∧(-1:Int)<_;omega
 |succ i=>
  rw[o4 (List.getElem?_eq_getElem (show i<es.length by omega))]
  have:=List.pairwise_iff_getElem.1 he.up i (i+1) (by omega) hi (by omega)
  rw[hx]at this;exact this
theorem sw{es:List Ep}{i:Nat}{x:Ep}(h:es[i]?=some x):(es.drop i).flatMap mu=aF x.1++(aF x.2++(es.drop (i+1)).flatMap mu):=by
 obtain⟨hi,rfl⟩:=List.getElem?_eq_some_iff.1 h
 rw[List.drop_eq_getElem_cons hi,List.flatMap_cons,mu,List.append_assoc]
theorem x9{es:List Ep}(he:bM es)(i:Nat):((es.drop i).flatMap mu).length≤4000:=by
 have h2:=eW (f:=mu) (k:=20) (es.drop i) fun e h=>uM (he.may e (List.mem_of_mem_drop h))
 rw[List.length_drop]at h2;have:=he.len;omega
theorem vE(sx ox:Nat)(n:Int)(rest:List UInt8)(hn:i64 n)(hl:(aF n++rest).length≤1000000000):Cn Tryz.prog 114 [.pointer (some ⟨sx,0,none⟩),.pointer (some ⟨ox,0,none⟩)] (fun _=>True) [an sx [.string (str (aF n++rest))] 9,an ox [.bool true] 4] fun v G=>v=.int .i64 n∧G=[an sx [.string (str (rest))] 9,an ox [.bool true] 4]:=by
 refine .en Tryz.func114 fun R k=>?_
 have Kn:(aF n++rest).length=(aF n).length+rest.length:=List.length_append
 refine .ax fds 6 ?_
 refine .rd (.ld aR rfl .p0 rfl) ?_
 refine .fn rfl rfl .nil ah (lV (aF n++rest) (by omega)) (fun v G1 hq=>?_)
 obtain⟨rfl,rfl⟩:=hq
 simp only[ae]
 refine .al 8 (.tuple #[.int .i64 n,.int .i64 ((aF n).length:Nat),.int .i64 0]) rfl (by rw[nS hn]) ?_
 refine .ax fds 10 ?_
 refine .rd (.ld gp rfl .p1 rfl) ?_
 refine .go fds 4 ?_
 refine .dc (.store kU rfl rfl .p1 rfl aU) ?_
 rintro _ _ rfl
 refine .ax fds 3 ?_
 refine .rd (.ld aR rfl .p1 rfl) ?_
 refine .rd (.move rfl) ?_
 refine .rd (.cH (l:=aF n++rest) (a:=(aF n).length) (h:=(aF n++rest).length) Tryz.underlying9 rfl ⟨_,rfl⟩ rfl (by omega) (by omega)) ?_
 refine .al 19 (.string (str rest)) rfl (by rw[List.drop_left,List.take_of_length_le (by rw[List.length_append];omega)]) ?_
 refine .dc (.store fF rfl rfl .p1 rfl aU) ?_
 rintro _ _ rfl
 refine .aH fds 6 ?_
 refine .aG Tryz.func114 (.t1 rfl) .ez ?_
 exact⟨[_,_],⟨rfl,rfl⟩,rfl⟩
theorem I1(db cb:Nat)(nm:Nm)(es:List Ep)(he:bM es):Cn Tryz.prog 71 [.pointer (some ⟨cb,0,none⟩),.string (str (summed (bG es)))] (fun _=>True) [an cb [.pointer (some ⟨db,0,none⟩),aW nm,.slice none 0 0] 125] fun v G=>v=.int .i64 0∧∃la lc,G=[CG db ⟨cb,nm,es,la,lc⟩]:=by
 refine .en Tryz.func71 fun R k=>?_
 have Gn:=he.len
 have oS:=fh (bG es)
 have yl:=nf he
 have PG:(aF (es.length:Int)++es.flatMap mu).length≤5000:=by show(bG es).length≤5000;omega
 refine .cq 70 3 none ?_
 refine .ax fds 2 ?_
 refine .ef (.box (l:=[.string (str (summed (bG es)))]) rfl rfl (aB.of rfl)) ?_
 rintro _ _ ⟨b3,rfl,rfl⟩
 refine .ax fds 6 ?_
 refine .rd (.ld aR rfl .p0 rfl) ?_
 refine .rd (.ey rfl rfl Tryz.underlying9 rfl) ?_
 refine .rd (.lt rfl rfl) ?_
 refine .al 13 (.bool false) rfl (aE (by omega)) ?_
 refine .aH fds 4 ?_
 refine .dr [0,3] [an b3 [.string (str (summed (bG es)))] 9] ?_
 refine .re 0 rfl (.ld aR rfl .p0 rfl) .q0 ?_
 refine .rq 1 rfl (.cH (l:=summed (bG es)) (a:=4) (h:=(summed (bG es)).length) Tryz.underlying9 rfl ⟨_,rfl⟩ rfl (by omega) (by omega)) ?_
 refine .al 16 (.string (str (bG es))) rfl (by rw[oS];unfold summed;rw[show((bI (fx (bG es)).toNat++bG es).drop 4)=bG es from rfl,List.take_of_length_le (by omega)]) ?_
 refine .re 3 rfl (.ld aR rfl .p0 rfl) .q0 ?_
 refine .rq 4 rfl (.cH (l:=summed (bG es)) (a:=0) (h:=4) Tryz.underlying9 rfl rfl ⟨_,rfl⟩ (by omega) (by omega)) ?_
 refine .al 19 (.string (str (bI (fx (bG es)).toNat))) rfl (rfl) ?_
 refine .eg 2 rfl (.fn rfl rfl .nil ah (AL (bG es) (by omega))) ?_
 rintro v _ ⟨G1,hq,rfl⟩
 obtain⟨rfl,rfl⟩:=hq
 simp only[ae]
 refine⟨.inr ⟨_,.q0⟩,?_⟩
 refine .rq 5 rfl (.Ds (m:=bI (fx (bG es)).toNat) rfl rfl) ?_
 refine .al 20 (.bool false) rfl (congrArg Value.bool (by simp)) ?_
 refine .aq fds [6] ?_
 refine .dn ?_
 refine .ax fds 5 ?_
 refine .rd (.ld aR rfl .p0 rfl) ?_
 refine .rd (.cH (l:=summed (bG es)) (a:=4) (h:=(summed (bG es)).length) Tryz.underlying9 rfl ⟨_,rfl⟩ rfl (by omega) (by omega)) ?_
 refine .al 22 (.string (str (bG es))) rfl (by rw[oS];unfold summed;rw[show((bI (fx (bG es)).toNat++bG es).drop 4)=bG es from rfl,List.take_of_length_le (by omega)]) ?_
 refine .dc (.store fF rfl rfl .p0 rfl aU) ?_
 rintro _ _ rfl
 refine .nil ?_
 refine .ca (an b3 [.string (str (aF (es.length:Int)++es.flatMap mu))] 9) (rfl) ?_
 refine .ax fds 2 ?_
 refine .ef (.alloc Hh rfl (aB.of rfl)) ?_
 rintro _ _ ⟨b5,rfl,rfl⟩
 refine .dc (.store kU rfl rfl .p0 rfl aU) ?_
 rintro _ _ rfl
 refine .ax fds 3 ?_
 refine .rd (.makeFunc (cs:=[.pointer (some ⟨b3,0,none⟩),.pointer (some ⟨b5,0,none⟩)]) rfl rfl) ?_
 refine .ax fds 5 ?_
 refine .sR rfl rfl .Gg ah (vE b3 b5 (es.length:Int) (es.flatMap mu) (by unfold i64;omega) (by omega)) (fun v G1 hq=>?_)
 obtain⟨rfl,rfl⟩:=hq
 simp only[ag,ae]
 refine .ax fds 7 ?_
 refine .al 27 (.bool false) rfl (aE (by omega)) ?_
 refine .go fds 3 ?_
 refine .al 30 (.bool false) rfl (aE (by omega)) ?_
 refine .ax fds 6 ?_
 refine .rd (.build rfl (AA _ _)) ?_
 refine .ef (.alloc gq rfl (aB.of rfl)) ?_
 rintro _ _ ⟨b8,rfl,rfl⟩
 refine .dc (.storeAll (vs:=fR (-1,-1)) cw rfl rfl rfl .p0 rfl (aB.of rfl)) ?_
 rintro _ _ rfl
 refine .nil ?_
 refine .ca (an b8 (fR (me es 0)) 70) (rfl) ?_
 refine .perm .eT ?_
 refine .ca (an b3 [.string (str ((es.drop 0).flatMap mu))] 9) (by rw[List.drop_zero]) ?_
 refine .perm .mJ ?_
 refine .ca (an cb [.pointer (some ⟨db,0,none⟩),aW nm,.slice none 0 0] 125) (rfl) ?_
 refine .perm .mJ ?_
 refine .ca (arr 70 3 none 0 ((es.take 0).flatMap fR)) (by rw[List.take_zero];rfl) ?_
 refine .go fds 7 ?_
 refine .loop (σ:=Nat×Option Addr×Nat) (fun⟨i,la,lc⟩=>i≤es.length) (fun⟨i,la,lc⟩=>es.length-i) (fun⟨i,la,lc⟩=>[(0,.pointer (some ⟨cb,0,none⟩)),(3,.pointer (some ⟨b3,0,none⟩)),(5,.pointer (some ⟨b5,0,none⟩)),(6,.func (.func 114) #[] #[.pointer (some ⟨b3,0,none⟩),.pointer (some ⟨b5,0,none⟩)]),(8,.pointer (some ⟨b8,0,none⟩)),(33,.int .i64 (es.length:Nat)),(34,.int .i64 (i:Nat))]) (fun⟨i,la,lc⟩=>[an b3 [.string (str ((es.drop i).flatMap mu))] 9,an b5 [.bool true] 4,an b8 (fR (me es i)) 70,an cb [.pointer (some ⟨db,0,none⟩),aW nm,.slice la i lc] 125,arr 70 3 la lc ((es.take i).flatMap fR),R]) (0,none,0) (Nat.zero_le _) .r7 (.cons .p2 (.cons .p3 (.cons .p2 (.cons .p1 (.cons .p0 (.cons .p0 .nil)))))) (fun s' hI ih=>?_)
 obtain⟨i,la,lc⟩:=s'
 dsimp only at hI ih⊢
 have mm:=hI
 refine .go fds 5 ?_
 refine .aM rfl (fun OY=>?_) (fun OY=>?_)
 ·
  refine .go fds 4 ?_
  obtain⟨x,hx⟩:∃x,es[i]?=some x:=⟨_,List.getElem?_eq_getElem (by omega)⟩
  have sE:=he.may x (List.mem_of_getElem? hx)
  obtain⟨I2,S8⟩:=CN he hx
  refine .ca (an b3 [.string (str (aF x.1++(aF x.2++(es.drop (i+1)).flatMap mu)))] 9) (by rw[sw hx]) ?_
  refine .ax fds 2 ?_
  refine .sR rfl rfl .cU ah (vE b3 b5 x.1 (aF x.2++(es.drop (i+1)).flatMap mu) sE.1.i64 (by have:=x9 he i;rw[sw hx]at this;omega)) (fun v G1 hq=>?_)
  obtain⟨rfl,rfl⟩:=hq
  simp only[ag,ae]
  refine .rd (.build rfl (Hi _)) ?_
  refine .ef (.alloc gq rfl (aB.of rfl)) ?_
  rintro _ _ ⟨b9,rfl,rfl⟩
  refine .dc (.storeAll (vs:=fR (x.1,0)) cw rfl rfl rfl .p0 rfl (aB.of rfl)) ?_
  rintro _ _ rfl
  refine .ax fds 4 ?_
  refine .sR rfl rfl .px ah (vE b3 b5 x.2 ((es.drop (i+1)).flatMap mu) sE.2.i64 (by have:=x9 he i;rw[sw hx,List.length_append]at this;omega)) (fun v G1 hq=>?_)
  obtain⟨rfl,rfl⟩:=hq
  simp only[ag,ae]
  refine .rd (.fieldAddr uC rfl) ?_
  refine .dc (.store cc rfl rfl .p2 rfl aU) ?_
  rintro _ _ rfl
  refine .nil ?_
  refine .ca (an b9 (fR x) 70) (rfl) ?_
  refine .ax fds 3 ?_
  refine .rd (.ld gp rfl .p2 rfl) ?_
  refine .go fds 3 ?_
  refine .on (t:=44) rfl rfl ?_
  refine .rd (.ld ak rfl .p0 rfl) ?_
  refine .on (t:=44) rfl rfl ?_
  refine .fn rfl rfl .nil ah (nZ x.1) (fun v G1 hq=>?_)
  obtain⟨rfl,rfl⟩:=hq
  simp only[ae]
  refine .al 47 (.bool true) rfl (bR sE.1) ?_
  refine .go fds 4 ?_
  refine .on (t:=50) rfl rfl ?_
  refine .rd (.ld ak rfl .p0 rfl) ?_
  refine .on (t:=50) rfl rfl ?_
  refine .fn rfl rfl .nil ah (nZ x.2) (fun v G1 hq=>?_)
  obtain⟨rfl,rfl⟩:=hq
  simp only[ae]
  refine .al 53 (.bool true) rfl (bR sE.2) ?_
  refine .go fds 4 ?_
  refine .on (t:=56) rfl rfl ?_
  refine .rd (.ld ak rfl .p0 rfl) ?_
  refine .go fds 1 ?_
  refine .on (t:=56) rfl rfl ?_
  refine .rd (.ld ak rfl .p3 rfl) ?_
  refine .go fds 1 ?_
  refine .al 61 (.bool false) rfl (aE (by omega)) ?_
  refine .go fds 3 ?_
  refine .on (t:=63) rfl rfl ?_
  refine .rd (.ld ak rfl .p0 rfl) ?_
  refine .go fds 1 ?_
  refine .on (t:=63) rfl rfl ?_
  refine .rd (.ld ak rfl .p3 rfl) ?_
  refine .go fds 1 ?_
  refine .al 68 (.bool false) rfl (aE (by omega)) ?_
  refine .aH fds 5 ?_
  refine .dr [4,5] [an cb [.pointer (some ⟨db,0,none⟩),aW nm,.slice la i lc] 125,an b9 (fR x) 70] ?_
  refine .aq fds [0] ?_
  refine .aq fds [1] ?_
  refine .aq fds [2] ?_
  refine .aq fds [3] ?_
  refine .re 4 rfl (.ld eV rfl .p0 rfl) (.cons .p4 (.cons .p0 .nil)) ?_
  refine .re 5 rfl (.j4 kV cw rfl .p1 rfl) (.cons .p4 (.cons .p0 .nil)) ?_
  refine .eg 6 rfl (.cr (cs:=fR x) Tryz.underlying64 gq (by decide) rfl rfl rfl (aB.of rfl)) ?_
  rintro _ _ ⟨bs,rfl,rfl⟩
  refine⟨.inr ⟨_,(.cons .p5 (.cons .p1 .nil))⟩,?_⟩
  refine .eg 7 rfl (.append rfl rfl Tryz.underlying64 gq rfl (aB.of rfl) (by decide) (by decide) rfl rfl .p6 (n:=i) (m:=1) (by rw[au ct,List.length_take];omega) (.dM .p0 Tryz.underlying64 rfl (by decide)) (by omega)) ?_
  rintro _ _ ⟨ra,rc,rfl,rn,rfl⟩
  refine ay ?_
  refine .aq fds [8] ?_
  refine .aq fds [9] ?_
  refine .eh 10 rfl (.store Az rfl rfl .p6 rfl aU) ?_
  rintro _ _ rfl
  refine ay ?_
  refine .dn ?_
  refine .perm .kS ?_
  refine .ca (arr 70 3 ra rc ((es.take (i+1)).flatMap fR)) (by rw[List.take_add_one,hx,List.flatMap_append];simp) ?_
  refine .region ?_
  refine .rd (.j4 kV cw rfl .p3 rfl) ?_
  refine .dc (.storeAll (vs:=fR x) cw rfl rfl rfl .p6 rfl (aB.of rfl)) ?_
  rintro _ _ rfl
  refine .nil ?_
  refine .ca (an b8 (fR (me es (i+1))) 70) (by rw[o4 hx]) ?_
  refine .ax fds 2 ?_
  refine .rd (.add rfl rfl (by omega) (by omega)) ?_
  refine .aH fds 2 ?_
  exact(ih (i+1,ra,rc) (by show i+1≤es.length;omega) (by show es.length-(i+1)<es.length-i;omega)).to .r7 (.cons .p5 (.cons .p5 (.cons .p0 (.cons .p1 (.cons .p0 (.cons .p2 .nil))))))
 ·
  refine .go fds 3 ?_
  obtain rfl:i=es.length:=by omega
  refine .ca (an b3 [.string (str ([]))] 9) (by rw[List.drop_length];rfl) ?_
  refine .region ?_
  refine .rd (.ld gp rfl .p1 rfl) ?_
  refine .go fds 2 ?_
  refine .on (t:=84) rfl rfl ?_
  refine .rd (.ld aR rfl .p0 rfl) ?_
  refine .on (t:=84) rfl rfl ?_
  refine .rd (.Ds (m:=[]) rfl rfl) ?_
  refine .al 86 (.bool false) rfl (congrArg Value.bool (by simp)) ?_
  refine .aH fds 8 ?_
  refine .perm .mJ ?_
  refine .ca (arr 70 3 la lc (es.flatMap fR)) (by rw[List.take_length]) ?_
  refine .close (X:=CG db ⟨cb,nm,es,la,lc⟩) (.cons .p4 (.cons .p0 .nil)) (fun h H=>H) ?_
  refine .aG Tryz.func71 (.t1 rfl) .Lt ?_
  exact⟨[_],⟨rfl,la,lc,rfl⟩,rfl⟩
theorem F2(db mb:Nat)(d:Dk)(nm:Nm)(es:List Ep)(he:bM es)(hf:((d.get nm).isSome=false∧es=[])∨((d.get nm).isSome=true∧(d.file nm).b=summed (bG es))):Cn Tryz.prog 33 [.pointer (some ⟨db,0,none⟩),aW nm] (fun _=>True) [an db (d.cells mb) 74,mp aW Fl.val mb d.fs] fun v G=>∃cb la lc,v=.tuple #[.pointer (some ⟨cb,0,none⟩),.int .i64 0]∧G=[CG db ⟨cb,nm,es,la,lc⟩,an db (d.cells mb) 74,mp aW Fl.val mb d.fs]:=by
 refine .en Tryz.func33 fun R k=>?_
 refine .ax fds 9 ?_
 refine .rd (.build rfl (Hj _ _)) ?_
 refine .ef (.box (l:=[.pointer (some ⟨db,0,none⟩),aW nm,.slice none 0 0]) rfl rfl (aB.of rfl)) ?_
 rintro _ _ ⟨cb,rfl,rfl⟩
 refine .ax fds 6 ?_
 refine .fn rfl rfl .px ah (jN db mb d nm) (fun v G1 hq=>?_)
 obtain⟨rfl,rfl⟩:=hq
 simp only[ag,ae]
 refine .aH fds 12 ?_
 refine .my rfl (fun c3=>?_) (fun c3=>?_)
 ·
  obtain rfl:es=[]:=by
   rcases hf with h|h
   ·
    exact h.2
   ·
    rw[if_pos h.1]at c3;exact absurd rfl c3
  refine .go fds 6 ?_
  refine .cq 70 3 none ?_
  refine .close (X:=CG db ⟨cb,nm,[],none,0⟩) (.cons .p3 (.cons .p0 .nil)) (fun h H=>H) ?_
  refine .aG Tryz.func33 (.t2 rfl rfl) .fw ?_
  exact⟨[_,_,_],⟨cb,none,0,rfl,rfl⟩,rfl⟩
 ·
  obtain⟨hg,hb⟩:(d.get nm).isSome=true∧(d.file nm).b=summed (bG es):=by
   rcases hf with h|h
   ·
    rw[h.1]at c3;exact absurd c3 (by decide)
   ·
    exact h
  refine .al 7 (.string (str (summed (bG es)))) rfl (by rw[hb];rfl) ?_
  refine .ax fds 6 ?_
  refine .fn rfl rfl .q2 ah (I1 db cb nm es he) (fun v G1 hq=>?_)
  obtain⟨rfl,la,lc,rfl⟩:=hq
  simp only[ag,ae]
  refine .aH fds 15 ?_
  refine .aG Tryz.func33 (.t2 rfl rfl) .fw ?_
  exact⟨[_,_,_],⟨cb,la,lc,rfl,rfl⟩,rfl⟩
theorem iX(db:Nat)(s:St):Cn Tryz.prog 18 [.pointer (some ⟨s.sx,0,none⟩)] (aL s.sx 0 (s.cells db)) [] fun v G=>v=.pointer (some ⟨s.l.lb,0,none⟩)∧G=[]:=by
 refine .en Tryz.func18 fun R k=>?_
 refine .ax fds 9 ?_
 refine .rd (.load gr rfl (af.one (i:=2) (af.pick .p0 (k.mono fun _ h=>h)) rfl)) ?_
 refine .aH fds 2 ?_
 refine .aG Tryz.func18 (.t1 rfl) .q0 ?_
 exact⟨[],⟨rfl,rfl⟩,rfl⟩
theorem tZ(db:Nat)(s:St):Cn Tryz.prog 29 [.pointer (some ⟨s.sx,0,none⟩)] (aL s.sx 0 (s.cells db)) [] fun v G=>v=.pointer (some ⟨s.c.cb,0,none⟩)∧G=[]:=by
 refine .en Tryz.func29 fun R k=>?_
 refine .ax fds 9 ?_
 refine .rd (.load gS rfl (af.one (i:=3) (af.pick .p0 (k.mono fun _ h=>h)) rfl)) ?_
 refine .aH fds 2 ?_
 refine .aG Tryz.func29 (.t1 rfl) .q0 ?_
 exact⟨[],⟨rfl,rfl⟩,rfl⟩
theorem iv(db:Nat)(s:St):Cn Tryz.prog 11 [.pointer (some ⟨s.sx,0,none⟩)] (aL s.sx 0 (s.cells db)) [] fun v G=>v=.pointer (some ⟨s.t.tb,0,none⟩)∧G=[]:=by
 refine .en Tryz.func11 fun R k=>?_
 refine .ax fds 9 ?_
 refine .rd (.load jD rfl (af.one (i:=4) (af.pick .p0 (k.mono fun _ h=>h)) rfl)) ?_
 refine .aH fds 2 ?_
 refine .aG Tryz.func11 (.t1 rfl) .q0 ?_
 exact⟨[],⟨rfl,rfl⟩,rfl⟩
theorem Bw(db:Nat)(s:St)(hp:oe s.l.pre):Cn Tryz.prog 36 [.pointer (some ⟨s.sx,0,none⟩)] (aL s.sx 0 (s.cells db)) [] fun v G=>v=aW (eY s.l.pre)∧G=[]:=by
 refine .en Tryz.func36 fun R k=>?_
 refine .ax fds 9 ?_
 refine .rd (.load aR rfl (af.one (i:=1) (af.pick .p0 (k.mono fun _ h=>h)) rfl)) ?_
 refine .rd (.dZ (l:=s.l.pre) (m:=[46,112,105,100,115]) rfl rfl (by have:=hp.len;simp only[List.length_cons,List.length_nil];omega)) ?_
 refine .al 7 (aW (eY s.l.pre)) rfl (rfl) ?_
 refine .aH fds 2 ?_
 refine .aG Tryz.func36 (.t1 rfl) .q0 ?_
 exact⟨[],⟨rfl,rfl⟩,rfl⟩
theorem F3(db mb:Nat)(d:Dk)(s:St)(hp:oe s.l.pre)(hd:d.ok)(hT:cC (bf s.t.m))(hl:s.t.m.length≤1000000)(hs:gz (bf s.t.m)≤100000000)(hr:(d.get (eY s.l.pre)).isSome=true∨d.fs.length<256)(fu:d.used+(dH (bf s.t.m)).length≤d.size):Cn Tryz.prog 52 [.pointer (some ⟨s.sx,0,none⟩),.pointer (some ⟨s.t.tb,0,none⟩)] (fun _=>True) [SS db s,an db (d.cells mb) 74,mp aW Fl.val mb d.fs] fun v G=>v=.int .i64 0∧G=[SS db s,an db ((d.put (eY s.l.pre) ⟨dH (bf s.t.m),(dH (bf s.t.m)).length⟩).cells mb) 74,mp aW Fl.val mb (d.put (eY s.l.pre) ⟨dH (bf s.t.m),(dH (bf s.t.m)).length⟩).fs]:=by
 refine .en Tryz.func52 fun R k=>?_
 refine .unpack (L:=[an s.sx (s.cells db) 80,LG db s.l,CG db s.c,TG s.t]) .p0 ?_
 simp only[ag,ae]
 refine .go fds 5 ?_
 refine .dr [3] [an s.sx (s.cells db) 80] ?_
 refine .aq fds [0] ?_
 refine .aq fds [1] ?_
 refine .aq fds [2] ?_
 refine .re 3 rfl (.ld dh rfl .p0 rfl) .q0 ?_
 refine .aq fds [4] ?_
 refine .aq fds [6] ?_
 refine .eg 5 rfl (.fn rfl rfl .nil (af.an .p0) (Bw db s hp)) ?_
 rintro v _ ⟨G1,hq,rfl⟩
 obtain⟨rfl,rfl⟩:=hq
 simp only[ae]
 refine⟨.inr ⟨_,.q0⟩,?_⟩
 refine .eg 7 rfl (.fn rfl rfl .q3 ah (H9 s.t hT hl hs)) ?_
 rintro v _ ⟨G1,hq,rfl⟩
 obtain⟨rfl,rfl⟩:=hq
 simp only[ag,ae]
 refine⟨.inr ⟨_,.q1⟩,?_⟩
 refine .eg 8 rfl (.fn rfl rfl (.cons .p4 (.cons .p4 .nil)) ah (lZ db mb d (eY s.l.pre) (dH (bf s.t.m)) hd (og hp) hr (by omega))) ?_
 rintro v _ ⟨G1,hq,rfl⟩
 obtain⟨rfl,rfl⟩:=hq
 simp only[ag,ae]
 refine ay ?_
 refine .aq fds [9] ?_
 refine .dn ?_
 refine .pack (L:=[an (s).sx (St.cells (s) db) 80,LG db (s).l,CG db (s).c,TG (s).t]) (.cons .p3 (.cons .p3 (.cons .p3 (.cons .p2 .nil)))) ?_
 refine .aG Tryz.func52 (.t1 rfl) .fw ?_
 exact⟨[_,_,_],⟨rfl,rfl⟩,rfl⟩
theorem I3(db mb:Nat)(d:Dk)(s:St)(hd:d.ok)(hl:s.l.ok d)(lX:cF s.l.next)(kM:bM s.c.es)(hT:cC (bf s.t.m))(hn:eS s.c.nm)(hr:(d.get s.c.nm).isSome=true∨d.fs.length<256)(fu:d.used+4020≤d.size):Cn Tryz.prog 51 [.pointer (some ⟨s.sx,0,none⟩)] (fun _=>True) [SS db s,an db (d.cells mb) 74,mp aW Fl.val mb d.fs] fun v G=>∃t' la lc,bf t'.m=iK s.l.next (bf s.t.m)∧G=[SS db (⟨s.sx,s.l,⟨s.c.cb,s.c.nm,(bg s.l.next s.c.es),la,lc⟩,t'⟩:St),an db ((bw d s.c (bg s.l.next s.c.es)).cells mb) 74,mp aW Fl.val mb (bw d s.c (bg s.l.next s.c.es)).fs]:=by
 refine .en Tryz.func51 fun R k=>?_
 refine .unpack (L:=[an s.sx (s.cells db) 80,LG db s.l,CG db s.c,TG s.t]) .p0 ?_
 simp only[ag,ae]
 refine .seq ?_
 refine .dr [3,7,10] [an s.sx (s.cells db) 80,LG db s.l] ?_
 refine .aq fds [0] ?_
 refine .aq fds [1] ?_
 refine .aq fds [2] ?_
 refine .re 3 rfl (.ld gS rfl .p0 rfl) .cU ?_
 refine .aq fds [4] ?_
 refine .aq fds [5] ?_
 refine .aq fds [6] ?_
 refine .re 7 rfl (.ld gr rfl .p0 rfl) .cU ?_
 refine .aq fds [8] ?_
 refine .aq fds [9] ?_
 refine .re 10 rfl (.load aN rfl (af.one (i:=0) ((LG.at .p1).mono fun _ h=>h.1) rfl)) .cU ?_
 refine .eg 11 rfl (.fn rfl rfl .nil ((LG.at .p1).mono fun _ h=>h.2.2 _ (Lx.cJ (s.l))) (bZ db (s.l).ai hl.ai.1)) ?_
 rintro v _ ⟨G1,hq,rfl⟩
 obtain⟨rfl,rfl⟩:=hq
 simp only[ae]
 refine⟨.inr ⟨_,.cU⟩,?_⟩
 refine .al 13 (.int .i64 (s.l).next) rfl (rfl) ?_
 refine .eg 12 rfl (.fn rfl rfl .BP ah (Br db mb d s.c s.l.next lX kM hd hn hr fu)) ?_
 rintro v _ ⟨G1,hq,rfl⟩
 obtain⟨rfl,la,lc,rfl⟩:=hq
 simp only[ag,ae]
 refine ay ?_
 refine .dn ?_
 refine .dr [3,7,10] [an s.sx (s.cells db) 80,LG db s.l] ?_
 refine .aq fds [0] ?_
 refine .aq fds [1] ?_
 refine .aq fds [2] ?_
 refine .re 3 rfl (.ld jD rfl .p0 rfl) .vI ?_
 refine .aq fds [4] ?_
 refine .aq fds [5] ?_
 refine .aq fds [6] ?_
 refine .re 7 rfl (.ld gr rfl .p0 rfl) .vI ?_
 refine .aq fds [8] ?_
 refine .aq fds [9] ?_
 refine .re 10 rfl (.load aN rfl (af.one (i:=0) ((LG.at .p1).mono fun _ h=>h.1) rfl)) .vI ?_
 refine .eg 11 rfl (.fn rfl rfl .nil ((LG.at .p4).mono fun _ h=>h.2.2 _ (Lx.cJ (s.l))) (bZ db (s.l).ai hl.ai.1)) ?_
 rintro v _ ⟨G1,hq,rfl⟩
 obtain⟨rfl,rfl⟩:=hq
 simp only[ae]
 refine⟨.inr ⟨_,.vI⟩,?_⟩
 refine .al 26 (.int .i64 (s.l).next) rfl (rfl) ?_
 refine .eg 12 rfl (.fn rfl rfl .q5 ah (AV s.t s.l.next hT)) ?_
 rintro v _ ⟨G1,hq,rfl⟩
 obtain⟨t',Bn,Bo,rfl⟩:=hq
 simp only[ag,ae]
 refine ay ?_
 refine .dn ?_
 refine .perm .mL ?_
 refine .ca (an ((⟨s.sx,s.l,⟨s.c.cb,s.c.nm,(bg s.l.next s.c.es),la,lc⟩,t'⟩:St)).sx (St.cells ((⟨s.sx,s.l,⟨s.c.cb,s.c.nm,(bg s.l.next s.c.es),la,lc⟩,t'⟩:St)) db) 80) (by unfold St.cells;rw[Bn]) ?_
 refine .pack (L:=[an ((⟨s.sx,s.l,⟨s.c.cb,s.c.nm,(bg s.l.next s.c.es),la,lc⟩,t'⟩:St)).sx (St.cells ((⟨s.sx,s.l,⟨s.c.cb,s.c.nm,(bg s.l.next s.c.es),la,lc⟩,t'⟩:St)) db) 80,LG db ((⟨s.sx,s.l,⟨s.c.cb,s.c.nm,(bg s.l.next s.c.es),la,lc⟩,t'⟩:St)).l,CG db ((⟨s.sx,s.l,⟨s.c.cb,s.c.nm,(bg s.l.next s.c.es),la,lc⟩,t'⟩:St)).c,TG ((⟨s.sx,s.l,⟨s.c.cb,s.c.nm,(bg s.l.next s.c.es),la,lc⟩,t'⟩:St)).t]) (.cons .p0 (.cons .p4 (.cons .p1 (.cons .p0 .nil)))) ?_
 refine .sD Tryz.func51 .nil .fw ?_
 exact⟨[_,_,_],⟨t',la,lc,Bo,rfl⟩,rfl⟩
theorem F4(db mb:Nat)(d:Dk)(l:Lx)(bs:Nat)(hd:d.ok)(hl:l.ok d):Cn Tryz.prog 56 [.slice (some ⟨bs,0,none⟩) 1 1] (aL bs 0 [.func (.func 57) #[.pointer (some ⟨l.ai.b,0,none⟩)] #[]]) [LG db l,an db (d.cells mb) 74,mp aW Fl.val mb d.fs] fun v G=>v=.int .i64 0∧G=[LG db l,an db ((sync l d).cells mb) 74,mp aW Fl.val mb (sync l d).fs]:=by
 refine .en Tryz.func56 fun R k=>?_
 refine .ax fds 8 ?_
 refine .rd (.bP rfl rfl Tryz.underlying148 rfl) ?_
 refine .aH fds 2 ?_
 refine .perm .qy ?_
 refine .ca (an db ((if 0=0 then d else sync l d).cells mb) 74) (rfl) ?_
 refine .perm .wi ?_
 refine .ca (mp aW Fl.val mb (if 0=0 then d else sync l d).fs) (rfl) ?_
 refine .block ?_
 refine .loop (σ:=Nat) (fun i=>i≤1) (fun i=>1-i) (fun i=>[(6,.slice (some ⟨bs,0,none⟩) 1 1),(7,.int .i64 (1:Nat)),(8,.int .i64 (i:Nat))]) (fun i=>[LG db l,an db ((if i=0 then d else sync l d).cells mb) 74,mp aW Fl.val mb (if i=0 then d else sync l d).fs,R]) 0 (Nat.zero_le _) .r3 .Ak (fun i hI ih=>?_)
 have mm:=hI
 refine .go fds 5 ?_
 refine .aM rfl (fun h2=>?_) (fun h2=>?_)
 ·
  refine .go fds 4 ?_
  obtain rfl:i=0:=by omega
  refine .region ?_
  refine .rd (.indexAddr (b:=bs) (o:=0) Tryz.underlying148 Hl rfl rfl (by omega) (by omega)) ?_
  refine .rd (.load Ho rfl (af.one (i:=0) (af.pick .p3 (k.mono fun _ h=>h)) rfl)) ?_
  refine .ax fds 5 ?_
  refine .sR rfl rfl .px ((LG.at .p0).mono fun _ h=>h.2.2 _ l.cJ) (rF db mb d l.ai hd hl.ai.2.2.1) (fun v G1 hq=>?_)
  obtain⟨rfl,rfl⟩:=hq
  simp only[ag,ae]
  refine .ax fds 11 ?_
  refine .rd (.add rfl rfl (by omega) (by omega)) ?_
  refine .aH fds 2 ?_
  refine .ca (an db ((if 1=0 then d else sync l d).cells mb) 74) (rfl) ?_
  refine .perm .qy ?_
  refine .ca (mp aW Fl.val mb (if 1=0 then d else sync l d).fs) (rfl) ?_
  exact(ih 1 (by omega) (by omega)).to .r3 .Ak
 ·
  refine .go fds 5 ?_
  obtain rfl:i=1:=by omega
  refine .aG Tryz.func56 (.t1 rfl) .fw ?_
  exact⟨[_,_,_],⟨rfl,rfl⟩,rfl⟩
theorem ya(db mb:Nat)(d:Dk)(s:St)(hd:d.ok)(hl:s.l.ok d):Cn Tryz.prog 24 [.pointer (some ⟨s.sx,0,none⟩)] (fun _=>True) [SS db s,an db (d.cells mb) 74,mp aW Fl.val mb d.fs] fun v G=>v=.int .i64 0∧G=[SS db s,an db ((sync s.l d).cells mb) 74,mp aW Fl.val mb (sync s.l d).fs]:=by
 refine .en Tryz.func24 fun R k=>?_
 refine .unpack (L:=[an s.sx (s.cells db) 80,LG db s.l,CG db s.c,TG s.t]) .p0 ?_
 simp only[ag,ae]
 refine .ax fds 9 ?_
 refine .rd (.ld gr rfl .p0 rfl) ?_
 refine .go fds 2 ?_
 refine .rd (.load aN rfl (af.one (i:=0) ((LG.at .p1).mono fun _ h=>h.1) rfl)) ?_
 refine .rd (.makeFunc (fs:=[.pointer (some ⟨s.l.ai.b,0,none⟩)]) rfl rfl) ?_
 refine .ef (.cr (cs:=[.func (.func 57) #[.pointer (some ⟨s.l.ai.b,0,none⟩)] #[]]) Tryz.underlying148 Hq (by decide) rfl rfl rfl (aB.of rfl)) ?_
 rintro _ _ ⟨bs,rfl,rfl⟩
 refine .fn rfl rfl (.cons .p2 (.cons .p4 (.cons .p4 .nil))) (af.an .p0) (F4 db mb d s.l bs hd hl) (fun v G1 hq=>?_)
 obtain⟨rfl,rfl⟩:=hq
 simp only[ag,ae]
 refine .aH fds 2 ?_
 refine .pack (L:=[an (s).sx (St.cells (s) db) 80,LG db (s).l,CG db (s).c,TG (s).t]) (.cons .p4 (.cons .p0 (.cons .p3 (.cons .p3 .nil)))) ?_
 refine .aG Tryz.func24 (.t1 rfl) .oP ?_
 exact⟨[_,_,_],⟨rfl,rfl⟩,rfl⟩
def aQ.at_(b:aQ)(u:Int):aQ:={b with base:=u}
theorem F5(db mb:Nat)(d:Dk)(s:St)(b:aQ)(a:Option Addr)(c:Nat)(hd:d.ok)(hl:s.l.ok d)(ho:mv s.l d)(CV:s.c.nm=ek s.l.pre)(kM:bM s.c.es)(Js:dw d s.c.nm s.c.es)(CE:s.c.es.length<200)(hT:cC (bf s.t.m))(hn:s.l.next<4096)(Nj:s.l.ar.length<100000)(KI:d.fs.length<254)(hb:b.aT)(oA:b.base=s.l.next)(wN:cF b.bt)(jY:cu s.c.es≤b.bt)(D5:0<b.pid)(F6:late (aA (bf s.t.m) b.pid) b=false)(fu:d.used+8040+(enc b).length≤d.size):Cn Tryz.prog 44 [.pointer (some ⟨s.sx,0,none⟩),.agg (b.cells a c).toArray] (fun w=>LV w∧aD a (b.aS.flatMap Rec.cells) w) [SS db s,an db (d.cells mb) 74,mp aW Fl.val mb d.fs] fun v G=>∃s' d',v=.int .i64 0∧l5 s d b s' d'∧G=[SS db s',an db (d'.cells mb) 74,mp aW Fl.val mb d'.fs]:=by
 refine .en Tryz.func44 fun R k=>?_
 refine .unpack (L:=[an s.sx (s.cells db) 80,LG db s.l,CG db s.c,TG s.t]) .p0 ?_
 simp only[ag,ae]
 have ph:eS s.c.nm:=by rw[CV];exact jm hl.pre
 have PP:=hl.ai.1.kY
 have IX:=hl.ai.1.eC
 have mi:=hl.ai.1.bC
 have Gj:s.l.next=s.l.ai.next:=rfl
 have j8:cF b.base:=by unfold cF;omega
 have O5:(d.get s.c.nm).isSome=true∨d.fs.length<256:=.inr (by omega)
 have F7:d.used+4020≤d.size:=by omega
 obtain⟨hB,S9,Bk⟩:=fp hd hl CV (kM.next wN j8 CE) F7 Js
 have ym:=Js.len kM
 rw[CV]at ym
 refine .ax fds 2 ?_
 refine .ef (.box (l:=b.cells a c) rfl rfl (aB.of rfl)) ?_
 rintro _ _ ⟨bx,rfl,rfl⟩
 refine .ax fds 7 ?_
 refine .rd (.ld gS rfl .p1 rfl) ?_
 refine .fn rfl rfl .nil (CG.at .p3) (qf db s.c (by have:=kM.len;omega)) (fun v G1 hq=>?_)
 obtain⟨rfl,rfl⟩:=hq
 simp only[ae]
 refine .ax fds 6 ?_
 refine .rd (.ld ak rfl .p0 rfl) ?_
 refine .go fds 2 ?_
 refine .al 16 (.bool false) rfl (aE (by omega)) ?_
 refine .ax fds 7 ?_
 refine .rd (.ld ak rfl .p0 rfl) ?_
 refine .aH fds 3 ?_
 refine .lM (σ:=Option Addr×Nat) (φ:=fun⟨la,lc⟩=>True) (E':=fun⟨la,lc⟩=>[(0,.pointer (some ⟨s.sx,0,none⟩)),(3,.pointer (some ⟨bx,0,none⟩)),(5,.int .i64 (cu s.c.es))]) (aI:=fun⟨la,lc⟩=>[CG db ⟨s.c.cb,s.c.nm,(cg s.c.es b.bt b.base),la,lc⟩,an db ((bw d s.c (cg s.c.es b.bt b.base)).cells mb) 74,mp aW Fl.val mb (bw d s.c (cg s.c.es b.bt b.base)).fs,an s.sx (s.cells db) 80,LG db s.l,TG s.t,an bx (b.cells a c) 41,R]) (fun sj hj=>?_) (fun fin=>?_)
 ·
  obtain⟨la,lc⟩:=sj
  dsimp only
  refine .go fds 2 ?_
  refine .dr [3,4] [an s.sx (s.cells db) 80,an bx (b.cells a c) 41] ?_
  refine .aq fds [0] ?_
  refine .aq fds [1] ?_
  refine .aq fds [2] ?_
  refine .re 3 rfl (.ld gr rfl .p0 rfl) (.cons .p3 (.cons .p5 .nil)) ?_
  refine .re 4 rfl (.j4 bi aO rfl .p1 rfl) (.cons .p3 (.cons .p5 .nil)) ?_
  refine .eg 5 rfl (.fn rfl rfl (.cons .p4 (.cons .p1 (.cons .p1 .nil))) (af.pick .p4 k) (Fp db mb (bw d s.c (cg s.c.es b.bt b.base)) s.l b a c hB.cS hB.ok (hB.own ho) hb oA hn (by rw[hB.size];omega) (by have:=hB.len;omega) Nj)) ?_
  rintro v _ ⟨G1,hq,rfl⟩
  obtain⟨l',d',rfl,hA,rfl⟩:=hq
  simp only[ag,ae]
  refine ay ?_
  refine .aq fds [6] ?_
  refine .dn ?_
  refine .go fds 8 ?_
  refine .dr [3,4] [an s.sx (s.cells db) 80,an bx (b.cells a c) 41] ?_
  refine .aq fds [0] ?_
  refine .aq fds [1] ?_
  refine .aq fds [2] ?_
  refine .re 3 rfl (.ld jD rfl .p0 rfl) (.cons .p4 (.cons .p5 .nil)) ?_
  refine .re 4 rfl (.j4 bi aO rfl .p1 rfl) (.cons .p4 (.cons .p5 .nil)) ?_
  refine .eg 5 rfl (.fn rfl rfl .q5 (af.pick .p6 (k.mono fun _ h=>h.2)) (AQ s.t b a c hT D5 hb.fits hb.right F6)) ?_
  rintro v _ ⟨G1,hq,rfl⟩
  obtain⟨t',Bn,Bo,rfl⟩:=hq
  simp only[ag,ae]
  refine ay ?_
  refine .dn ?_
  refine .go fds 4 ?_
  refine .perm (.cons .p5 (.cons .p0 (.cons .p0 (.cons .p0 (.cons .p0 (.cons .p0 (.cons .p0 (.cons .p0 .nil)))))))) ?_
  refine .ca (an ((⟨s.sx,l',⟨s.c.cb,s.c.nm,(cg s.c.es b.bt b.base),la,lc⟩,t'⟩:St)).sx (St.cells ((⟨s.sx,l',⟨s.c.cb,s.c.nm,(cg s.c.es b.bt b.base),la,lc⟩,t'⟩:St)) db) 80) (by unfold St.cells;rw[Bn,hA.lb,hA.pre]) ?_
  refine .pack (L:=[an ((⟨s.sx,l',⟨s.c.cb,s.c.nm,(cg s.c.es b.bt b.base),la,lc⟩,t'⟩:St)).sx (St.cells ((⟨s.sx,l',⟨s.c.cb,s.c.nm,(cg s.c.es b.bt b.base),la,lc⟩,t'⟩:St)) db) 80,LG db ((⟨s.sx,l',⟨s.c.cb,s.c.nm,(cg s.c.es b.bt b.base),la,lc⟩,t'⟩:St)).l,CG db ((⟨s.sx,l',⟨s.c.cb,s.c.nm,(cg s.c.es b.bt b.base),la,lc⟩,t'⟩:St)).c,TG ((⟨s.sx,l',⟨s.c.cb,s.c.nm,(cg s.c.es b.bt b.base),la,lc⟩,t'⟩:St)).t]) (.cons .p0 (.cons .p1 (.cons .p3 (.cons .p0 .nil)))) ?_
  refine .aG Tryz.func44 (.t1 rfl) .oP ?_
  exact⟨[_,_,_],⟨(⟨s.sx,l',⟨s.c.cb,s.c.nm,(cg s.c.es b.bt b.base),la,lc⟩,t'⟩:St),d',rfl,⟨hA,rfl,rfl,rfl,Bo⟩,rfl⟩,rfl⟩
 ·
  refine .aM rfl (fun c4=>?_) (fun c4=>?_)
  ·
   refine .seq ?_
   refine .dr [3,5,9,12] [an s.sx (s.cells db) 80,LG db s.l,an bx (b.cells a c) 41] ?_
   refine .aq fds [0] ?_
   refine .aq fds [1] ?_
   refine .aq fds [2] ?_
   refine .re 3 rfl (.ld gS rfl .p0 rfl) .lj ?_
   refine .aq fds [4] ?_
   refine .re 5 rfl (.ld ak rfl .p2 rfl) .lj ?_
   refine .aq fds [6] ?_
   refine .aq fds [7] ?_
   refine .aq fds [8] ?_
   refine .re 9 rfl (.ld gr rfl .p0 rfl) .lj ?_
   refine .aq fds [10] ?_
   refine .aq fds [11] ?_
   refine .re 12 rfl (.load aN rfl (af.one (i:=0) ((LG.at .p1).mono fun _ h=>h.1) rfl)) .lj ?_
   refine .eg 13 rfl (.fn rfl rfl .nil ((LG.at .p2).mono fun _ h=>h.2.2 _ (Lx.cJ (s.l))) (bZ db (s.l).ai hl.ai.1)) ?_
   rintro v _ ⟨G1,hq,rfl⟩
   obtain⟨rfl,rfl⟩:=hq
   simp only[ae]
   refine⟨.inr ⟨_,.lj⟩,?_⟩
   refine .al 34 (.int .i64 (s.l).next) rfl (rfl) ?_
   refine .al 34 (.int .i64 b.base) rfl (by rw[oA]) ?_
   refine .eg 14 rfl (.fn rfl rfl (.cons .p3 (.cons .p4 (.cons .p4 .nil))) ah (CD db mb d s.c b.bt b.base wN j8 (by omega) CE kM hd ph O5 F7)) ?_
   rintro v _ ⟨G1,hq,rfl⟩
   obtain⟨rfl,la,lc,rfl⟩:=hq
   simp only[ag,ae]
   refine ay ?_
   refine .aq fds [15] ?_
   refine .dn ?_
   refine .go fds 7 ?_
   have dx:(cg s.c.es b.bt b.base)=bg b.base s.c.es++[(b.bt,b.base)]:=if_pos (by omega)
   refine .perm .kT ?_
   refine .ca (mp aW Fl.val mb (bw d s.c (cg s.c.es b.bt b.base)).fs) (by rw[dx]) ?_
   refine .perm .kT ?_
   refine .ca (an db ((bw d s.c (cg s.c.es b.bt b.base)).cells mb) 74) (by rw[dx]) ?_
   refine .perm .kT ?_
   refine .ca (CG db ⟨s.c.cb,s.c.nm,(cg s.c.es b.bt b.base),la,lc⟩) (by rw[dx]) ?_
   exact fin (la,lc) trivial .r3 (.cons .p0 (.cons .p0 (.cons .p0 (.cons .p1 (.cons .p1 (.cons .p1 (.cons .p0 (.cons .p0 .nil))))))))
  ·
   refine .skip ?_
   have dx:(cg s.c.es b.bt b.base)=s.c.es:=if_neg (by omega)
   refine .perm (.cons .p6 (.cons .p0 (.cons .p0 (.cons .p0 (.cons .p0 (.cons .p0 (.cons .p0 (.cons .p0 .nil)))))))) ?_
   refine .ca (mp aW Fl.val mb (bw d s.c (cg s.c.es b.bt b.base)).fs) (by rw[dx,bw,if_pos rfl]) ?_
   refine .perm (.cons .p6 (.cons .p0 (.cons .p0 (.cons .p0 (.cons .p0 (.cons .p0 (.cons .p0 (.cons .p0 .nil)))))))) ?_
   refine .ca (an db ((bw d s.c (cg s.c.es b.bt b.base)).cells mb) 74) (by rw[dx,bw,if_pos rfl]) ?_
   refine .perm (.cons .p5 (.cons .p0 (.cons .p0 (.cons .p0 (.cons .p0 (.cons .p0 (.cons .p0 (.cons .p0 .nil)))))))) ?_
   refine .ca (CG db ⟨s.c.cb,s.c.nm,(cg s.c.es b.bt b.base),s.c.la,s.c.lc⟩) (by rw[dx]) ?_
   exact fin (s.c.la,s.c.lc) trivial .r3 (.cons .p0 (.cons .p0 (.cons .p0 (.cons .p1 (.cons .p1 (.cons .p1 (.cons .p0 (.cons .p0 .nil))))))))
theorem mg(db mb:Nat)(d:Dk)(s:St)(b:aQ)(a:Option Addr)(c:Nat)(hd:d.ok)(hl:s.l.ok d)(ho:mv s.l d)(CV:s.c.nm=ek s.l.pre)(kM:bM s.c.es)(Js:dw d s.c.nm s.c.es)(CE:s.c.es.length<200)(hT:cC (bf s.t.m))(hn:s.l.next<4096)(Nj:s.l.ar.length<100000)(KI:d.fs.length<254)(hb:(b.at_ s.l.next).aT)(wN:cF b.bt)(jY:cu s.c.es≤b.bt)(D5:0<b.pid)(F6:late (aA (bf s.t.m) b.pid) (b.at_ s.l.next)=false)(fu:d.used+8040+(enc (b.at_ s.l.next)).length≤d.size):Cn Tryz.prog 14 [.pointer (some ⟨s.sx,0,none⟩),.agg (b.cells a c).toArray] (fun w=>LV w∧aD a (b.aS.flatMap Rec.cells) w) [SS db s,an db (d.cells mb) 74,mp aW Fl.val mb d.fs] fun v G=>∃s' d',v=.tuple #[.int .i64 s.l.next,.int .i64 0]∧l5 s d (b.at_ s.l.next) s' d'∧G=[SS db s',an db (d'.cells mb) 74,mp aW Fl.val mb d'.fs]:=by
 refine .en Tryz.func14 fun R k=>?_
 refine .unpack (L:=[an s.sx (s.cells db) 80,LG db s.l,CG db s.c,TG s.t]) .p0 ?_
 simp only[ag,ae]
 refine .ax fds 2 ?_
 refine .ef (.box (l:=b.cells a c) rfl rfl (aB.of rfl)) ?_
 rintro _ _ ⟨bx,rfl,rfl⟩
 refine .ax fds 8 ?_
 refine .rd (.ld gr rfl .p1 rfl) ?_
 refine .go fds 2 ?_
 refine .rd (.load aN rfl (af.one (i:=0) ((LG.at .p2).mono fun _ h=>h.1) rfl)) ?_
 refine .fn rfl rfl .nil ((LG.at .p2).mono fun _ h=>h.2.2 _ (Lx.cJ (s.l))) (bZ db (s.l).ai hl.ai.1) (fun v G1 hq=>?_)
 obtain⟨rfl,rfl⟩:=hq
 simp only[ae]
 refine .al 14 (.int .i64 (s.l).next) rfl (rfl) ?_
 refine .rd (.fieldAddr pz rfl) ?_
 refine .dc (.store cc rfl rfl .p0 rfl aU) ?_
 rintro _ _ rfl
 refine .ca (an bx ((b.at_ s.l.next).cells a c) 41) (rfl) ?_
 refine .aH fds 3 ?_
 refine .pack (L:=[an (s).sx (St.cells (s) db) 80,LG db (s).l,CG db (s).c,TG (s).t]) .Aj ?_
 refine .ax fds 2 ?_
 refine .rd (.j4 bi aO rfl .p1 rfl) ?_
 refine .fn rfl rfl (.cons .p0 (.cons .p1 (.cons .p1 .nil))) (af.pick .p1 k) (F5 db mb d s (b.at_ s.l.next) a c hd hl ho CV kM Js CE hT hn Nj KI hb rfl wN jY D5 F6 fu) (fun v G1 hq=>?_)
 obtain⟨s',d',rfl,hA,rfl⟩:=hq
 simp only[ag,ae]
 refine .ax fds 12 ?_
 refine .rd (.ld ak rfl .p3 rfl) ?_
 refine .aH fds 3 ?_
 refine .aG Tryz.func14 (.t2 rfl rfl) .oP ?_
 exact⟨[_,_,_],⟨s',d',rfl,hA,rfl⟩,rfl⟩
theorem Bx(db mb:Nat)(d:Dk)(s:St)(off:Int)(hd:d.ok)(hl:s.l.ok d)(CV:s.c.nm=ek s.l.pre)(kM:bM s.c.es)(hT:cC (bf s.t.m))(KI:d.fs.length<254)(h1:s.l.start≤off)(h2:off≤s.l.next)(yg:s.l.start≤aC (a8 s.l) (ie off s.l.all))(fu:d.used+4020≤d.size):Cn Tryz.prog 20 [.pointer (some ⟨s.sx,0,none⟩),.int .i64 off] LV [SS db s,an db (d.cells mb) 74,mp aW Fl.val mb d.fs] fun v G=>∃s' d',v=.int .i64 0∧KP s d off s' d'∧G=[SS db s',an db (d'.cells mb) 74,mp aW Fl.val mb d'.fs]:=by
 refine .en Tryz.func20 fun R k=>?_
 refine .unpack (L:=[an s.sx (s.cells db) 80,LG db s.l,CG db s.c,TG s.t]) .p0 ?_
 simp only[ag,ae]
 have ph:eS s.c.nm:=by rw[CV];exact jm hl.pre
 refine .ax fds 10 ?_
 refine .rd (.ld gr rfl .p0 rfl) ?_
 refine .rd (.move rfl) ?_
 refine .fn rfl rfl (.cons .p1 (.cons .p3 (.cons .p3 .nil))) (af.pick .p3 k) (IR db mb d s.l off hd hl h1 h2 yg) (fun v G1 hq=>?_)
 obtain⟨q,e,rfl,hC,rfl⟩:=hq
 simp only[ag,ae]
 refine .aH fds 10 ?_
 refine .perm .mK ?_
 refine .ca (an ((⟨s.sx,q,s.c,s.t⟩:St)).sx (St.cells ((⟨s.sx,q,s.c,s.t⟩:St)) db) 80) (by unfold St.cells;rw[hC.lb,hC.pre]) ?_
 refine .pack (L:=[an ((⟨s.sx,q,s.c,s.t⟩:St)).sx (St.cells ((⟨s.sx,q,s.c,s.t⟩:St)) db) 80,LG db ((⟨s.sx,q,s.c,s.t⟩:St)).l,CG db ((⟨s.sx,q,s.c,s.t⟩:St)).c,TG ((⟨s.sx,q,s.c,s.t⟩:St)).t]) (.cons .p0 (.cons .p0 (.cons .p2 (.cons .p2 .nil)))) ?_
 refine .ax fds 2 ?_
 refine .fn rfl rfl .ez ah (I3 db mb e (⟨s.sx,q,s.c,s.t⟩:St) hC.cS hC.ok (by have h3:=hC.ok.ai.1.kY;have h4:=hC.ok.ai.1.eC;have h5:=hC.ok.ai.1.bC;exact⟨by show 0≤q.ai.next;omega,by show q.ai.next≤_;omega⟩) kM hT ph (.inr (by have:=hC.len;omega)) (by have h3:=hC.size;have h4:=hC.used;omega)) (fun v G1 hq=>?_)
 obtain⟨t',la,lc,ht,rfl⟩:=hq
 simp only[ag,ae]
 refine .aH fds 5 ?_
 refine .aG Tryz.func20 (.t1 rfl) .fw ?_
 exact⟨[_,_,_],⟨⟨s.sx,q,⟨s.c.cb,s.c.nm,bg q.next s.c.es,la,lc⟩,t'⟩,_,rfl,⟨⟨e,hC,rfl⟩,rfl,rfl,rfl,ht⟩,rfl⟩,rfl⟩
theorem sy(db mb:Nat)(d:Dk)(s:St)(off:Nat)(hd:d.ok)(hl:s.l.ok d)(CV:s.c.nm=ek s.l.pre)(kM:bM s.c.es)(hT:cC (bf s.t.m))(KI:d.fs.length<254)(Qu:s.t.m.length≤1000000)(o6:gz (bf s.t.m)≤100000000)(h1:s.l.start≤(off:Int))(hp:(off:Int)=s.l.next∨∃b∈s.l.all,b.base=(off:Int))(h2:(off:Int)≤s.l.next)(fu:d.used+(dH (bf s.t.m)).length+5000≤d.size):Cn Tryz.prog 23 [.pointer (some ⟨s.sx,0,none⟩),.int .i64 (off:Int)] LV [SS db s,an db (d.cells mb) 74,mp aW Fl.val mb d.fs] fun v G=>∃s' d',v=.int .i64 0∧Fw s d off s' d'∧G=[SS db s',an db (d'.cells mb) 74,mp aW Fl.val mb d'.fs]:=by
 refine .en Tryz.func23 fun R k=>?_
 refine .unpack (L:=[an s.sx (s.cells db) 80,LG db s.l,CG db s.c,TG s.t]) .p0 ?_
 simp only[ag,ae]
 have ph:eS s.c.nm:=by rw[CV];exact jm hl.pre
 have IX:=hl.ai.1.eC
 have Gj:s.l.next=s.l.ai.next:=rfl
 have hB:kK s.l (eY s.l.pre) d (gJ d s):=.put hd hl (og hl.pre).2.1 (fun u hu=>cK hu) (by dsimp only;omega) (Nat.le_refl _)
 have hu:=Dk.cf hd (eY s.l.pre) ⟨dH (bf s.t.m),(dH (bf s.t.m)).length⟩
 dsimp only at hu
 have N3:(gJ d s).used≤d.used+(dH (bf s.t.m)).length:=by unfold gJ;omega
 refine .ax fds 11 ?_
 refine .rd (.ld jD rfl .p0 rfl) ?_
 refine .pack (L:=[an (s).sx (St.cells (s) db) 80,LG db (s).l,CG db (s).c,TG (s).t]) .fw ?_
 refine .fn rfl rfl .ez ah (F3 db mb d s hl.pre hd hT Qu o6 (.inr (by omega)) (by omega)) (fun v G1 hq=>?_)
 obtain⟨rfl,rfl⟩:=hq
 simp only[ag,ae]
 refine .aH fds 2 ?_
 refine .unpack (L:=[an s.sx (s.cells db) 80,LG db s.l,CG db s.c,TG s.t]) .p0 ?_
 simp only[ag,ae]
 refine .perm .iC ?_
 refine .ca (mp aW Fl.val mb (gJ d s).fs) (rfl) ?_
 refine .perm .iC ?_
 refine .ca (an db ((gJ d s).cells mb) 74) (rfl) ?_
 refine .ax fds 13 ?_
 refine .rd (.ld gr rfl .p2 rfl) ?_
 refine .rd (.move rfl) ?_
 refine .fn rfl rfl (.cons .p3 (.cons .p0 (.cons .p0 .nil))) (af.pick .p3 k) (Cw db mb (gJ d s) s.l off hB.cS hB.ok h1 hp h2 (.inr (by have:=hB.len;omega)) (by rw[hB.size];omega)) (fun v G1 hq=>?_)
 obtain⟨q,e,rfl,hD,rfl⟩:=hq
 simp only[ag,ae]
 refine .ax fds 14 ?_
 refine .rd (.ld jD rfl .p3 rfl) ?_
 refine .rd (.move rfl) ?_
 refine .fn rfl rfl .q5 ah (y8 s.t (off:Int) hT) (fun v G1 hq=>?_)
 obtain⟨t',Bn,Bo,rfl⟩:=hq
 simp only[ag,ae]
 refine .ax fds 6 ?_
 refine .rd (.ld gS rfl .p4 rfl) ?_
 refine .rd (.move rfl) ?_
 refine .fn rfl rfl (.cons .p5 (.cons .p2 (.cons .p2 .nil))) ah (zN db mb e s.c (off:Int) ⟨by omega,by omega⟩ kM hD.cS ph (.inr (by have:=hD.len;have:=hB.len;omega)) (by have h3:=hD.size;have h4:=hD.used;have h5:=hB.size;omega)) (fun v G1 hq=>?_)
 obtain⟨rfl,la,lc,rfl⟩:=hq
 simp only[ag,ae]
 refine .aH fds 5 ?_
 refine .perm .iC ?_
 refine .ca (an ((⟨s.sx,q,⟨s.c.cb,s.c.nm,dm (off:Int) s.c.es,la,lc⟩,t'⟩:St)).sx (St.cells ((⟨s.sx,q,⟨s.c.cb,s.c.nm,dm (off:Int) s.c.es,la,lc⟩,t'⟩:St)) db) 80) (by unfold St.cells;rw[hD.lb,hD.pre,Bn]) ?_
 refine .pack (L:=[an ((⟨s.sx,q,⟨s.c.cb,s.c.nm,dm (off:Int) s.c.es,la,lc⟩,t'⟩:St)).sx (St.cells ((⟨s.sx,q,⟨s.c.cb,s.c.nm,dm (off:Int) s.c.es,la,lc⟩,t'⟩:St)) db) 80,LG db ((⟨s.sx,q,⟨s.c.cb,s.c.nm,dm (off:Int) s.c.es,la,lc⟩,t'⟩:St)).l,CG db ((⟨s.sx,q,⟨s.c.cb,s.c.nm,dm (off:Int) s.c.es,la,lc⟩,t'⟩:St)).c,TG ((⟨s.sx,q,⟨s.c.cb,s.c.nm,dm (off:Int) s.c.es,la,lc⟩,t'⟩:St)).t]) (.cons .p0 (.cons .p4 (.cons .p0 (.cons .p2 .nil)))) ?_
 refine .aG Tryz.func23 (.t1 rfl) .fw ?_
 exact⟨[_,_,_],⟨(⟨s.sx,q,⟨s.c.cb,s.c.nm,dm (off:Int) s.c.es,la,lc⟩,t'⟩:St),_,rfl,⟨⟨e,hD,rfl⟩,rfl,rfl,rfl,Bo⟩,rfl⟩,rfl⟩
theorem zU(db mb:Nat)(d:Dk)(l:Lx)(hl:l.ok d)(iA:l.all.length≤100000000):Cn Tryz.prog 19 [.pointer (some ⟨l.lb,0,none⟩)] (tw db l) [an db (d.cells mb) 74,mp aW Fl.val mb d.fs] fun v G=>∃(bl:List lp) (ra:Option Addr) (rc:Nat),bl.map (·.1)=bJ l.start l.all∧v=.slice ra bl.length rc∧G=[an db (d.cells mb) 74,mp aW Fl.val mb d.fs,arr 41 6 ra rc (bl.flatMap mZ),bF (qS bl)]:=by
 refine .en Tryz.func19 fun R k=>?_
 have nK:=hl.start
 have Ai:=hl.len
 refine .ax fds 14 ?_
 refine .rd (.load cV rfl (af.one (i:=6) (af.pick .p2 (k.mono fun _ h=>h.1)) rfl)) ?_
 refine .rd (.bP rfl rfl Tryz.underlying55 rfl) ?_
 refine .aH fds 2 ?_
 refine .cq 41 6 none ?_
 refine .lB (qS []) (qS.nil) ?_
 have oS:l.ar.length=l.bX.length+1:=by unfold Lx.ar;simp
 refine .al 12 (.int .i64 (l.ar.length:Nat)) rfl (by rw[oS]) ?_
 refine .block ?_
 refine .loop (σ:=Nat×List lp×Option Addr×Nat) (fun⟨i,bl,ra,rc⟩=>i≤l.ar.length∧bl.map (·.1)=bJ l.start ((l.ar.take i).flatMap (·.bs))) (fun⟨i,bl,ra,rc⟩=>l.ar.length-i) (fun⟨i,bl,ra,rc⟩=>[(0,.pointer (some ⟨l.lb,0,none⟩)),(11,.slice l.la (l.bX.length+1) l.lc),(12,.int .i64 (l.ar.length:Nat)),(3,.slice ra bl.length rc),(13,.int .i64 (i:Nat))]) (fun⟨i,bl,ra,rc⟩=>[arr 41 6 ra rc (bl.flatMap mZ),bF (qS bl),an db (d.cells mb) 74,mp aW Fl.val mb d.fs,R]) (0,[],none,0) ⟨Nat.zero_le _,rfl⟩ .r5 .qz (fun s' hI ih=>?_)
 obtain⟨i,bl,ra,rc⟩:=s'
 dsimp only at hI ih⊢
 obtain⟨jB,cR⟩:=hI
 refine .go fds 5 ?_
 refine .aM rfl (fun c3=>?_) (fun c3=>?_)
 ·
  refine .go fds 4 ?_
  obtain⟨s,hs⟩:∃s,l.ar[i]?=some s:=⟨_,List.getElem?_eq_getElem (by omega)⟩
  have CS:=List.mem_of_getElem? hs
  obtain⟨oF,Lu,Pt,Lz⟩:=hl.gN s CS
  have mi:=oF.bC
  have gE:=oF.ed
  refine .tell (φ:=∃b o,l.la=some ⟨b,o,none⟩) (af.pick .p4 (k.mono fun _ h=>aD.addr h.2.1 (by rw[au dO];omega))) (fun hh=>?_)
  obtain⟨b9,o9,h9⟩:=hh
  refine .region ?_
  refine .rd (.indexAddr (b:=b9) (o:=o9) Tryz.underlying55 dQ (by show some (Value.slice (l.la) _ _)=_;rw[h9]) rfl (by omega) (by omega)) ?_
  refine .rd (.load aN rfl (af.one (i:=0) (af.elem (f:=sp) dO (by decide) (af.pick .p4 (k.mono fun _ h=>h9▸h.2.1)) hs) rfl)) ?_
  refine .ax fds 6 ?_
  refine .fn rfl rfl .nil (af.pick .p4 (k.mono fun _ h=>h.2.2 s CS)) (k6 db s) (fun v G1 hq=>?_)
  obtain⟨rfl,rfl⟩:=hq
  simp only[ae]
  refine .fn rfl rfl .Jj (af.pick .p2 (k.mono fun _ h=>h.2.2 s CS)) (rL db mb d s s.base 16777216 oF Pt Lz ⟨by omega,by omega⟩) (fun v G1 hq=>?_)
  obtain⟨xl,xa,xc,A8,rfl,rfl⟩:=hq
  simp only[ag,ae]
  refine .rd (.bP rfl rfl Tryz.underlying47 rfl) ?_
  refine .aH fds 2 ?_
  rw[u7 oF]at A8
  have LC:xl.length≤4096:=by have:=congrArg List.length A8;rw[List.length_map]at this;have:=oF.len;omega
  refine .settle .p2 (gm.arr) ?_
  refine .block ?_
  refine .loop (σ:=Nat×List lp×Option Addr×Nat) (fun⟨j,vK,Ju,Jv⟩=>j≤xl.length∧vK.map (·.1)=bJ l.start ((l.ar.take i).flatMap (·.bs))++bJ l.start ((xl.take j).map (·.1))) (fun⟨j,vK,Ju,Jv⟩=>xl.length-j) (fun⟨j,vK,Ju,Jv⟩=>[(0,.pointer (some ⟨l.lb,0,none⟩)),(11,.slice l.la (l.bX.length+1) l.lc),(12,.int .i64 (l.ar.length:Nat)),(13,.int .i64 (i:Nat)),(20,.slice xa xl.length xc),(21,.int .i64 (xl.length:Nat)),(3,.slice Ju vK.length Jv),(22,.int .i64 (j:Nat))]) (fun⟨j,vK,Ju,Jv⟩=>[arr 41 6 Ju Jv (vK.flatMap mZ),bF (qS vK),bF (aD xa (xl.flatMap mZ)),bF (qS xl),an db (d.cells mb) 74,mp aW Fl.val mb d.fs,R]) (0,bl,ra,rc) ⟨Nat.zero_le _,by rw[cR];simp[bJ]⟩ .r8 (.cons .p4 (.cons .p4 (.cons .p0 (.cons .p2 (.cons .p0 (.cons .p0 (.cons .p0 .nil))))))) (fun s2 hI ih=>?_)
  have Ns:=ih
  clear ih
  obtain⟨j,vK,Ju,Jv⟩:=s2
  dsimp only at hI Ns⊢
  obtain⟨Qz,Oa⟩:=hI
  refine .go fds 5 ?_
  refine .aM rfl (fun c6=>?_) (fun c6=>?_)
  ·
   refine .go fds 4 ?_
   obtain⟨y,hy⟩:∃y,xl[j]?=some y:=⟨_,List.getElem?_eq_getElem (by omega)⟩
   have Pv:y.1∈s.bs:=by rw[←A8];exact List.mem_map_of_mem (List.mem_of_getElem? hy)
   have Ob:=oF.aT _ Pv
   have Qa:=Ob.base
   have zV:=Ob.en
   have U5:=Ob.uI
   have Q5:=Ob.lt
   have yl:vK.length≤l.all.length:=by
    have h1:=congrArg List.length Oa
    rw[List.length_map,List.length_append]at h1
    have h2:=kF l.start ((l.ar.take i).flatMap (·.bs))
    have h3:=kF l.start ((xl.take j).map (·.1))
    rw[List.length_map,List.length_take]at h3
    have h4:=Ia hs
    have h5:=congrArg List.length A8
    rw[List.length_map]at h5
    omega
   refine .tell (φ:=∃b o,xa=some ⟨b,o,none⟩) ((af.bF .p2).mono fun _ h=>aD.addr h (by rw[au cW];omega)) (fun hh=>?_)
   obtain⟨b8,o8,h8⟩:=hh
   refine .region ?_
   refine .rd (.indexAddr (b:=b8) (o:=o8) Tryz.underlying47 aO (by show some (Value.slice (xa) _ _)=_;rw[h8]) rfl (by omega) (by omega)) ?_
   refine .rd (.fT bi aO rfl rfl (af.elem (f:=mZ) cW (by decide) ((af.bF .p2).mono fun _ h=>h8▸h) hy)) ?_
   refine .ef (.alloc di rfl (aB.of rfl)) ?_
   rintro _ _ ⟨b7,rfl,rfl⟩
   refine .dc (.storeAll aO rfl rfl (by rfl) .p0 rfl (aB.of rfl)) ?_
   rintro _ _ rfl
   refine .nil ?_
   refine .ca (an b7 (mZ y) 41) (rfl) ?_
   refine .seq ?_
   refine .dr [0,5] [an b7 (mZ y) 41,R] ?_
   refine .re 0 rfl (.j4 bi aO rfl .p0 rfl) (.cons .p0 (.cons .p6 .nil)) ?_
   refine .aq fds [2] ?_
   refine .aq fds [3] ?_
   refine .aq fds [4] ?_
   refine .re 5 rfl (.load ak rfl (af.one (i:=4) (af.pick .p1 (k.mono fun _ h=>h.1)) rfl)) (.cons .p0 (.cons .p6 .nil)) ?_
   refine .eg 1 rfl (.fn rfl rfl .nil ah (vj y.1 y.2.1 y.2.2 (by omega) (by omega) (by omega))) ?_
   rintro v _ ⟨G1,hq,rfl⟩
   obtain⟨rfl,rfl⟩:=hq
   simp only[ae]
   refine⟨.inr ⟨_,(.cons .p0 (.cons .p6 .nil))⟩,?_⟩
   refine .aq fds [6] ?_
   refine .dn ?_
   refine .aM rfl (fun c8=>?_) (fun c8=>?_)
   ·
    refine .ax fds 2 ?_
    refine .rd (.j4 bi aO rfl .p0 rfl) ?_
    refine .ef (.cr (cs:=mZ y) Tryz.underlying47 di (by decide) rfl rfl rfl (aB.of rfl)) ?_
    rintro _ _ ⟨bo,rfl,rfl⟩
    refine .ef (.append rfl rfl Tryz.underlying47 di rfl (aB.of rfl) (by decide) (by decide) rfl rfl .p2 (n:=vK.length) (m:=1) (au cW _) (.dM .p0 Tryz.underlying47 rfl (by decide)) (by omega)) ?_
    rintro _ _ ⟨qa,qc,rfl,qn,rfl⟩
    refine .aH fds 2 ?_
    refine .ca (arr 41 6 qa qc ((vK++[y]).flatMap mZ)) (by rw[List.flatMap_append];simp) ?_
    refine .dup .p5 ?_
    refine .ur (qS (vK++[y])) (.cons .p5 (.cons .p0 .nil)) (fun w h1 h2=>h1.snoc (h2 y (List.mem_of_getElem? hy))) ?_
    refine .ax fds 2 ?_
    refine .rd (.add rfl rfl (by omega) (by omega)) ?_
    refine .aH fds 2 ?_
    have hJ:j+1≤xl.length∧(vK++[y]).map (·.1)=bJ l.start ((l.ar.take i).flatMap (·.bs))++bJ l.start ((xl.take (j+1)).map (·.1)):=⟨by omega,by rw[List.map_append,tB hy,eE,w6 c8,Oa,List.append_assoc];rfl⟩
    exact(Ns (j+1,vK++[y],qa,qc) hJ (by show xl.length-(j+1)<xl.length-j;omega)).to (.cons rfl (.cons rfl (.cons rfl (.cons rfl (.cons rfl (.cons rfl (.cons (by first|rfl|(show _=some (Value.slice _ (List.length _) _);rw[List.length_append];rfl)) .r1))))))) (.cons .p2 (.cons .p0 (.cons .p3 (.cons .p0 (.cons .p2 (.cons .p2 (.cons .p2 .nil)))))))
   ·
    refine .ax fds 3 ?_
    refine .rd (.add rfl rfl (by omega) (by omega)) ?_
    refine .aH fds 2 ?_
    have hJ:j+1≤xl.length∧(vK).map (·.1)=bJ l.start ((l.ar.take i).flatMap (·.bs))++bJ l.start ((xl.take (j+1)).map (·.1)):=⟨by omega,by rw[tB hy,eE,Ci c8,List.append_nil];exact Oa⟩
    exact(Ns (j+1,vK,Ju,Jv) hJ (by show xl.length-(j+1)<xl.length-j;omega)).to (.cons rfl (.cons rfl (.cons rfl (.cons rfl (.cons rfl (.cons rfl (.cons (by first|rfl|(show _=some (Value.slice _ (List.length _) _);rw[List.length_append];rfl)) .r1))))))) (.cons .p1 (.cons .p1 (.cons .p1 (.cons .p1 (.cons .p1 (.cons .p1 (.cons .p1 .nil)))))))
  ·
   refine .ax fds 3 ?_
   refine .rd (.add rfl rfl (by omega) (by omega)) ?_
   refine .aH fds 2 ?_
   have Gr:i+1≤l.ar.length∧vK.map (·.1)=bJ l.start ((l.ar.take (i+1)).flatMap (·.bs)):=⟨by omega,by rw[Oa,tA hs,eE,List.take_of_length_le (l:=xl) (show xl.length≤j by omega),A8]⟩
   exact(ih (i+1,vK,Ju,Jv) Gr (by show l.ar.length-(i+1)<l.ar.length-i;omega)).to .r5 (.cons .p0 (.cons .p0 (.cons .p2 (.cons .p2 (.cons .p2 .nil)))))
 ·
  refine .go fds 6 ?_
  have fB:bl.map (·.1)=bJ l.start l.all:=by rw[cR,List.take_of_length_le (by omega)];rfl
  refine .aG Tryz.func19 (.t1 rfl) (.cons .p2 (.cons .p2 (.cons .p0 (.cons .p0 (.cons .p0 .nil))))) ?_
  exact⟨[_,_,_,_],⟨bl,ra,rc,fB,rfl,rfl⟩,rfl⟩
theorem nI(db mb:Nat)(d:Dk)(pre:Nm)(most:Int)(es:List Ep)(D:Tm)(φ:Lx→Dk→Prop)(hO:Cn Tryz.prog 32 [.pointer (some ⟨db,0,none⟩),aW pre,.int .i64 most] LV [an db (d.cells mb) 74,mp aW Fl.val mb d.fs] fun v G=>∃l d',v=.tuple #[.pointer (some ⟨l.lb,0,none⟩),.int .i64 0]∧φ l d'∧G=[LG db l,an db (d'.cells mb) 74,mp aW Fl.val mb d'.fs])(hA:∀l e,φ l e→Bg pre es D l e):Cn Tryz.prog 9 [.pointer (some ⟨db,0,none⟩),aW pre,.int .i64 most] LV [an db (d.cells mb) 74,mp aW Fl.val mb d.fs] fun v G=>∃s e d',v=.tuple #[.pointer (some ⟨s.sx,0,none⟩),.int .i64 0]∧φ s.l e∧Bh pre es D s e d'∧G=[SS db s,an db (d'.cells mb) 74,mp aW Fl.val mb d'.fs]:=by
 refine .en Tryz.func9 fun R k=>?_
 refine .ax fds 10 ?_
 refine .fn rfl rfl .cU (af.pick .p0 k) (hO) (fun v G1 hq=>?_)
 obtain⟨l,e,rfl,By,rfl⟩:=hq
 simp only[ag,ae]
 have hF:=hA l e By
 have hp:=hF.ok.pre
 refine .aH fds 6 ?_
 have AW:=hp.len
 rw[hF.xI]at AW
 refine .ax fds 12 ?_
 refine .rd (.dZ (l:=pre) (m:=[46,101,112,111,99,104,115]) rfl rfl (by simp only[List.length_cons,List.length_nil];omega)) ?_
 refine .al 29 (aW (ek pre)) rfl (rfl) ?_
 refine .fn rfl rfl .px ah (F2 db mb e (ek pre) es hF.IS hF.eM.JO) (fun v G1 hq=>?_)
 obtain⟨cb,la,lc,rfl,rfl⟩:=hq
 simp only[ag,ae]
 refine .ax fds 20 ?_
 refine .fn rfl rfl .nil ah (AP) (fun v G1 hq=>?_)
 obtain⟨tb,Nu,rfl,rfl⟩:=hq
 simp only[ag,ae]
 refine .rd (.build rfl (Hr _ _ _ _ _)) ?_
 refine .ef (.box (l:=[.pointer (some ⟨db,0,none⟩),aW pre,.pointer (some ⟨l.lb,0,none⟩),.pointer (some ⟨cb,0,none⟩),.pointer (some ⟨tb,0,none⟩)]) rfl rfl (aB.of rfl)) ?_
 rintro _ _ ⟨sb,rfl,rfl⟩
 refine .ax fds 7 ?_
 refine .fn rfl rfl .nil ((af.an .p0).mono fun _ h=>by show aL _ _ (St.cells _ _) _;unfold St.cells;rw[show(⟨sb,l,(⟨cb,ek pre,es,la,lc⟩:Cx),⟨tb,Nu,[]⟩⟩:St).l.pre=pre from hF.xI];exact h) (Bw db (⟨sb,l,(⟨cb,ek pre,es,la,lc⟩:Cx),⟨tb,Nu,[]⟩⟩:St) hp) (fun v G1 hq=>?_)
 obtain⟨rfl,rfl⟩:=hq
 simp only[ae]
 refine .al 46 (aW (eY pre)) rfl (by rw[show(⟨sb,l,(⟨cb,ek pre,es,la,lc⟩:Cx),⟨tb,Nu,[]⟩⟩:St).l.pre=pre from hF.xI]) ?_
 refine .fn rfl rfl .vI ah (jN db mb e (eY pre)) (fun v G1 hq=>?_)
 obtain⟨rfl,rfl⟩:=hq
 simp only[ag,ae]
 refine .aH fds 11 ?_
 refine .lM (σ:=Tb) (φ:=fun t=>bf t.m=D) (E':=fun t=>[(8,.pointer (some ⟨l.lb,0,none⟩)),(10,.pointer (some ⟨cb,0,none⟩)),(11,.pointer (some ⟨sb,0,none⟩))]) (aI:=fun t=>[an sb [.pointer (some ⟨db,0,none⟩),aW pre,.pointer (some ⟨l.lb,0,none⟩),.pointer (some ⟨cb,0,none⟩),.pointer (some ⟨t.tb,0,none⟩)] 80,LG db l,CG db (⟨cb,ek pre,es,la,lc⟩:Cx),TG t,an db (e.cells mb) 74,mp aW Fl.val mb e.fs,R]) (fun sj hj=>?_) (fun fin=>?_)
 ·
  obtain⟨t,rfl⟩:∃t,t=sj:=⟨_,rfl⟩
  have hD:=hj
  refine .seq ?_
  have PP:=hF.ok.ai.1.kY
  have IX:=hF.ok.ai.1.eC
  have mi:=hF.ok.ai.1.bC
  have Ta:cC (bf t.m):=by rw[hD];exact hF.zF.lf
  refine .dr [3,7] [an sb [.pointer (some ⟨db,0,none⟩),aW pre,.pointer (some ⟨l.lb,0,none⟩),.pointer (some ⟨cb,0,none⟩),.pointer (some ⟨t.tb,0,none⟩)] 80,LG db l] ?_
  refine .aq fds [0] ?_
  refine .aq fds [1] ?_
  refine .aq fds [2] ?_
  refine .re 3 rfl (.ld gS rfl .p0 rfl) .cU ?_
  refine .aq fds [4] ?_
  refine .aq fds [5] ?_
  refine .aq fds [6] ?_
  refine .re 7 rfl (.load aN rfl (af.one (i:=0) ((LG.at .p1).mono fun _ h=>h.1) rfl)) .cU ?_
  refine .eg 8 rfl (.fn rfl rfl .nil ((LG.at .p1).mono fun _ h=>h.2.2 _ (Lx.cJ (l))) (bZ db (l).ai hF.ok.ai.1)) ?_
  rintro v _ ⟨G1,hq,rfl⟩
  obtain⟨rfl,rfl⟩:=hq
  simp only[ae]
  refine⟨.inr ⟨_,.cU⟩,?_⟩
  refine .al 71 (.int .i64 (l).next) rfl (rfl) ?_
  refine .eg 9 rfl (.fn rfl rfl .BP ah (Br db mb e (⟨cb,ek pre,es,la,lc⟩:Cx) l.next ⟨by show 0≤l.ai.next;omega,by show l.ai.next≤_;omega⟩ hF.IS hF.cS (jm (hF.xI▸hp)) (.inr (by have:=hF.len;omega)) hF.room)) ?_
  rintro v _ ⟨G1,hq,rfl⟩
  obtain⟨rfl,CX,CY,rfl⟩:=hq
  simp only[ag,ae]
  refine ay ?_
  refine .dn ?_
  refine .seq ?_
  refine .dr [3] [an sb [.pointer (some ⟨db,0,none⟩),aW pre,.pointer (some ⟨l.lb,0,none⟩),.pointer (some ⟨cb,0,none⟩),.pointer (some ⟨t.tb,0,none⟩)] 80] ?_
  refine .aq fds [0] ?_
  refine .aq fds [1] ?_
  refine .aq fds [2] ?_
  refine .re 3 rfl (.ld jD rfl .p0 rfl) .q3 ?_
  refine .aq fds [4] ?_
  refine .eg 5 rfl (.fn rfl rfl .nil ((LG.at .p4).mono fun _ h=>h.1) (kH l.lb db (some ⟨l.ai.b,0,none⟩) l.pre l.most l.start l.aJ l.la (l.bX.length+1) l.lc)) ?_
  rintro v _ ⟨G1,hq,rfl⟩
  obtain⟨rfl,rfl⟩:=hq
  simp only[ae]
  refine⟨.inr ⟨_,.q3⟩,?_⟩
  refine .eg 6 rfl (.fn rfl rfl .q5 ah (AV t l.start Ta)) ?_
  rintro v _ ⟨G1,hq,rfl⟩
  obtain⟨t2,Tc,h2,rfl⟩:=hq
  simp only[ag,ae]
  refine ay ?_
  refine .dn ?_
  refine .perm .mL ?_
  refine .ca (an sb [.pointer (some ⟨db,0,none⟩),aW pre,.pointer (some ⟨l.lb,0,none⟩),.pointer (some ⟨cb,0,none⟩),.pointer (some ⟨t2.tb,0,none⟩)] 80) (by rw[Tc]) ?_
  rw[hD]at h2
  obtain⟨hB,_,_⟩:=fp (c:=(⟨cb,ek pre,es,la,lc⟩:Cx)) (es:=bg l.next es) hF.cS hF.ok (by rw[hF.xI]) (hF.IS.cut _) hF.room hF.eM
  refine .ax fds 4 ?_
  refine .fn rfl rfl .vI (LG.at .p3) (zU db mb (bw e (⟨cb,ek pre,es,la,lc⟩:Cx) (bg l.next es)) l hB.ok hF.cap) (fun v G1 hq=>?_)
  obtain⟨bl,ra,rc,yl,rfl,rfl⟩:=hq
  simp only[ag,ae]
  refine .rd (.bP rfl rfl Tryz.underlying47 rfl) ?_
  refine .aH fds 2 ?_
  have I4:bl.map (·.1)=l.fN:=yl
  have Q6:bl.length≤100000000:=by have h1:=congrArg List.length I4;rw[List.length_map]at h1;have h2:=kF l.start l.all;have h3:=hF.cap;rw[h1];unfold Lx.fN;omega
  refine .block ?_
  refine .loop (σ:=Nat×Tb) (fun⟨i,t3⟩=>i≤bl.length∧bf t3.m=(l.fN.take i).foldl note (iK l.start D)∧t3.tb=t2.tb) (fun⟨i,t3⟩=>bl.length-i) (fun⟨i,t3⟩=>[(10,.pointer (some ⟨cb,0,none⟩)),(11,.pointer (some ⟨sb,0,none⟩)),(81,.slice ra bl.length rc),(82,.int .i64 (bl.length:Nat)),(83,.int .i64 (i:Nat))]) (fun⟨i,t3⟩=>[an sb [.pointer (some ⟨db,0,none⟩),aW pre,.pointer (some ⟨l.lb,0,none⟩),.pointer (some ⟨cb,0,none⟩),.pointer (some ⟨t2.tb,0,none⟩)] 80,LG db l,CG db (⟨cb,ek pre,bg l.next es,CX,CY⟩:Cx),TG t3,an db ((bw e (⟨cb,ek pre,es,la,lc⟩:Cx) (bg l.next es)).cells mb) 74,mp aW Fl.val mb (bw e (⟨cb,ek pre,es,la,lc⟩:Cx) (bg l.next es)).fs,arr 41 6 ra rc (bl.flatMap mZ),bF (qS bl),R]) (0,t2) ⟨Nat.zero_le _,h2,rfl⟩ .r5 (.cons .p4 (.cons .p6 (.cons .p5 (.cons .p4 (.cons .p0 (.cons .p0 (.cons .p0 (.cons .p0 (.cons .p0 .nil))))))))) (fun s' hI ih=>?_)
  obtain⟨i,t3⟩:=s'
  dsimp only at hI ih⊢
  obtain⟨mm,h3,PR⟩:=hI
  refine .go fds 5 ?_
  refine .aM rfl (fun MN=>?_) (fun MN=>?_)
  ·
   refine .go fds 4 ?_
   refine .tell (φ:=∃b o,ra=some ⟨b,o,none⟩) ((af.arr .p6).mono fun _ h=>aD.addr h (by rw[au cW];omega)) (fun hh=>?_)
   obtain⟨b9,o9,h9⟩:=hh
   obtain⟨y,hy⟩:∃y,bl[i]?=some y:=⟨_,List.getElem?_eq_getElem (by omega)⟩
   have PS:l.fN[i]?=some y.1:=by rw[←I4,List.getElem?_map,hy];rfl
   obtain⟨n1,n2,n3,n4,n5⟩:=hF.notes i y.1 PS
   have U6:=hF.ep y.1 (List.mem_of_getElem? PS)
   rw[←h3]at n1 n5
   refine .region ?_
   refine .rd (.indexAddr (b:=b9) (o:=o9) Tryz.underlying47 aO (by show some (Value.slice (ra) _ _)=_;rw[h9]) rfl (by omega) (by omega)) ?_
   refine .rd (.fT bi aO rfl rfl (af.elem (f:=mZ) cW (by decide) ((af.arr .p6).mono fun _ h=>h9▸h) (hy))) ?_
   refine .ef (.alloc di rfl (aB.of rfl)) ?_
   rintro _ _ ⟨OQ,rfl,rfl⟩
   refine .dc (.storeAll (vs:=y.1.cells y.2.1 y.2.2) aO rfl rfl rfl .p0 rfl (aB.of rfl)) ?_
   rintro _ _ rfl
   refine .aH fds 3 ?_
   refine .dr [1] [an OQ (y.1.cells y.2.1 y.2.2) 41] ?_
   refine .aq fds [0] ?_
   refine .re 1 rfl (.ld ak rfl .p0 rfl) .q0 ?_
   refine .aq fds [2] ?_
   refine .eg 3 rfl (.fn rfl rfl .nil (CG.at .p3) (qf db (⟨cb,ek pre,bg l.next es,CX,CY⟩:Cx) (by have:=(hF.IS.cut l.next).len;show(bg l.next es).length≤_;omega))) ?_
   rintro v _ ⟨G1,hq,rfl⟩
   obtain⟨rfl,rfl⟩:=hq
   simp only[ae]
   refine⟨.inr ⟨_,.q0⟩,?_⟩
   refine .aq fds [4] ?_
   refine .al 91 (.bool false) rfl (aE (by show¬cu (bg l.next es)<_;omega)) ?_
   refine .dn ?_
   refine .go fds 2 ?_
   refine .dr [3,4] [an sb [.pointer (some ⟨db,0,none⟩),aW pre,.pointer (some ⟨l.lb,0,none⟩),.pointer (some ⟨cb,0,none⟩),.pointer (some ⟨t2.tb,0,none⟩)] 80,an OQ (y.1.cells y.2.1 y.2.2) 41] ?_
   refine .aq fds [0] ?_
   refine .aq fds [1] ?_
   refine .aq fds [2] ?_
   refine .re 3 rfl (.ld jD rfl .p0 rfl) .Gg ?_
   refine .al 101 (.pointer (some ⟨t3.tb,0,none⟩)) rfl (by rw[PR]) ?_
   refine .re 4 rfl (.j4 bi aO rfl .p1 rfl) .Gg ?_
   refine .eg 5 rfl (.fn rfl rfl .q4 ((af.bF .p7).mono fun _ h=>h y (List.mem_of_getElem? hy)) (AQ t3 y.1 y.2.1 y.2.2 n1 n2 n3 n4 n5)) ?_
   rintro v _ ⟨G1,hq,rfl⟩
   obtain⟨t4,Td,h4,rfl⟩:=hq
   simp only[ag,ae]
   refine ay ?_
   refine .dn ?_
   have Te:bf t4.m=(l.fN.take (i+1)).foldl note (iK l.start D):=by rw[h4,h3,List.take_add_one,PS,List.foldl_append];rfl
   refine .ax fds 2 ?_
   refine .rd (.add rfl rfl (by omega) (by omega)) ?_
   refine .aH fds 2 ?_
   exact(ih (i+1,t4) ⟨by show i+1≤bl.length;omega,Te,by show t4.tb=t2.tb;rw[Td,PR]⟩ (by show bl.length-(i+1)<bl.length-i;omega)).to .r5 (.cons .p2 (.cons .p2 (.cons .p2 (.cons .p0 (.cons .p1 (.cons .p1 (.cons .p1 (.cons .p1 (.cons .p1 .nil)))))))))
  ·
   refine .go fds 7 ?_
   obtain rfl:i=bl.length:=by omega
   have J5:bf t3.m=l.fN.foldl note (iK l.start D):=by rw[h3,show bl.length=l.fN.length by rw[←I4,List.length_map],List.take_length]
   refine .ca (an ((⟨sb,l,(⟨cb,ek pre,bg l.next es,CX,CY⟩:Cx),t3⟩:St)).sx (St.cells ((⟨sb,l,(⟨cb,ek pre,bg l.next es,CX,CY⟩:Cx),t3⟩:St)) db) 80) (by unfold St.cells;rw[show(St.mk sb l (⟨cb,ek pre,bg l.next es,CX,CY⟩:Cx) t3).l.pre=pre from hF.xI,show(St.mk sb l (⟨cb,ek pre,bg l.next es,CX,CY⟩:Cx) t3).t.tb=t2.tb from PR]) ?_
   refine .pack (L:=[an ((⟨sb,l,(⟨cb,ek pre,bg l.next es,CX,CY⟩:Cx),t3⟩:St)).sx (St.cells ((⟨sb,l,(⟨cb,ek pre,bg l.next es,CX,CY⟩:Cx),t3⟩:St)) db) 80,LG db ((⟨sb,l,(⟨cb,ek pre,bg l.next es,CX,CY⟩:Cx),t3⟩:St)).l,CG db ((⟨sb,l,(⟨cb,ek pre,bg l.next es,CX,CY⟩:Cx),t3⟩:St)).c,TG ((⟨sb,l,(⟨cb,ek pre,bg l.next es,CX,CY⟩:Cx),t3⟩:St)).t]) .fw ?_
   refine .aG Tryz.func9 (.t2 rfl rfl) (.cons .p0 (.cons .p0 (.cons .p0 (.cons .p2 .nil)))) ?_
   exact⟨[_,_,_],⟨(⟨sb,l,(⟨cb,ek pre,bg l.next es,CX,CY⟩:Cx),t3⟩:St),e,_,rfl,By,⟨rfl,rfl,rfl,J5⟩,rfl⟩,rfl⟩
 ·
  refine .aM rfl (fun c9=>?_) (fun c9=>?_)
  ·
   obtain⟨hg,hb,Tf,Tg,Q0⟩:(e.get (eY pre)).isSome=true∧(e.file (eY pre)).b=gM D∧jL D∧D.length≤1000000∧gz D≤400000000:=by
    rcases hF.zF with h|h
    ·
     rw[h.1]at c9;exact absurd c9 (by decide)
    ·
     exact h
   refine .al 12 (.string (str (gM D))) rfl (by rw[hb];rfl) ?_
   refine .ax fds 4 ?_
   refine .fn rfl rfl .nil ah (I0 D Tf Tg Q0) (fun v G1 hq=>?_)
   obtain⟨t1,rfl,Bn,rfl⟩:=hq
   simp only[ag,ae]
   refine .go fds 5 ?_
   refine .dc (.store Hs rfl rfl .p3 rfl aU) ?_
   rintro _ _ rfl
   refine .ca (an sb [.pointer (some ⟨db,0,none⟩),aW pre,.pointer (some ⟨l.lb,0,none⟩),.pointer (some ⟨cb,0,none⟩),.pointer (some ⟨t1.tb,0,none⟩)] 80) (rfl) ?_
   refine .aH fds 9 ?_
   exact fin t1 Bn .r3 (.cons .p0 (.cons .p5 (.cons .p4 (.cons .p0 (.cons .p0 (.cons .p0 (.cons .p1 .nil)))))))
  ·
   obtain rfl:D=[]:=by
    rcases hF.zF with h|h
    ·
     exact h.2
    ·
     rw[if_pos h.1]at c9;exact absurd rfl c9
   refine .skip ?_
   refine .perm .mM ?_
   refine .ca (an sb [.pointer (some ⟨db,0,none⟩),aW pre,.pointer (some ⟨l.lb,0,none⟩),.pointer (some ⟨cb,0,none⟩),.pointer (some ⟨(⟨tb,Nu,[]⟩:Tb).tb,0,none⟩)] 80) (rfl) ?_
   exact fin ⟨tb,Nu,[]⟩ rfl .r3 (.cons .p0 (.cons .p4 (.cons .p3 (.cons .p2 (.cons .p0 (.cons .p0 (.cons .p0 .nil)))))))
theorem nJ(ep pid seq:Int)(n:Nat)(hn:n≤1000):Cn Tryz.prog 13 [.int .i64 ep,.int .i64 pid,.int .i64 seq,.int .i64 (n:Nat)] (fun _=>True) [] fun v G=>∃ra rc,v=.agg ((gh ep pid 0 seq n 0).cells ra rc).toArray∧G=[arr 99 3 ra rc ((gh ep pid 0 seq n 0).aS.flatMap Rec.cells)]:=by
 refine .en Tryz.func13 fun R k=>?_
 refine .ax fds 2 ?_
 refine .ef (.alloc di rfl (aB.of rfl)) ?_
 rintro _ _ ⟨b8,rfl,rfl⟩
 refine .ax fds 6 ?_
 refine .rd (.build rfl (Ht _ _ _)) ?_
 refine .ef (.alloc di rfl (aB.of rfl)) ?_
 rintro _ _ ⟨b9,rfl,rfl⟩
 refine .dc (.storeAll aO rfl rfl rfl .p0 rfl (aB.of rfl)) ?_
 rintro _ _ rfl
 refine .aH fds 3 ?_
 refine .ca (an b9 [.int .i64 0,.int .i64 ep,.int .i64 pid,.int .i64 0,.int .i64 seq,.slice none 0 0] 41) (rfl) ?_
 refine .cq 99 3 none ?_
 refine .go fds 4 ?_
 refine .loop (σ:=Nat×Option Addr×Nat) (fun⟨i,ra,rc⟩=>i≤n) (fun⟨i,ra,rc⟩=>n-i) (fun⟨i,ra,rc⟩=>[(3,.int .i64 (n:Nat)),(8,.pointer (some ⟨b8,0,none⟩)),(9,.pointer (some ⟨b9,0,none⟩)),(10,.int .i64 (i:Nat))]) (fun⟨i,ra,rc⟩=>[an b9 [.int .i64 0,.int .i64 ep,.int .i64 pid,.int .i64 0,.int .i64 seq,.slice ra i rc] 41,arr 99 3 ra rc ((List.replicate i nE).flatMap Rec.cells),an b8 [.int .i64 0,.int .i64 0,.int .i64 0,.int .i64 0,.int .i64 0,.slice none 0 0] 41,R]) (0,none,0) (Nat.zero_le _) .r4 .qy (fun s' hI ih=>?_)
 obtain⟨i,ra,rc⟩:=s'
 dsimp only at hI ih⊢
 refine .go fds 7 ?_
 refine .aM rfl (fun h3=>?_) (fun h3=>?_)
 ·
  refine .ax fds 5 ?_
  refine .rd (.ld gG rfl .p0 rfl) ?_
  refine .rd (.build rfl (G8 _)) ?_
  refine .ef (.cr (cs:=nE.cells) Tryz.underlying39 iO (by decide) rfl rfl rfl (aB.of rfl)) ?_
  rintro _ _ ⟨bo,rfl,rfl⟩
  refine .ef (.append rfl rfl Tryz.underlying39 iO rfl (aB.of rfl) (by decide) (by decide) rfl rfl .p2 (n:=i) (m:=1) (II i) (.dM .p0 Tryz.underlying39 rfl (by decide)) (by omega)) ?_
  rintro _ _ ⟨qa,qc,rfl,qn,rfl⟩
  refine .rd (.fieldAddr qB rfl) ?_
  refine .dc (.store Au rfl rfl .p2 rfl aU) ?_
  rintro _ _ rfl
  refine .nil ?_
  refine .perm .qz ?_
  refine .ca (arr 99 3 qa qc ((List.replicate (i+1) nE).flatMap Rec.cells)) (by rw[Fm]) ?_
  refine .perm .qz ?_
  refine .ca (an b9 [.int .i64 0,.int .i64 ep,.int .i64 pid,.int .i64 0,.int .i64 seq,.slice qa (i+1) qc] 41) (rfl) ?_
  refine .ax fds 3 ?_
  refine .rd (.add rfl rfl (by omega) (by omega)) ?_
  refine .aH fds 2 ?_
  exact(ih (i+1,qa,qc) (by show i+1≤_;omega) (by show n-(i+1)<n-i;omega)).to .r4 .DC
 ·
  refine .ax fds 3 ?_
  refine .rd (.j4 bi aO rfl .p0 rfl) ?_
  refine .dc (.storeAll aO rfl rfl (by rfl) .p2 rfl (aB.of rfl)) ?_
  rintro _ _ rfl
  refine .nil ?_
  obtain rfl:i=n:=by omega
  refine .ca (an b8 ((gh ep pid 0 seq i 0).cells ra rc) 41) (by show _=an b8 [_,_,_,_,_,.slice ra (List.replicate i nE).length rc] 41;rw[List.length_replicate];rfl) ?_
  refine .aG Tryz.func13 (.cons (.yy bi aO rfl .p0 rfl) .nil) .Jj ?_
  exact⟨[_],⟨ra,rc,rfl,rfl⟩,rfl⟩
theorem zW(db mb:Nat){Z iZ jZ:Nat}{E:Int}{D:Tm}(d:Dk)(s:St)(hb:bz Z iZ jZ E s d)(h:dW D s d)(hi:iZ≤1000):Cn Tryz.prog 25 [.pointer (some ⟨s.sx,0,none⟩)] LV [SS db s,an db (d.cells mb) 74,mp aW Fl.val mb d.fs] fun v G=>v=.bool true∧G=[SS db s,an db (d.cells mb) 74,mp aW Fl.val mb d.fs]:=by
 refine .en Tryz.func25 fun R k=>?_
 have nK:=hb.ok.start
 refine .ax fds 7 ?_
 refine .fn rfl rfl .nil (SS.cells .p0) (iX db s) (fun v G1 hq=>?_)
 obtain⟨rfl,rfl⟩:=hq
 simp only[ae]
 refine .fn rfl rfl .px (SS.log .p0) (zU db mb d s.l hb.ok (by have:=hb.all;omega)) (fun v G1 hq=>?_)
 obtain⟨bl,ra,rc,yl,rfl,rfl⟩:=hq
 simp only[ag,ae]
 have I4:bl.map (·.1)=s.l.fN:=yl
 have Q6:bl.length≤100000:=by have h1:=congrArg List.length I4;rw[List.length_map]at h1;have h2:=kF s.l.start s.l.all;have h3:=hb.all;rw[h1];unfold Lx.fN;omega
 refine .aH fds 8 ?_
 refine .loop (σ:=Nat) (fun p=>1≤p∧p≤3) (fun p=>3-p) (fun p=>[(0,.pointer (some ⟨s.sx,0,none⟩)),(3,.slice ra bl.length rc),(4,.int .i64 (p:Nat))]) (fun p=>[SS db s,an db (d.cells mb) 74,mp aW Fl.val mb d.fs,arr 41 6 ra rc (bl.flatMap mZ),R]) 1 ⟨by decide,by decide⟩ .r3 (.cons .p4 (.cons .p0 (.cons .p0 (.cons .p0 (.cons .p1 .nil))))) (fun p hI ih=>?_)
 have hp:=hI
 have MJ:=ih
 refine .go fds 6 ?_
 refine .aM rfl (fun c3=>?_) (fun c3=>?_)
 ·
  refine .go fds 8 ?_
  refine .loop (σ:=Nat) (fun q=>q≤8) (fun q=>8-q) (fun q=>[(0,.pointer (some ⟨s.sx,0,none⟩)),(3,.slice ra bl.length rc),(4,.int .i64 (p:Nat)),(5,.int .i64 (q:Nat))]) (fun q=>[SS db s,an db (d.cells mb) 74,mp aW Fl.val mb d.fs,arr 41 6 ra rc (bl.flatMap mZ),R]) 0 (Nat.zero_le _) .r4 .fe (fun q hI ih=>?_)
  have hq:=hI
  have Ns:=ih
  refine .go fds 6 ?_
  refine .aM rfl (fun c6=>?_) (fun c6=>?_)
  ·
   refine .go fds 8 ?_
   refine .loop (σ:=Nat) (fun m=>1≤m∧m≤3) (fun m=>3-m) (fun m=>[(0,.pointer (some ⟨s.sx,0,none⟩)),(3,.slice ra bl.length rc),(4,.int .i64 (p:Nat)),(5,.int .i64 (q:Nat)),(6,.int .i64 (m:Nat))]) (fun m=>[SS db s,an db (d.cells mb) 74,mp aW Fl.val mb d.fs,arr 41 6 ra rc (bl.flatMap mZ),R]) 1 ⟨by decide,by decide⟩ .r5 .fe (fun m hI ih=>?_)
   have hm:=hI
   have PT:=ih
   refine .go fds 6 ?_
   refine .aM rfl (fun c9=>?_) (fun c9=>?_)
   ·
    refine .go fds 4 ?_
    refine .unpack (L:=[an s.sx (s.cells db) 80,LG db s.l,CG db s.c,TG s.t]) .p0 ?_
    simp only[ag,ae]
    refine .ax fds 2 ?_
    refine .fn rfl rfl .nil (af.an .p0) (iv db s) (fun v G1 hq=>?_)
    obtain⟨rfl,rfl⟩:=hq
    simp only[ae]
    refine .go fds 3 ?_
    refine .fn rfl rfl .q3 ah (qW s.t (p:Int) 0 (q:Int) (m:Int) hb.lf.tocC (by unfold i64;omega) (by unfold i64;omega) (by unfold i64;omega) (by unfold i64;omega)) (fun v G1 hq=>?_)
    obtain⟨rfl,rfl⟩:=hq
    simp only[ag,ae]
    refine .aH fds 6 ?_
    refine .pack (L:=[an (s).sx (St.cells (s) db) 80,LG db (s).l,CG db (s).c,TG (s).t]) .lC ?_
    refine .ax fds 6 ?_
    refine .split (t:=37) rfl (fun g12=>?_) (fun g12=>?_)
    ·
     simp at g12
     refine .ax fds 11 ?_
     refine .rd (.add rfl rfl (by omega) (by omega)) ?_
     refine .aH fds 2 ?_
     exact(PT (m+1) (by omega) (by omega)).to .r5 .fe
    ·
     simp at g12
     refine .go fds 2 ?_
     refine .on (t:=37) rfl rfl ?_
     refine .fn rfl rfl .nil (SS.cells .p0) (iX db s) (fun v G1 hq=>?_)
     obtain⟨rfl,rfl⟩:=hq
     simp only[ae]
     refine .on (t:=37) rfl rfl ?_
     refine .fn rfl rfl .nil ((SS.log .p0).mono fun _ h=>h.1) (kH s.l.lb db (some ⟨s.l.ai.b,0,none⟩) s.l.pre s.l.most s.l.start s.l.aJ s.l.la (s.l.bX.length+1) s.l.lc) (fun v G1 hq=>?_)
     obtain⟨rfl,rfl⟩:=hq
     simp only[ae]
     refine .aH fds 3 ?_
     refine .aM rfl (fun c12=>?_) (fun c12=>?_)
     ·
      refine .ax fds 3 ?_
      refine .rd (.add rfl rfl (by omega) (by omega)) ?_
      refine .aH fds 2 ?_
      exact(PT (m+1) (by omega) (by omega)).to .r5 .fe
     ·
      refine .go fds 2 ?_
      obtain⟨b,sk,e1,e2,e3,e4,e5⟩:=h.answer hb (pid:=(p:Int)) (seq:=(q:Int)) (n:=(m:Int)) (by omega)
      rw[←I4]at sk
      obtain⟨z,Th,rfl⟩:=List.mem_map.1 sk
      obtain⟨kz,hz⟩:=List.getElem?_of_mem Th
      have U7:=(List.getElem?_eq_some_iff.1 hz).1
      have Ti:=And.intro e1 (And.intro e2 (And.intro e3 (And.intro e4 e5)))
      refine .go fds 9 ?_
      refine .loop (σ:=Nat×Bool) (fun⟨i,f⟩=>i≤bl.length∧(kz<i→f=true)) (fun⟨i,f⟩=>bl.length-i) (fun⟨i,f⟩=>[(0,.pointer (some ⟨s.sx,0,none⟩)),(3,.slice ra bl.length rc),(4,.int .i64 (p:Nat)),(5,.int .i64 (q:Nat)),(6,.int .i64 (m:Nat)),(7,.int .i64 (ask (bf s.t.m) (p:Int) 0 (q:Int) (m:Int)).1),(9,.bool f),(10,.int .i64 (i:Nat))]) (fun⟨i,f⟩=>[SS db s,an db (d.cells mb) 74,mp aW Fl.val mb d.fs,arr 41 6 ra rc (bl.flatMap mZ),R]) (0,false) ⟨Nat.zero_le _,fun h=>absurd h (Nat.not_lt_zero _)⟩ .r8 .fe (fun v' hI ih=>?_)
      obtain⟨i,f⟩:=v'
      dsimp only at hI ih⊢
      obtain⟨mm,Q7⟩:=hI
      refine .ax fds 5 ?_
      refine .rd (.bP rfl rfl Tryz.underlying47 rfl) ?_
      refine .aH fds 2 ?_
      refine .aM rfl (fun Tj=>?_) (fun Tj=>?_)
      ·
       refine .go fds 3 ?_
       refine .tell (φ:=∃b o,ra=some ⟨b,o,none⟩) ((af.arr .p3).mono fun _ h=>aD.addr h (by rw[au cW];omega)) (fun hh=>?_)
       obtain⟨b9,o9,h9⟩:=hh
       obtain⟨x,hx⟩:∃x,bl[i]?=some x:=⟨_,List.getElem?_eq_getElem (by omega)⟩
       refine .region ?_
       refine aZ.join 46 95 (f||decide (x.1.base=(ask (bf s.t.m) (p:Int) 0 (q:Int) (m:Int)).1∧x.1.pid=(p:Int)∧x.1.a7=0∧x.1.seq=(q:Int)∧(x.1.aS.length:Int)=(m:Int))) ?_ ?_
       ·
        refine .go fds 2 ?_
        refine .split (t:=51) rfl (fun g1=>?_) (fun g1=>?_)
        ·
         refine .go fds 7 ?_
         refine .mH (t:=51) rfl rfl rfl rfl ?_
         refine .bL (t:=59) rfl rfl rfl ?_
         refine .bL (t:=59) rfl rfl rfl ?_
         refine .bL (t:=59) rfl rfl rfl ?_
         refine .bL (t:=59) rfl rfl rfl ?_
         refine .bL (t:=59) rfl rfl rfl ?_
         refine .bL (t:=59) rfl rfl rfl ?_
         refine .bL (t:=59) rfl rfl rfl ?_
         refine .off (t:=51) rfl rfl rfl ?_
         refine .mH (t:=51) rfl rfl rfl rfl ?_
         refine .bL (t:=68) rfl rfl rfl ?_
         refine .bL (t:=68) rfl rfl rfl ?_
         refine .bL (t:=68) rfl rfl rfl ?_
         refine .bL (t:=68) rfl rfl rfl ?_
         refine .bL (t:=68) rfl rfl rfl ?_
         refine .bL (t:=68) rfl rfl rfl ?_
         refine .off (t:=51) rfl rfl rfl ?_
         refine .mH (t:=51) rfl rfl rfl rfl ?_
         refine .bL (t:=76) rfl rfl rfl ?_
         refine .bL (t:=76) rfl rfl rfl ?_
         refine .bL (t:=76) rfl rfl rfl ?_
         refine .bL (t:=76) rfl rfl rfl ?_
         refine .bL (t:=76) rfl rfl rfl ?_
         refine .bL (t:=76) rfl rfl rfl ?_
         refine .bL (t:=76) rfl rfl rfl ?_
         refine .off (t:=51) rfl rfl rfl ?_
         refine .mH (t:=51) rfl rfl rfl rfl ?_
         refine .bL (t:=85) rfl rfl rfl ?_
         refine .bL (t:=85) rfl rfl rfl ?_
         refine .bL (t:=85) rfl rfl rfl ?_
         refine .bL (t:=85) rfl rfl rfl ?_
         refine .bL (t:=85) rfl rfl rfl ?_
         refine .bL (t:=85) rfl rfl rfl ?_
         refine .bL (t:=85) rfl rfl rfl ?_
         refine .bL (t:=85) rfl rfl rfl ?_
         refine .go fds 2 ?_
         refine .nil ⟨rfl,?_,by repeat (first|exact Le.refl _|refine Le.skip rfl ?_)⟩
         exact congrArg (fun x=>some (Value.bool x)) (by rw[g1];rfl)
        ·
         refine .go fds 2 ?_
         refine .on (t:=51) rfl rfl ?_
         refine .rd (.indexAddr (b:=b9) (o:=o9) Tryz.underlying47 aO (by show some (Value.slice (ra) _ _)=_;rw[h9]) rfl (by omega) (by omega)) ?_
         refine .go fds 1 ?_
         refine .on (t:=51) rfl rfl ?_
         refine .rd (.load ak rfl (af.one (i:=0) (af.elem (f:=mZ) cW (by decide) ((af.arr .p3).mono fun _ h=>h9▸h) (hx)) rfl)) ?_
         refine .go fds 3 ?_
         refine .split (t:=59) rfl (fun g9=>?_) (fun g9=>?_)
         ·
          replace g9:=of_decide_eq_true g9
          refine .go fds 2 ?_
          refine .on (t:=59) rfl rfl ?_
          refine .rd (.indexAddr (b:=b9) (o:=o9) Tryz.underlying47 aO (by show some (Value.slice (ra) _ _)=_;rw[h9]) rfl (by omega) (by omega)) ?_
          refine .go fds 1 ?_
          refine .on (t:=59) rfl rfl ?_
          refine .rd (.load ak rfl (af.one (i:=2) (af.elem (f:=mZ) cW (by decide) ((af.arr .p3).mono fun _ h=>h9▸h) (hx)) rfl)) ?_
          refine .go fds 4 ?_
          refine .split (t:=68) rfl (fun g18=>?_) (fun g18=>?_)
          ·
           replace g18:=of_decide_eq_true g18
           refine .go fds 2 ?_
           refine .on (t:=68) rfl rfl ?_
           refine .rd (.indexAddr (b:=b9) (o:=o9) Tryz.underlying47 aO (by show some (Value.slice (ra) _ _)=_;rw[h9]) rfl (by omega) (by omega)) ?_
           refine .go fds 1 ?_
           refine .on (t:=68) rfl rfl ?_
           refine .rd (.load ak rfl (af.one (i:=3) (af.elem (f:=mZ) cW (by decide) ((af.arr .p3).mono fun _ h=>h9▸h) (hx)) rfl)) ?_
           refine .go fds 3 ?_
           refine .split (t:=76) rfl (fun CW=>?_) (fun CW=>?_)
           ·
            replace CW:=of_decide_eq_true CW
            refine .go fds 2 ?_
            refine .on (t:=76) rfl rfl ?_
            refine .rd (.indexAddr (b:=b9) (o:=o9) Tryz.underlying47 aO (by show some (Value.slice (ra) _ _)=_;rw[h9]) rfl (by omega) (by omega)) ?_
            refine .go fds 1 ?_
            refine .on (t:=76) rfl rfl ?_
            refine .rd (.load ak rfl (af.one (i:=4) (af.elem (f:=mZ) cW (by decide) ((af.arr .p3).mono fun _ h=>h9▸h) (hx)) rfl)) ?_
            refine .go fds 4 ?_
            refine .split (t:=85) rfl (fun Nv=>?_) (fun Nv=>?_)
            ·
             replace Nv:=of_decide_eq_true Nv
             refine .go fds 2 ?_
             refine .on (t:=85) rfl rfl ?_
             refine .rd (.indexAddr (b:=b9) (o:=o9) Tryz.underlying47 aO (by show some (Value.slice (ra) _ _)=_;rw[h9]) rfl (by omega) (by omega)) ?_
             refine .go fds 1 ?_
             refine .on (t:=85) rfl rfl ?_
             refine .rd (.load gG rfl (af.one (i:=5) (af.elem (f:=mZ) cW (by decide) ((af.arr .p3).mono fun _ h=>h9▸h) (hx)) rfl)) ?_
             refine .on (t:=85) rfl rfl ?_
             refine .rd (.bP rfl rfl Tryz.underlying39 rfl) ?_
             refine .go fds 4 ?_
             refine .nil ⟨rfl,?_,by repeat (first|exact Le.refl _|refine Le.skip rfl ?_)⟩
             exact congrArg (fun x=>some (Value.bool x)) (by rw[g1];exact decide_eq_decide.2 (by omega))
            ·
             replace Nv:=of_decide_eq_false Nv
             refine .go fds 10 ?_
             refine .nil ⟨rfl,?_,by repeat (first|exact Le.refl _|refine Le.skip rfl ?_)⟩
             exact congrArg (fun x=>some (Value.bool x)) (by rw[g1,decide_eq_false (by omega)];rfl)
           ·
            replace CW:=of_decide_eq_false CW
            refine .go fds 19 ?_
            refine .nil ⟨rfl,?_,by repeat (first|exact Le.refl _|refine Le.skip rfl ?_)⟩
            exact congrArg (fun x=>some (Value.bool x)) (by rw[g1,decide_eq_false (by omega)];rfl)
          ·
           replace g18:=of_decide_eq_false g18
           refine .go fds 27 ?_
           refine .nil ⟨rfl,?_,by repeat (first|exact Le.refl _|refine Le.skip rfl ?_)⟩
           exact congrArg (fun x=>some (Value.bool x)) (by rw[g1,decide_eq_false (by omega)];rfl)
         ·
          replace g9:=of_decide_eq_false g9
          refine .go fds 36 ?_
          refine .nil ⟨rfl,?_,by repeat (first|exact Le.refl _|refine Le.skip rfl ?_)⟩
          exact congrArg (fun x=>some (Value.bool x)) (by rw[g1,decide_eq_false (by omega)];rfl)
       refine .ax fds 5 ?_
       refine .rd (.add rfl rfl (by omega) (by omega)) ?_
       refine .aH fds 2 ?_
       exact(ih (i+1,f||decide (x.1.base=(ask (bf s.t.m) (p:Int) 0 (q:Int) (m:Int)).1∧x.1.pid=(p:Int)∧x.1.a7=0∧x.1.seq=(q:Int)∧(x.1.aS.length:Int)=(m:Int))) ⟨by show i+1≤_;omega,F0 (P:=fun x=>(x.1.base=(ask (bf s.t.m) (p:Int) 0 (q:Int) (m:Int)).1∧x.1.pid=(p:Int)∧x.1.a7=0∧x.1.seq=(q:Int)∧(x.1.aS.length:Int)=(m:Int))) Q7 hx hz Ti⟩ (by show bl.length-(i+1)<bl.length-i;omega)).to .r8 .fe
      ·
       have Tk:=Q7 (by omega)
       subst Tk
       refine .ax fds 11 ?_
       refine .rd (.add rfl rfl (by omega) (by omega)) ?_
       refine .aH fds 2 ?_
       exact(PT (m+1) (by omega) (by omega)).to .r5 .fe
   ·
    refine .ax fds 4 ?_
    refine .rd (.add rfl rfl (by omega) (by omega)) ?_
    refine .aH fds 2 ?_
    exact(Ns (q+1) (by omega) (by omega)).to .r4 .fe
  ·
   refine .ax fds 4 ?_
   refine .rd (.add rfl rfl (by omega) (by omega)) ?_
   refine .aH fds 2 ?_
   exact(MJ (p+1) (by omega) (by omega)).to .r3 .fe
 ·
  refine .go fds 5 ?_
  refine .aG Tryz.func25 (.t1 rfl) .oP ?_
  exact⟨[_,_,_],⟨rfl,rfl⟩,rfl⟩
theorem CO{s2 s3 s4:St}{d3 d4 e2 d5:Dk}{es:List Ep}(ha:s2.l.all=[gh 2 7 0 0 1 0,gh 2 7 0 1 1 1])(ht:bf s2.t.m=[(7,[n0,n1])])(hT:cC (bf s2.t.m))(hA:Fw s2 d3 1 s3 d4)(h4:s4.l.all=s3.l.all)(h5:s4.l.start=s3.l.start)(hO:Bh [112] es (cx (bf s2.t.m)) s4 e2 d5):bf s4.t.m=[(7,[n0,n1])]∧s4.l.start=1:=by
 obtain⟨e,hD,_⟩:=hA.del
 have h1:s4.l.start=1:=h5.trans hD.start
 have hv:s4.l.fN=[gh 2 7 0 1 1 1]:=by
  unfold Lx.fN
  rw[h1,h4]
  have:=hD.E3
  rw[ha]at this
  exact this
 rw[ht]at hT
 refine⟨?_,h1⟩
 have:=hO.t
 rw[hv,h1,ht,FZ _ hT]at this
 exact this.trans IY.2.2.1
theorem bC{Z E s d}(h:bz Z 0 0 E s d)(hp:zK s d):s.l.next=0∧s.l.all=[]∧bf s.t.m=[]:=by
 have h1:=h.next
 have h2:=h.s6
 have h3:s.l.all=[]:=List.eq_nil_of_length_eq_zero (Nat.le_zero.1 h.all)
 exact⟨by omega,h3,by rw[hp.t,h3];rfl⟩
theorem Nw(seq u:Int)(h1:0≤seq∧seq≤1)(h2:0≤u∧u≤5):kL 2 7 0 seq 1 u:=⟨by decide,by decide,by decide,by omega,by decide,by omega⟩
theorem CP(db:Nat)(s:St)(b:aQ)(a:Option Addr)(c:Nat)(kM:bM s.c.es)(jY:b.bt<cu s.c.es):Cn Tryz.prog 44 [.pointer (some ⟨s.sx,0,none⟩),.agg (b.cells a c).toArray] (fun _=>True) [SS db s] fun v G=>v=.int .i64 13∧G=[SS db s]:=by
 refine .en Tryz.func44 fun R k=>?_
 refine .unpack (L:=[an s.sx (s.cells db) 80,LG db s.l,CG db s.c,TG s.t]) .p0 ?_
 simp only[ag,ae]
 refine .ax fds 2 ?_
 refine .ef (.box (l:=b.cells a c) rfl rfl (aB.of rfl)) ?_
 rintro _ _ ⟨bx,rfl,rfl⟩
 refine .ax fds 7 ?_
 refine .rd (.ld gS rfl .p1 rfl) ?_
 refine .fn rfl rfl .nil (CG.at .p3) (qf db s.c (by have:=kM.len;omega)) (fun v G1 hq=>?_)
 obtain⟨rfl,rfl⟩:=hq
 simp only[ae]
 refine .ax fds 6 ?_
 refine .rd (.ld ak rfl .p0 rfl) ?_
 refine .go fds 2 ?_
 refine .al 16 (.bool true) rfl (bR jY) ?_
 refine .aH fds 6 ?_
 refine .pack (L:=[an (s).sx (St.cells (s) db) 80,LG db (s).l,CG db (s).c,TG (s).t]) .Aj ?_
 refine .aG Tryz.func44 (.t1 rfl) .sI ?_
 exact⟨[_],⟨rfl,rfl⟩,rfl⟩
theorem yb(db:Nat)(d:Dk)(s:St)(b:aQ)(a:Option Addr)(c:Nat)(hl:s.l.ok d)(kM:bM s.c.es)(jY:b.bt<cu s.c.es):Cn Tryz.prog 14 [.pointer (some ⟨s.sx,0,none⟩),.agg (b.cells a c).toArray] (fun _=>True) [SS db s] fun v G=>v=.tuple #[.int .i64 0,.int .i64 13]∧G=[SS db s]:=by
 refine .en Tryz.func14 fun R k=>?_
 refine .unpack (L:=[an s.sx (s.cells db) 80,LG db s.l,CG db s.c,TG s.t]) .p0 ?_
 simp only[ag,ae]
 refine .ax fds 2 ?_
 refine .ef (.box (l:=b.cells a c) rfl rfl (aB.of rfl)) ?_
 rintro _ _ ⟨bx,rfl,rfl⟩
 refine .ax fds 8 ?_
 refine .rd (.ld gr rfl .p1 rfl) ?_
 refine .go fds 2 ?_
 refine .rd (.load aN rfl (af.one (i:=0) ((LG.at .p2).mono fun _ h=>h.1) rfl)) ?_
 refine .fn rfl rfl .nil ((LG.at .p2).mono fun _ h=>h.2.2 _ (Lx.cJ (s.l))) (bZ db (s.l).ai hl.ai.1) (fun v G1 hq=>?_)
 obtain⟨rfl,rfl⟩:=hq
 simp only[ae]
 refine .al 14 (.int .i64 (s.l).next) rfl (rfl) ?_
 refine .rd (.fieldAddr pz rfl) ?_
 refine .dc (.store cc rfl rfl .p0 rfl aU) ?_
 rintro _ _ rfl
 refine .ca (an bx ((b.at_ s.l.next).cells a c) 41) (rfl) ?_
 refine .aH fds 3 ?_
 refine .pack (L:=[an (s).sx (St.cells (s) db) 80,LG db (s).l,CG db (s).c,TG (s).t]) .Aj ?_
 refine .ax fds 2 ?_
 refine .rd (.j4 bi aO rfl .p1 rfl) ?_
 refine .fn rfl rfl .q0 ah (CP db s (b.at_ s.l.next) a c kM jY) (fun v G1 hq=>?_)
 obtain⟨rfl,rfl⟩:=hq
 simp only[ag,ae]
 refine .aH fds 14 ?_
 refine .aG Tryz.func14 (.t2 rfl rfl) .sI ?_
 exact⟨[_],⟨rfl,rfl⟩,rfl⟩
theorem yc(db mb:Nat)(d:Dk)(ns:List Nm)(ka:Option Addr)(kl:List Int)(kc:Nat)(hd:d.ok)(hk:∀p∈d.fs,p.1.length≤64)(hn:d.fs.length≤1000000)(hs:(bk (d.fs.map (·.1)))=ns)(Tl:kl.length≤kc)(JH:∀x∈kl,i64 x)(Eb:kl.length≤140737488351232):Cn Tryz.prog 16 [.pointer (some ⟨db,0,none⟩),.slice ka kl.length kc] (fun _=>True) [an db (d.cells mb) 74,mp aW Fl.val mb d.fs,bF (aD ka (kl.flatMap rP))] fun v G=>∃e,ii d e∧G=[an db (e.cells mb) 74,mp aW Fl.val mb e.fs]:=by
 refine .en Tryz.func16 fun R k=>?_
 have Tn:∀n,n∈d.fs.map (·.1)→n∈ns:=fun n h=>hs▸dF.2 h
 have mo:ns.Nodup:=hs▸fM hd.nodup
 have Q8:ns.length=d.fs.length:=by rw[←hs,bk,List.length_mergeSort,List.length_map]
 refine .ax fds 3 ?_
 refine .fn rfl rfl .cU ah (xm db mb d hk hn) (fun v G1 hq=>?_)
 obtain⟨ra,rc,rfl,rfl⟩:=hq
 simp only[ag,ae]
 refine .rd (.bP rfl rfl Tryz.underlying101 rfl) ?_
 refine .aH fds 2 ?_
 refine .perm .qA ?_
 refine .ca (bF (aD ra (ns.flatMap Gk))) (by rw[hs,vn]) ?_
 refine .al 10 (.slice ra ns.length rc) rfl (by rw[Q8]) ?_
 refine .al 11 (.int .i64 (ns.length:Nat)) rfl (by rw[Q8]) ?_
 skip
 refine .block ?_
 refine .loop (σ:=Nat×Dk×Option Addr×List Int×Nat) (fun⟨j,e,qa,ql,qc⟩=>j≤ns.length∧gi d (ns.take j) e∧ql.length≤qc∧(∀x∈ql,i64 x)∧ql.length≤140737488351232) (fun⟨j,e,qa,ql,qc⟩=>ns.length-j) (fun⟨j,e,qa,ql,qc⟩=>[(0,.pointer (some ⟨db,0,none⟩)),(1,.slice qa ql.length qc),(10,.slice ra ns.length rc),(11,.int .i64 (ns.length:Nat)),(12,.int .i64 (j:Nat))]) (fun⟨j,e,qa,ql,qc⟩=>[an db (e.cells mb) 74,mp aW Fl.val mb e.fs,bF (aD ra (ns.flatMap Gk)),bF (aD qa (ql.flatMap rP)),R]) (0,d,ka,kl,kc) ⟨Nat.zero_le _,.begin hd,Tl,JH,Eb⟩ .r5 .yK (fun s' hI ih=>?_)
 obtain⟨j,e,qa,ql,qc⟩:=s'
 dsimp only at hI ih⊢
 obtain⟨Qz,hC,A6,Lg,Cr⟩:=hI
 refine .go fds 5 ?_
 refine .aM rfl (fun c1=>?_) (fun c1=>?_)
 ·
  refine .go fds 4 ?_
  obtain⟨x,hx⟩:∃x,ns[j]?=some x:=⟨_,List.getElem?_eq_getElem (by omega)⟩
  have To:(d.get x).isSome=true:=er.2 (dF.1 (hs▸List.mem_of_getElem? hx))
  have LC:x∉ns.take j:=fun h=>by
   obtain⟨i,hi⟩:=List.getElem?_of_mem h
   have qo:i<j:=by have:=(List.getElem?_eq_some_iff.1 hi).1;rw[List.length_take]at this;omega
   rw[List.getElem?_take,if_pos qo]at hi
   obtain⟨h1,h2⟩:=List.getElem?_eq_some_iff.1 hi
   obtain⟨h3,h4⟩:=List.getElem?_eq_some_iff.1 hx
   exact(List.pairwise_iff_getElem.1 mo i j h1 h3 qo) (h2.trans h4.symm)
  have A8:=hC.left x LC
  have Lz:=Dk.nW hd x
  have ym:=Dk.jE (d:=d) x
  have Bk:=hd.used
  have jS:=hd.size
  refine .tell (φ:=∃b o,ra=some ⟨b,o,none⟩) ((af.bF .p2).mono fun _ h=>aD.addr h (by rw[au pX];omega)) (fun hh=>?_)
  obtain⟨b9,o9,h9⟩:=hh
  refine .region ?_
  refine .rd (.indexAddr (b:=b9) (o:=o9) Tryz.underlying101 fF (by show some (Value.slice ra _ _)=_;rw[h9]) rfl (by omega) (by omega)) ?_
  refine .rd (.load aR rfl (af.one (i:=0) (af.elem (f:=Gk) pX (by decide) ((af.bF .p2).mono fun _ h=>h9▸h) hx) rfl)) ?_
  refine .ax fds 7 ?_
  refine .rd (.ld eB rfl .p0 rfl) ?_
  refine .rd (.move rfl) ?_
  refine .rd (.lookup (q:=x) rE Tryz.underlying72 (fun w=>df.zero w) rfl rfl .p1) ?_
  refine .al 21 ((d.file x).val) rfl ((DK e x).trans (by rw[A8])) ?_
  refine .ef (.alloc df rfl (aB.of rfl)) ?_
  rintro _ _ ⟨b6,rfl,rfl⟩
  refine .dc (.storeAll iP rfl rfl (by rfl) .p0 rfl (aB.of rfl)) ?_
  rintro _ _ rfl
  refine .nil ?_
  refine .ca (an b6 [.string (str (d.file x).b),.int .i64 ((d.file x).safe:Int)] 104) (rfl) ?_
  refine .ax fds 3 ?_
  refine .rd (.ld aR rfl .p0 rfl) ?_
  refine .rd (.ey rfl rfl Tryz.underlying9 rfl) ?_
  refine .rd (.fieldAddr DF rfl) ?_
  refine .rd (.ld ak rfl .p0 rfl) ?_
  refine .rd (.sub rfl rfl (by omega) (by omega)) ?_
  refine .al 27 (.int .i64 (((d.file x).b.length-(d.file x).safe:Nat):Int)) rfl (congrArg (Value.int .i64) (by omega)) ?_
  refine .aH fds 8 ?_
  refine .aM rfl (fun c5=>?_) (fun c5=>?_)
  ·
   have L2:(d.file x).safe=(d.file x).b.length:=by omega
   refine .ax fds 2 ?_
   refine .rd (.add rfl rfl (by omega) (by omega)) ?_
   refine .aH fds 2 ?_
   exact(ih (j+1,e,qa,ql,qc) ⟨by show j+1≤_;omega,by rw[List.take_add_one,hx];exact hC.E3 LC L2,A6,Lg,Cr⟩ (by show ns.length-(j+1)<ns.length-j;omega)).to .r5 (.cons .p1 (.cons .p1 (.cons .p1 (.cons .p1 (.cons .p1 .nil)))))
  ·
   refine .ax fds 9 ?_
   refine .rd (.bP rfl rfl Tryz.underlying31 rfl) ?_
   refine .aH fds 2 ?_
   refine .lM (σ:=Int×Option Addr×List Int×Nat) (φ:=fun⟨n,qa,ql,qc⟩=>i64 n∧ql.length≤qc∧(∀x∈ql,i64 x)∧ql.length≤140737488351232) (E':=fun⟨n,qa,ql,qc⟩=>[(0,.pointer (some ⟨db,0,none⟩)),(5,aW x),(6,.pointer (some ⟨b6,0,none⟩)),(7,.int .i64 (((d.file x).b.length-(d.file x).safe:Nat):Int)),(10,.slice ra ns.length rc),(11,.int .i64 (ns.length:Nat)),(12,.int .i64 (j:Nat)),(1,.slice qa ql.length qc),(8,.int .i64 n)]) (aI:=fun⟨n,qa,ql,qc⟩=>[an b6 [.string (str (d.file x).b),.int .i64 ((d.file x).safe:Int)] 104,an db (e.cells mb) 74,mp aW Fl.val mb e.fs,bF (aD ra (ns.flatMap Gk)),bF (aD qa (ql.flatMap rP)),R]) (fun sj hj=>?_) (fun fin=>?_)
   ·
    clear A6 Lg Cr
    obtain⟨n,Tp,Tq,Tr⟩:=sj
    dsimp only at hj⊢
    obtain⟨Gp,A6,Lg,Cr⟩:=hj
    obtain⟨B7,Lw⟩:-9223372036854775808≤n∧n≤9223372036854775807:=Gp
    obtain⟨qa,rfl⟩:∃q,q=Tp:=⟨_,rfl⟩
    obtain⟨ql,rfl⟩:∃q,q=Tq:=⟨_,rfl⟩
    obtain⟨qc,rfl⟩:∃q,q=Tr:=⟨_,rfl⟩
    refine .go fds 6 ?_
    refine .lM (σ:=Int) (φ:=fun n=>0≤n∧n≤9223372036854775807) (E':=fun n=>[(0,.pointer (some ⟨db,0,none⟩)),(5,aW x),(6,.pointer (some ⟨b6,0,none⟩)),(7,.int .i64 (((d.file x).b.length-(d.file x).safe:Nat):Int)),(10,.slice ra ns.length rc),(11,.int .i64 (ns.length:Nat)),(12,.int .i64 (j:Nat)),(1,.slice qa ql.length qc),(8,.int .i64 n)]) (aI:=fun n=>[an b6 [.string (str (d.file x).b),.int .i64 ((d.file x).safe:Int)] 104,an db (e.cells mb) 74,mp aW Fl.val mb e.fs,bF (aD ra (ns.flatMap Gk)),bF (aD qa (ql.flatMap rP)),R]) (fun sj hj=>?_) (fun fin=>?_)
    ·
     obtain⟨n2,rfl⟩:∃n:Int,n=sj:=⟨sj,rfl⟩
     obtain⟨Ot,NL⟩:=hj
     refine .seq ?_
     refine .dr [1] [an b6 [.string (str (d.file x).b),.int .i64 ((d.file x).safe:Int)] 104] ?_
     refine .aq fds [0] ?_
     refine .re 1 rfl (.ld ak rfl .p0 rfl) .q0 ?_
     refine .aq fds [2] ?_
     refine .aq fds [3] ?_
     refine .rq 4 rfl (.add rfl rfl (by omega) (by omega)) ?_
     refine .al 47 (.int .i64 ((((d.file x).b.length-(d.file x).safe+1:Nat)):Int)) rfl (congrArg (Value.int .i64) (by omega)) ?_
     refine .rq 5 rfl (.rem rfl rfl (by omega) (by omega)) ?_
     have U8:=Int.emod_nonneg n2 (show(((d.file x).b.length-(d.file x).safe+1:Nat):Int)≠0 by omega)
     have QC:=Int.emod_lt_of_pos n2 (show(0:Int)<(((d.file x).b.length-(d.file x).safe+1:Nat):Int) by omega)
     obtain⟨z,hz⟩:∃z:Nat,(z:Int)=(d.file x).safe+n2%(((d.file x).b.length-(d.file x).safe+1:Nat):Int):=⟨((d.file x).safe+n2%(((d.file x).b.length-(d.file x).safe+1:Nat):Int)).toNat,by omega⟩
     have D9:(d.file x).safe≤z:=by omega
     have AO:z≤(d.file x).b.length:=by omega
     refine .rq 6 rfl (.add rfl rfl (by omega) (by omega)) ?_
     refine .al 49 (.int .i64 (z:Nat)) rfl (by rw[hz]) ?_
     refine .aq fds [7] ?_
     refine .dn ?_
     refine .ax fds 4 ?_
     refine .rd (.ld aR rfl .p0 rfl) ?_
     refine .rd (.move rfl) ?_
     refine .rd (.cH (l:=(d.file x).b) (a:=0) (h:=z) Tryz.underlying9 rfl rfl ⟨_,rfl⟩ (by omega) (by omega)) ?_
     refine .rd (.move rfl) ?_
     refine .rd (.build rfl (mP _ _)) ?_
     refine .al 57 ((Fl.val ⟨(d.file x).b.take z,z⟩)) rfl (by simp[Fl.val]) ?_
     refine .fn rfl rfl .px ah (ow db mb e x ⟨(d.file x).b.take z,z⟩ hC.cS (by rw[List.length_take];omega)) (fun v G1 hq=>?_)
     obtain rfl:=hq
     simp only[ag,ae]
     refine .ax fds 3 ?_
     refine .rd (.add rfl rfl (by omega) (by omega)) ?_
     refine .aH fds 2 ?_
     exact(ih (j+1,e.put x ⟨(d.file x).b.take z,z⟩,qa,ql,qc) ⟨by show j+1≤_;omega,by rw[List.take_add_one,hx];exact hC.step LC To D9 AO,A6,Lg,Cr⟩ (by show ns.length-(j+1)<ns.length-j;omega)).to .r5 (.cons .p0 (.cons .p0 (.cons .p1 (.cons .p1 (.cons .p1 .nil)))))
    ·
     refine .aM rfl (fun c9=>?_) (fun c9=>?_)
     ·
      refine .ax fds 2 ?_
      refine .rd (.add rfl rfl (by omega) (by omega)) ?_
      refine .rd (.neg rfl (by omega) (by omega)) ?_
      refine .aH fds 2 ?_
      exact fin (-(n+1)) ⟨by omega,by omega⟩ .r9 .jC
     ·
      refine .skip ?_
      exact fin n ⟨by omega,Lw⟩ .r9 .jC
   ·
    refine .aM rfl (fun c7=>?_) (fun c7=>?_)
    ·
     obtain⟨v,r,Nx⟩:∃v r,ql=v::r:=by
      cases h:ql with
      |nil=>rw[h]at c7;exact absurd c7 (by decide)
      |cons v r=>exact⟨v,r,rfl⟩
     have hv:i64 v:=Lg v (by rw[Nx];exact .head _)
     have Ts:∀x∈r,i64 x:=fun x hx=>Lg x (by rw[Nx];exact .tail _ hx)
     have PU:ql.length=r.length+1:=by rw[Nx];rfl
     have Tt:ql[0]?=some v:=by rw[Nx];rfl
     refine .tell (φ:=∃b o,qa=some ⟨b,o,none⟩) ((af.bF .p4).mono fun _ h=>aD.addr h (by rw[au vr];omega)) (fun hh=>?_)
     obtain⟨b8,o8,h8⟩:=hh
     refine .dr [2] [bF (aD qa (ql.flatMap rP))] ?_
     refine .aq fds [0] ?_
     refine .rq 1 rfl (.indexAddr (b:=b8) (o:=o8) Tryz.underlying31 cc (by show some (Value.slice qa _ _)=_;rw[h8]) rfl (by omega) (by omega)) ?_
     refine .re 2 rfl (.load ak rfl (af.one (i:=0) (af.elem (f:=rP) vr (by decide) ((af.bF .p0).mono fun _ h=>h8▸h) Tt) rfl)) .q4 ?_
     refine .aq fds [3] ?_
     refine .rq 4 rfl (.slice (l:=1) (h:=ql.length) (m:=qc) Tryz.underlying31 cc rfl rfl ⟨rfl,rfl⟩ ⟨_,rfl⟩ (by omega) (by omega) (by omega)) ?_
     refine .aq fds [5] ?_
     refine .aq fds [6] ?_
     refine .dn ?_
     refine .al 1 (.slice (if qc=1 then qa else qa.map (·.add (1*1))) r.length (qc-1)) rfl (by rw[PU];rfl) ?_
     refine .qu (aD (if qc=1 then qa else qa.map (·.add (1*1))) (r.flatMap rP)) .p4 (fun w h=>FE h8 (Nx▸h) (by omega)) ?_
     exact fin (v,(if qc=1 then qa else qa.map (·.add (1*1))),r,qc-1) ⟨hv,by show r.length≤qc-1;omega,Ts,by show r.length≤_;omega⟩ .r9 (.cons .p1 (.cons .p1 (.cons .p1 (.cons .p1 (.cons .p0 (.cons .p0 .nil))))))
    ·
     refine .skip ?_
     exact fin (0,qa,ql,qc) ⟨⟨by decide,by decide⟩,A6,Lg,Cr⟩ .r9 .jC
 ·
  refine .exit rfl ?_
  refine .sD Tryz.func16 .nil .BO ?_
  exact⟨[_,_],⟨e,hC.all hd fun n h=>by rw[List.take_of_length_le (by omega)];exact Tn n h,rfl⟩,rfl⟩
theorem F8(lb db mb:Nat)(d:Dk)(pre:Nm)(most:Int)(z w:Nat){L:List Piece}(hp:oe pre)(hF:fO pre d L z w):Cn Tryz.prog 65 [.pointer (some ⟨lb,0,none⟩)] LV [an lb (a6 none db pre most 0 0 none 0 0) 57,an db (d.cells mb) 74,mp aW Fl.val mb d.fs] fun v G=>v=.bool true∧G=[an lb (a6 none db pre most (z:Int) (w:Int) none 0 0) 57,an db (d.cells mb) 74,mp aW Fl.val mb d.fs]:=by
 have KU:=hF.zw
 rcases hF.wQ with⟨rfl,rfl,hm⟩|⟨hm,hf⟩
 ·
  exact CB lb db mb d none pre most 0 0 none 0 0 hp hm
 ·
  exact FJ lb db mb d none pre most 0 0 none 0 0 z w hp hm hf (by omega) (by omega) (by omega)
theorem yd(db mb:Nat)(d:Dk)(pre:Nm)(most:Int)(L:List Piece)(z w:Nat)(hd:d.ok)(hp:oe pre)(hk:∀p∈d.fs,p.1.length≤64)(hn:d.fs.length<255)(h1:256≤most)(h2:most≤1000000)(hF:fO pre d L z w):Cn Tryz.prog 32 [.pointer (some ⟨db,0,none⟩),aW pre,.int .i64 most] LV [an db (d.cells mb) 74,mp aW Fl.val mb d.fs] fun v G=>∃l e,v=.tuple #[.pointer (some ⟨l.lb,0,none⟩),.int .i64 0]∧((∃ss,l8 pre d L z w l ss e∧∃q,L.getLast?=some q∧(z:Int)≤aC (q.1:Int) q.2.1)∨(vD pre d z w l e∧∃q,L.getLast?=some q∧aC (q.1:Int) q.2.1<(z:Int)))∧G=[LG db l,an db (e.cells mb) 74,mp aW Fl.val mb e.fs]:=by
 refine .en Tryz.func32 fun R k=>?_
 have h3:=hp.len
 refine .ax fds 9 ?_
 refine .rd (.NN (m:=[]) rfl rfl) ?_
 refine .al 14 (.bool false) rfl (aE hp.ne) ?_
 refine .go fds 2 ?_
 refine .on (t:=15) rfl rfl ?_
 refine .rd (.ey rfl rfl Tryz.underlying9 rfl) ?_
 refine .go fds 1 ?_
 refine .al 18 (.bool false) rfl (aE (by omega)) ?_
 refine .go fds 3 ?_
 refine .on (t:=20) rfl rfl ?_
 refine .fn rfl rfl .nil ah (nv pre yn (by omega) (by decide) (by decide)) (fun v G1 hq=>?_)
 obtain⟨rfl,rfl⟩:=hq
 simp only[ae]
 refine .on (t:=20) rfl rfl ?_
 refine .rd (.Ds (m:=[]) rfl rfl) ?_
 refine .al 23 (.bool false) rfl (congrArg Value.bool (by rw[decide_eq_true (jk.2 hp.yn)];rfl)) ?_
 refine .go fds 4 ?_
 refine .al 27 (.bool false) rfl (aE (by omega)) ?_
 refine .go fds 4 ?_
 refine .al 31 (.bool false) rfl (aE (by omega)) ?_
 refine .ax fds 9 ?_
 refine .rd (.build rfl (Ax _ _ _)) ?_
 refine .ef (.box (l:=a6 none db pre most 0 0 none 0 0) rfl rfl (aB.of rfl)) ?_
 rintro _ _ ⟨lx,rfl,rfl⟩
 refine .ax fds 6 ?_
 refine .fn rfl rfl .ez (af.pick .p0 k) (F8 lx db mb d pre most z w hp hF) (fun v G1 hq=>?_)
 obtain⟨rfl,rfl⟩:=hq
 simp only[ag,ae]
 refine .ax fds 12 ?_
 refine .fn rfl rfl .px ((af.an .p0)) (rK lx db mb d none pre most (z:Int) (w:Int) none 0 0 hk (by omega) hp.len) (fun v G1 hq=>?_)
 obtain⟨ra,rc,rfl,rfl⟩:=hq
 simp only[ag,ae]
 refine .rd (.bP rfl rfl Tryz.underlying31 rfl) ?_
 refine .aH fds 2 ?_
 refine .perm .qA ?_
 refine .ca (arr 3 1 ra rc ((L.map (·.1)).flatMap fI)) (by rw[hF.nF]) ?_
 refine .al 42 (.slice ra L.length rc) rfl (by rw[hF.nF,List.length_map]) ?_
 refine .al 43 (.int .i64 (L.length:Nat)) rfl (by rw[hF.nF,List.length_map]) ?_
 refine .perm .ux ?_
 refine .ca (an lx (a6 (j0 []) db pre most (z:Int) (w:Int) none (([]:List Sx).map (·.b)).length 0) 57) (rfl) ?_
 refine .cq 54 1 none ?_
 refine .ca (arr 54 1 none 0 ((([]:List Sx).map (·.b)).flatMap yp)) rfl ?_
 refine .close (X:=cD (SG db) []) .nil (fun _ _=>cD.nil) ?_
 refine .block ?_
 refine .loop (σ:=Nat×List Sx×Dk×Option Addr×Nat) (fun⟨i,ss,e,la,lc⟩=>i≤L.length∧eu pre d L i ss e) (fun⟨i,ss,e,la,lc⟩=>L.length-i) (fun⟨i,ss,e,la,lc⟩=>[(0,.pointer (some ⟨db,0,none⟩)),(8,.pointer (some ⟨lx,0,none⟩)),(9,.bool true),(42,.slice ra L.length rc),(43,.int .i64 (L.length:Nat)),(44,.int .i64 (i:Nat))]) (fun⟨i,ss,e,la,lc⟩=>[an lx (a6 (j0 ss) db pre most (z:Int) (w:Int) la (ss.map (·.b)).length lc) 57,arr 54 1 la lc ((ss.map (·.b)).flatMap yp),cD (SG db) ss,an db (e.cells mb) 74,mp aW Fl.val mb e.fs,arr 3 1 ra rc ((L.map (·.1)).flatMap fI),R]) (0,[],d,none,0) ⟨Nat.zero_le _,.begin pre hd L⟩ .r6 (.cons .p2 (.cons .p1 (.cons .p0 (.cons .p1 (.cons .p1 (.cons .p0 (.cons .p0 .nil))))))) (fun s' hI ih=>?_)
 obtain⟨i,ss,e,la,lc⟩:=s'
 dsimp only at hI ih⊢
 obtain⟨mm,hO⟩:=hI
 have oS:=hO.len mm
 have U9:=hF.len
 have Tu:(ss.map (·.b)).length=i:=by rw[List.length_map];exact oS
 refine .go fds 5 ?_
 refine .aM rfl (fun c8=>?_) (fun c8=>?_)
 ·
  refine .go fds 4 ?_
  obtain⟨p,mq⟩:∃p,L[i]?=some p:=⟨_,List.getElem?_eq_getElem (by omega)⟩
  have hh:=hF.holds p (List.mem_of_getElem? mq)
  have Tv:=hh.le
  have L8:(L.map (·.1))[i]?=some p.1:=by rw[List.getElem?_map,mq];rfl
  refine .tell (φ:=∃b o,ra=some ⟨b,o,none⟩) ((af.arr .p5).mono fun _ h=>aD.addr h (by rw[au dR,List.length_map];omega)) (fun hh=>?_)
  obtain⟨b9,o9,h9⟩:=hh
  refine .region ?_
  refine .rd (.indexAddr (b:=b9) (o:=o9) Tryz.underlying31 cc (by show some (Value.slice ra _ _)=_;rw[h9]) rfl (by omega) (by omega)) ?_
  refine .rd (.load ak rfl (af.one (i:=0) (af.elem (f:=fI) dR (by decide) ((af.arr .p5).mono fun _ h=>h9▸h) L8) rfl)) ?_
  refine .ax fds 8 ?_
  refine .rd (.ld cV rfl .p0 rfl) ?_
  refine .rd (.bP rfl rfl Tryz.underlying55 rfl) ?_
  refine .aH fds 2 ?_
  refine .lM (σ:=Unit) (φ:=fun _=>True) (E':=fun _=>[(0,.pointer (some ⟨db,0,none⟩)),(8,.pointer (some ⟨lx,0,none⟩)),(9,.bool true),(42,.slice ra L.length rc),(43,.int .i64 (L.length:Nat)),(44,.int .i64 (i:Nat)),(11,.int .i64 (p.1:Nat))]) (aI:=fun _=>[an lx (a6 (j0 ss) db pre most (z:Int) (w:Int) la (ss.map (·.b)).length lc) 57,arr 54 1 la lc ((ss.map (·.b)).flatMap yp),cD (SG db) ss,an db (e.cells mb) 74,mp aW Fl.val mb e.fs,arr 3 1 ra rc ((L.map (·.1)).flatMap fI),R]) (fun sj hj=>?_) (fun fin=>?_)
  ·
   skip
   refine .ax fds 6 ?_
   refine .on (t:=74) rfl rfl ?_
   refine .fn rfl rfl .DC (af.pick .p2 k) (vl lx db mb e (j0 ss) pre most (z:Int) (w:Int) la lc (ss.map (·.b)) p.1 p.2.1 p.2.2 hO.cS hp Tv (.inl (by rw[hO.get];exact hh.get)) (by rw[hO.here hF.nodup mq];exact hh.file) hh.stop hh.chain hh.aT hh.len (by have:=hF.len;omega)) (fun v G1 hq=>?_)
   obtain⟨sb,sm,aa,ac,ia,ic,qa,qc,rfl,iJ,qT,rfl⟩:=hq
   simp only[ag,ae]
   refine .aH fds 4 ?_
   refine .pack (L:=[an sb ((Sx.mk sb (nameOf pre p.1) (p.1:Int) p.2.1 sm aa ac ia ic).cells db) 110,arr 112 4 aa ac (Sx.mk sb (nameOf pre p.1) (p.1:Int) p.2.1 sm aa ac ia ic).rows,arr 3 1 ia ic (sm.flatMap fI)]) (.cons .p4 (.cons .p4 (.cons .p4 .nil))) ?_
   refine .close (X:=cD (SG db) (ss++[(Sx.mk sb (nameOf pre p.1) (p.1:Int) p.2.1 sm aa ac ia ic)])) .JQ (fun h H=>iF (bX:=ss) (s:=(Sx.mk sb (nameOf pre p.1) (p.1:Int) p.2.1 sm aa ac ia ic)) H) ?_
   refine .perm .iB ?_
   refine .ca (an lx (a6 (j0 (ss++[(Sx.mk sb (nameOf pre p.1) (p.1:Int) p.2.1 sm aa ac ia ic)])) db pre most (z:Int) (w:Int) qa ((ss++[(Sx.mk sb (nameOf pre p.1) (p.1:Int) p.2.1 sm aa ac ia ic)]).map (·.b)).length qc) 57) (by rw[l7,List.map_append];rfl) ?_
   refine .perm .mM ?_
   refine .ca (arr 54 1 qa qc (((ss++[(Sx.mk sb (nameOf pre p.1) (p.1:Int) p.2.1 sm aa ac ia ic)]).map (·.b)).flatMap yp)) (by rw[List.map_append];rfl) ?_
   refine .ax fds 9 ?_
   refine .rd (.add rfl rfl (by omega) (by omega)) ?_
   refine .aH fds 2 ?_
   exact(ih (i+1,ss++[(Sx.mk sb (nameOf pre p.1) (p.1:Int) p.2.1 sm aa ac ia ic)],(e.put (nameOf pre p.1) ⟨flat p.2.1,(flat p.2.1).length⟩),qa,qc) ⟨by show i+1≤_;omega,hO.step hF.nodup mq hh iJ qT⟩ (by show L.length-(i+1)<L.length-i;omega)).to .r6 .iB
  ·
   refine .aM rfl (fun Nb=>?_) (fun Nb=>?_)
   ·
    have Tw:i=0:=by omega
    have hle:(p.1:Int)≤(z:Int):=hF.first (Tw▸mq)
    refine .ax fds 7 ?_
    refine .on (t:=55) rfl rfl ?_
    refine .rd (.ld ak rfl .p0 rfl) ?_
    refine .go fds 1 ?_
    refine .al 61 (.bool true) rfl (bR hle) ?_
    refine .aH fds 3 ?_
    exact fin () trivial .r7 .mN
   ·
    obtain⟨r,y,LJ,Gm,Jr,F9,lX⟩:=hO.ahead hF mm (by omega) mq
    refine .ax fds 7 ?_
    refine .on (t:=64) rfl rfl ?_
    refine .rd (.ld aN rfl .p0 rfl) ?_
    refine .al 69 (.pointer (some ⟨y.b,0,none⟩)) rfl (by rw[Jr]) ?_
    refine .on (t:=64) rfl rfl ?_
    refine .fn rfl rfl .nil ((af.lH .p2).mono fun _ h=>h y Gm) (bZ db y F9) (fun v G1 hq=>?_)
    obtain⟨rfl,rfl⟩:=hq
    simp only[ae]
    refine .go fds 1 ?_
    refine .al 71 (.bool true) rfl (bR lX) ?_
    refine .aH fds 3 ?_
    exact fin () trivial .r7 .mN
 ·
  refine .go fds 3 ?_
  obtain rfl:i=L.length:=by omega
  obtain⟨r,y,LJ,Gm,Jr,F9,q,Cr,Va⟩:=hO.end_ hF
  have KU:=hF.zw
  have RV:0<L.length:=List.length_pos_iff.2 hF.xO
  have Vb:=F9.eC
  refine .dr [3,10,15] [an lx (a6 (j0 ss) db pre most (z:Int) (w:Int) la (ss.map (·.b)).length lc) 57] ?_
  refine .aq fds [0] ?_
  refine .aq fds [1] ?_
  refine .aq fds [2] ?_
  refine .re 3 rfl (.ld cV rfl .p0 rfl) .q0 ?_
  refine .rq 4 rfl (.bP rfl rfl Tryz.underlying55 rfl) ?_
  refine .aq fds [5] ?_
  refine .al 93 (.bool false) rfl (aE (by omega)) ?_
  refine .aq fds [6] ?_
  refine .aq fds [7] ?_
  refine .aq fds [8] ?_
  refine .aq fds [9] ?_
  refine .vR 10 (t:=94) rfl rfl rfl rfl (by kernel_rfl) (by kernel_rfl) (by kernel_rfl) (.ld aN rfl .p0 rfl) .q0 ?_
  refine .al 98 (.pointer (some ⟨y.b,0,none⟩)) rfl (by rw[Jr]) ?_
  refine .aq fds [12] ?_
  refine .aq fds [13] ?_
  refine .aq fds [14] ?_
  refine .vR 15 (t:=94) rfl rfl rfl rfl (by kernel_rfl) (by kernel_rfl) (by kernel_rfl) (.ld ak rfl .p0 rfl) .q0 ?_
  refine .GD 11 (t:=94) (by kernel_rfl) rfl rfl rfl (.fn rfl rfl .nil ((af.lH .p2).mono fun _ h=>h y Gm) (bZ db y F9)) ?_
  rintro v _ ⟨G1,hq,rfl⟩
  obtain⟨rfl,rfl⟩:=hq
  simp only[ae]
  refine⟨.inr ⟨_,.q0⟩,?_⟩
  refine .aq fds [16] ?_
  refine .aq fds [17] ?_
  refine .dn ?_
  refine .aM rfl (fun Tx=>?_) (fun Tx=>?_)
  ·
   obtain⟨⟨Jm,hle⟩,k1,k2,k3,k4,k5⟩:=tY hF hO hd hn
   have Ki:∀p∈e.fs,p.1.length≤64:=fun p hp=>by
    obtain⟨x,hx,e1⟩:=List.mem_map.1 (Jm.mem_iff.1 (List.mem_map_of_mem hp))
    rw[←e1];exact hk x hx
   refine .ax fds 6 ?_
   refine .rd (.ld ak rfl .p0 rfl) ?_
   refine .fn rfl rfl (.cons .p0 (.cons .p2 (.cons .p2 .nil))) (af.pick .p3 k) (A9 lx db mb e (j0 ss) pre most (z:Int) (w:Int) la (ss.map (·.b)).length lc z (L.map (·.1)) hO.cS hp Ki (by omega) (by omega) k1 hF.nodup k2 k3 k4 (by rw[Dk.dJ k5];rfl)) (fun v G1 hq=>?_)
   obtain⟨sb,sm,aa,ac,ia,ic,qa,qc,rfl,iJ,rfl⟩:=hq
   simp only[ag,ae]
   have Q9:=IZ hF hO hd hn hp h1 h2 lx sb iJ aa ac ia ic qa qc
   refine .aH fds 2 ?_
   refine .pack (L:=[an sb ((Sx.mk sb (nameOf pre z) (z:Int) [] sm aa ac ia ic).cells db) 110,arr 112 4 aa ac (Sx.mk sb (nameOf pre z) (z:Int) [] sm aa ac ia ic).rows,arr 3 1 ia ic (sm.flatMap fI)]) (.cons .p4 (.cons .p4 (.cons .p4 .nil))) ?_
   refine .go fds 8 ?_
   refine .dr [4,8] [an lx (a6 (some ⟨sb,0,none⟩) db pre most (z:Int) (w:Int) qa ([]++[sb]).length qc) 57] ?_
   refine .aq fds [0] ?_
   refine .aq fds [1] ?_
   refine .aq fds [2] ?_
   refine .aq fds [3] ?_
   refine .re 4 rfl (.ld ak rfl .p0 rfl) .q1 ?_
   refine .aq fds [5] ?_
   refine .aq fds [6] ?_
   refine .aq fds [7] ?_
   refine .re 8 rfl (.ld aN rfl .p0 rfl) .q1 ?_
   refine .eg 9 rfl (.fn rfl rfl .nil (SG.at .p0) (bZ db (Sx.mk sb (nameOf pre z) (z:Int) [] sm aa ac ia ic) Q9.ok.ai.1)) ?_
   rintro v _ ⟨G1,hq,rfl⟩
   obtain⟨rfl,rfl⟩:=hq
   simp only[ae]
   refine⟨.inr ⟨_,.q1⟩,?_⟩
   refine .al 124 (.int .i64 (z:Int)) rfl (rfl) ?_
   refine .rq 10 rfl (.min2 rfl rfl rfl) ?_
   refine .al 125 (.int .i64 (z:Int)) rfl (congrArg (Value.int .i64) (by omega)) ?_
   refine .aq fds [11] ?_
   refine .aq fds [12] ?_
   refine .eh 13 rfl (.store cc rfl rfl .p1 rfl aU) ?_
   rintro _ _ rfl
   refine ay ?_
   refine .dn ?_
   refine .go fds 6 ?_
   refine .ca (an (Lx.mk lx pre most z z [] (Sx.mk sb (nameOf pre z) (z:Int) [] sm aa ac ia ic) qa qc).lb ((Lx.mk lx pre most z z [] (Sx.mk sb (nameOf pre z) (z:Int) [] sm aa ac ia ic) qa qc).cells db) 57) (rfl) ?_
   refine .perm (.cons .p2 (.cons .p0 (.cons .p0 (.cons .p0 (.cons .p0 (.cons .p0 (.cons .p0 (.cons .p0 (.cons .p0 .nil))))))))) ?_
   refine .ca (arr 54 1 (Lx.mk lx pre most z z [] (Sx.mk sb (nameOf pre z) (z:Int) [] sm aa ac ia ic) qa qc).la (Lx.mk lx pre most z z [] (Sx.mk sb (nameOf pre z) (z:Int) [] sm aa ac ia ic) qa qc).lc ((Lx.mk lx pre most z z [] (Sx.mk sb (nameOf pre z) (z:Int) [] sm aa ac ia ic) qa qc).ar.flatMap sp)) (rfl) ?_
   refine .close (X:=cD (SG db) []) (B:=[]) .nil (fun _ _=>cD.nil) ?_
   refine .close (X:=cD (SG db) ([]++[(Sx.mk sb (nameOf pre z) (z:Int) [] sm aa ac ia ic)])) (.cons .p3 (.cons .p0 .nil)) (fun h H=>iF (bX:=[]) (s:=(Sx.mk sb (nameOf pre z) (z:Int) [] sm aa ac ia ic)) H) ?_
   refine .ca (cD (SG db) (Lx.mk lx pre most z z [] (Sx.mk sb (nameOf pre z) (z:Int) [] sm aa ac ia ic) qa qc).ar) (rfl) ?_
   refine .pack (L:=[an (Lx.mk lx pre most z z [] (Sx.mk sb (nameOf pre z) (z:Int) [] sm aa ac ia ic) qa qc).lb ((Lx.mk lx pre most z z [] (Sx.mk sb (nameOf pre z) (z:Int) [] sm aa ac ia ic) qa qc).cells db) 57,arr 54 1 (Lx.mk lx pre most z z [] (Sx.mk sb (nameOf pre z) (z:Int) [] sm aa ac ia ic) qa qc).la (Lx.mk lx pre most z z [] (Sx.mk sb (nameOf pre z) (z:Int) [] sm aa ac ia ic) qa qc).lc ((Lx.mk lx pre most z z [] (Sx.mk sb (nameOf pre z) (z:Int) [] sm aa ac ia ic) qa qc).ar.flatMap sp),cD (SG db) (Lx.mk lx pre most z z [] (Sx.mk sb (nameOf pre z) (z:Int) [] sm aa ac ia ic) qa qc).ar]) (.cons .p2 (.cons .p1 (.cons .p0 .nil))) ?_
   refine .aG Tryz.func32 (.t2 rfl rfl) (.cons .p0 (.cons .p0 (.cons .p0 (.cons .p3 .nil)))) ?_
   exact⟨[_,_,_],⟨(Lx.mk lx pre most z z [] (Sx.mk sb (nameOf pre z) (z:Int) [] sm aa ac ia ic) qa qc),((bO pre (L.map (·.1)) e).put (nameOf pre z) ⟨flat [],(flat []).length⟩),rfl,.inr ⟨Q9,q,Cr,by omega⟩,rfl⟩,rfl⟩
  ·
   have AZ:=hO.log hF (by omega) hp LJ h1 h2 lx la lc
   refine .go fds 2 ?_
   refine .dr [4,8] [an lx (a6 (j0 ss) db pre most (z:Int) (w:Int) la (ss.map (·.b)).length lc) 57] ?_
   refine .aq fds [0] ?_
   refine .aq fds [1] ?_
   refine .aq fds [2] ?_
   refine .aq fds [3] ?_
   refine .re 4 rfl (.ld ak rfl .p0 rfl) .q0 ?_
   refine .aq fds [5] ?_
   refine .aq fds [6] ?_
   refine .aq fds [7] ?_
   refine .re 8 rfl (.ld aN rfl .p0 rfl) .q0 ?_
   refine .al 123 (.pointer (some ⟨y.b,0,none⟩)) rfl (by rw[Jr]) ?_
   refine .eg 9 rfl (.fn rfl rfl .nil ((af.lH .p2).mono fun _ h=>h y Gm) (bZ db y F9)) ?_
   rintro v _ ⟨G1,hq,rfl⟩
   obtain⟨rfl,rfl⟩:=hq
   simp only[ae]
   refine⟨.inr ⟨_,.q0⟩,?_⟩
   refine .rq 10 rfl (.min2 rfl rfl rfl) ?_
   refine .al 125 (.int .i64 (min (w:Int) y.next)) rfl (congrArg (Value.int .i64) (by omega)) ?_
   refine .aq fds [11] ?_
   refine .aq fds [12] ?_
   refine .eh 13 rfl (.store cc rfl rfl .p0 rfl aU) ?_
   rintro _ _ rfl
   refine ay ?_
   refine .dn ?_
   refine .go fds 6 ?_
   refine .ca (an (Lx.mk lx pre most z (min (w:Int) y.next) r y la lc).lb ((Lx.mk lx pre most z (min (w:Int) y.next) r y la lc).cells db) 57) (by rw[Jr,Tu,show L.length=r.length+1 by rw[←oS,LJ,List.length_append];rfl];rfl) ?_
   refine .perm .iB ?_
   refine .ca (arr 54 1 (Lx.mk lx pre most z (min (w:Int) y.next) r y la lc).la (Lx.mk lx pre most z (min (w:Int) y.next) r y la lc).lc ((Lx.mk lx pre most z (min (w:Int) y.next) r y la lc).ar.flatMap sp)) (by rw[LJ,List.flatMap_map];rfl) ?_
   refine .perm .mM ?_
   refine .ca (cD (SG db) (Lx.mk lx pre most z (min (w:Int) y.next) r y la lc).ar) (by rw[LJ];rfl) ?_
   refine .pack (L:=[an (Lx.mk lx pre most z (min (w:Int) y.next) r y la lc).lb ((Lx.mk lx pre most z (min (w:Int) y.next) r y la lc).cells db) 57,arr 54 1 (Lx.mk lx pre most z (min (w:Int) y.next) r y la lc).la (Lx.mk lx pre most z (min (w:Int) y.next) r y la lc).lc ((Lx.mk lx pre most z (min (w:Int) y.next) r y la lc).ar.flatMap sp),cD (SG db) (Lx.mk lx pre most z (min (w:Int) y.next) r y la lc).ar]) (.cons .p2 (.cons .p1 (.cons .p0 .nil))) ?_
   refine .aG Tryz.func32 (.t2 rfl rfl) .oP ?_
   exact⟨[_,_,_],⟨(Lx.mk lx pre most z (min (w:Int) y.next) r y la lc),e,rfl,.inl ⟨ss,⟨AZ,hO,LJ.symm,rfl,rfl⟩,q,Cr,by omega⟩,rfl⟩,rfl⟩
theorem Ga(db mb:Nat)(d:Dk)(pre:Nm)(most:Int)(L:List Piece)(z w:Nat)(hd:d.ok)(hp:oe pre)(hk:∀p∈d.fs,p.1.length≤64)(hn:d.fs.length<255)(h1:256≤most)(h2:most≤1000000)(hF:Found pre d L z w):Cn Tryz.prog 32 [.pointer (some ⟨db,0,none⟩),aW pre,.int .i64 most] LV [an db (d.cells mb) 74,mp aW Fl.val mb d.fs] fun v G=>∃l ss e,v=.tuple #[.pointer (some ⟨l.lb,0,none⟩),.int .i64 0]∧l8 pre d L z w l ss e∧G=[LG db l,an db (e.cells mb) 74,mp aW Fl.val mb e.fs]:=
 (yd db mb d pre most L z w hd hp hk hn h1 h2 hF.x).mono fun v G ⟨l,e,hv,h,hG⟩=>by
  rcases h with⟨ss,hO,_⟩|⟨_,q,hq,hl⟩
  ·
   exact⟨l,ss,e,hv,hO,hG⟩
  ·
   have:=hF.next q hq;omega
theorem Gb:Cn Tryz.prog 7 [] LV [] fun v G=>v=.bool true∧G=[]:=by
 refine .en Tryz.func7 fun R k=>?_
 refine .ax fds 6 ?_
 refine .fn rfl rfl .nil ah (EQ 100000 (by decide) (by decide)) (fun v G1 hq=>?_)
 obtain⟨db,mb,rfl,rfl⟩:=hq
 simp only[ag,ae]
 refine .ax fds 10 ?_
 refine .rd (.jy Tryz.underlying24 rfl rfl) ?_
 refine .ax fds 10 ?_
 refine .fn rfl rfl .cU (af.pick .p0 (k.mono fun _ h=>h)) (nI db mb (Dk.mk 100000 []) [112] 256 [] [] (fun l d'=>dG [112] 256 (Dk.mk 100000 []) l d') (xH db mb (Dk.mk 100000 []) [112] 256 (FL (by decide)) FK (oI _) (Nat.zero_lt_succ _) (xT _ _) (by decide) (by decide)) (fun l e h=>tS (.inr h) (by decide))) (fun v G1 hq=>?_)
 obtain⟨s0,e0,d0,rfl,PV,No,rfl⟩:=hq
 simp only[ag,ae]
 obtain⟨mi,mq⟩:=tT PV (by decide) No
 obtain⟨z8,Oc,Ny⟩:=bC mi mq
 have PW:=Bt (z:=0) (m:=0) (e:=d0) mq Oc Ny
 have mh:=mi.mono (Nat.le_refl _) (Nat.le_refl _) (show(0:Int)≤2 by decide)
 refine .ax fds 10 ?_
 refine .rd (.jy Tryz.underlying28 rfl rfl) ?_
 refine .go fds 6 ?_
 refine .on (t:=34) rfl rfl ?_
 refine .fn rfl rfl .nil (SS.cells .p0) (iX db s0) (fun v G1 hq=>?_)
 obtain⟨rfl,rfl⟩:=hq
 simp only[ae]
 refine .on (t:=34) rfl rfl ?_
 refine .rd (.jy Tryz.underlying48 rfl rfl) ?_
 refine .go fds 3 ?_
 refine .on (t:=39) rfl rfl ?_
 refine .fn rfl rfl .nil (SS.cells .p0) (tZ db s0) (fun v G1 hq=>?_)
 obtain⟨rfl,rfl⟩:=hq
 simp only[ae]
 refine .on (t:=39) rfl rfl ?_
 refine .rd (.jy Tryz.underlying65 rfl rfl) ?_
 refine .go fds 3 ?_
 refine .on (t:=44) rfl rfl ?_
 refine .fn rfl rfl .nil (SS.cells .p0) (iv db s0) (fun v G1 hq=>?_)
 obtain⟨rfl,rfl⟩:=hq
 simp only[ae]
 refine .on (t:=44) rfl rfl ?_
 refine .rd (.jy Tryz.underlying36 rfl rfl) ?_
 refine .ax fds 7 ?_
 refine .fn rfl rfl .nil ah (nJ 2 7 0 1 (by decide)) (fun v G1 hq=>?_)
 obtain⟨ra,rc,rfl,rfl⟩:=hq
 simp only[ag,ae]
 have z7:=Nw 0 s0.l.next (by decide) (by omega)
 have Lh:late (aA (bf s0.t.m) 7) (gh 2 7 0 0 1 s0.l.next)=false:=by rw[Ny,z8];exact asks.2.2.2
 have Vc:=z7.enc
 have Tz:=mh.Cz
 have Nz:=mh.size
 have TA:=mh.ar
 have TB:=mh.len
 have Ra:=mh.Fy
 refine .fn rfl rfl .nP ((af.pick .p1 k).and (af.arr .p0)) (mg db mb d0 s0 (gh 2 7 0 0 1 0) ra rc mh.cS mh.ok mh.own mh.nm mh.es mh.eM (by omega) mh.lf.tocC (by omega) (by omega) (by omega) z7.aT z7.ep mh.last (by decide) Lh (by show Dk.used d0+8040+(enc (gh 2 7 0 0 1 s0.l.next)).length≤_;omega)) (fun v G1 hq=>?_)
 obtain⟨s1,d1,rfl,PX,rfl⟩:=hq
 simp only[ag,ae]
 refine .al 52 (.tuple #[.int .i64 0,.int .i64 0]) rfl (by rw[z8]) ?_
 have I5:l5 s0 d0 (gh 2 7 0 0 1 s0.l.next) s1 d1:=PX
 have gE:=mh.zJ I5 z7 (Int.le_refl _) (by decide) (by decide) Lh ⟨by decide,by decide⟩ (by decide)
 have Pq:=PW.zJ mh I5 z7 (Int.le_refl _) (by decide) Lh ⟨by decide,by decide⟩ (by decide)
 have B7:s1.l.next=1:=by rw[I5.app.next,xJ,z8];rfl
 have Bn:bf s1.t.m=[(7,[n0])]:=by rw[I5.t,Ny,z8];exact IY.1
 have TC:s1.l.all=[gh 2 7 0 0 1 0]:=by rw[I5.app.all,Oc,z8];rfl
 refine .aH fds 6 ?_
 refine .al 3 (.pointer (some ⟨s1.sx,0,none⟩)) rfl (by rw[I5.sx];try rfl) ?_
 refine .ax fds 3 ?_
 refine .fn rfl rfl .nil ah (nJ 2 7 1 1 (by decide)) (fun v G1 hq=>?_)
 obtain⟨ra,rc,rfl,rfl⟩:=hq
 simp only[ag,ae]
 have Df:=Nw 1 s1.l.next (by decide) (by omega)
 have I2:late (aA (bf s1.t.m) 7) (gh 2 7 0 1 1 s1.l.next)=false:=by rw[Bn,B7];exact asks.2.2.1
 have M1:=Df.enc
 have TD:=gE.Cz
 have TE:=gE.size
 have TF:=gE.ar
 have TH:=gE.len
 have Rb:=gE.Fy
 refine .fn rfl rfl .nP ((af.pick .p2 k).and (af.arr .p0)) (mg db mb d1 s1 (gh 2 7 0 1 1 0) ra rc gE.cS gE.ok gE.own gE.nm gE.es gE.eM (by omega) gE.lf.tocC (by omega) (by omega) (by omega) Df.aT Df.ep gE.last (by decide) I2 (by show Dk.used d1+8040+(enc (gh 2 7 0 1 1 s1.l.next)).length≤_;omega)) (fun v G1 hq=>?_)
 obtain⟨s2,d2,rfl,PY,rfl⟩:=hq
 simp only[ag,ae]
 refine .al 58 (.tuple #[.int .i64 1,.int .i64 0]) rfl (by rw[B7]) ?_
 have jx:l5 s1 d1 (gh 2 7 0 1 1 s1.l.next) s2 d2:=PY
 have kO:=gE.zJ jx Df (Int.le_refl _) (by decide) (by decide) I2 ⟨by decide,by decide⟩ (by decide)
 have CR:=Pq.zJ gE jx Df (Int.le_refl _) (by decide) I2 ⟨by decide,by decide⟩ (by decide)
 have Lw:s2.l.next=2:=by rw[jx.app.next,xJ,B7];rfl
 have Bo:bf s2.t.m=[(7,[n0,n1])]:=by rw[jx.t,Bn,B7];exact IY.2.1
 have Rc:s2.l.all=[gh 2 7 0 0 1 0,gh 2 7 0 1 1 1]:=by rw[jx.app.all,TC,B7];rfl
 refine .aH fds 6 ?_
 refine .al 3 (.pointer (some ⟨s2.sx,0,none⟩)) rfl (by rw[jx.sx];try rfl) ?_
 refine .ax fds 3 ?_
 refine .fn rfl rfl .nil ah (nJ 1 0 0 1 (by decide)) (fun v G1 hq=>?_)
 obtain⟨ra,rc,rfl,rfl⟩:=hq
 simp only[ag,ae]
 have Kn:cu s2.c.es=2:=by rw[jx.es];exact rO gE.last
 refine .fn rfl rfl .q1 ah (yb db d2 s2 (gh 1 0 0 0 1 0) ra rc kO.ok kO.es (by rw[Kn];decide)) (fun v G1 hq=>?_)
 obtain⟨rfl,rfl⟩:=hq
 simp only[ag,ae]
 refine .aH fds 7 ?_
 refine .unpack (L:=[an s2.sx (s2.cells db) 80,LG db s2.l,CG db s2.c,TG s2.t]) .p0 ?_
 simp only[ag,ae]
 refine .ax fds 2 ?_
 refine .fn rfl rfl .nil (af.an .p0) (iv db s2) (fun v G1 hq=>?_)
 obtain⟨rfl,rfl⟩:=hq
 simp only[ae]
 refine .fn rfl rfl .q3 ah (qW s2.t 7 0 0 1 kO.lf.tocC ⟨by decide,by decide⟩ ⟨by decide,by decide⟩ ⟨by decide,by decide⟩ ⟨by decide,by decide⟩) (fun v G1 hq=>?_)
 obtain⟨rfl,rfl⟩:=hq
 simp only[ag,ae]
 refine .al 70 (.tuple #[.int .i64 0,.int .i64 0]) rfl (by rw[show ask (bf s2.t.m) 7 0 0 1=(0,0)from by rw[Bo];exact asks.1]) ?_
 refine .aH fds 6 ?_
 refine .pack (L:=[an (s2).sx (St.cells (s2) db) 80,LG db (s2).l,CG db (s2).c,TG (s2).t]) .lC ?_
 refine .ax fds 31 ?_
 refine .on (t:=99) rfl rfl ?_
 refine .fn rfl rfl .nil (SS.cells .p0) (tZ db s2) (fun v G1 hq=>?_)
 obtain⟨rfl,rfl⟩:=hq
 simp only[ae]
 refine .on (t:=99) rfl rfl ?_
 refine .fn rfl rfl .nil (SS.cache .p0) (qf db s2.c (by have:=kO.es.len;omega)) (fun v G1 hq=>?_)
 obtain⟨rfl,rfl⟩:=hq
 simp only[ae]
 refine .al 102 (.int .i64 2) rfl (by rw[Kn]) ?_
 refine .go fds 4 ?_
 refine .on (t:=105) rfl rfl ?_
 refine .fn rfl rfl (.cons .p0 (.cons .p1 (.cons .p1 .nil))) ah (ya db mb d2 s2 kO.cS kO.ok) (fun v G1 hq=>?_)
 obtain⟨rfl,rfl⟩:=hq
 simp only[ag,ae]
 have zX:=kO.sync
 have Re:=CR.sync kO
 have Rf:=K0 s2.l d2
 generalize sync s2.l d2=d3 at zX Re Rf⊢
 refine .go fds 4 ?_
 refine .on (t:=110) rfl rfl ?_
 have Eb:=jw zX
 have TJ:=zX.Cz
 have TK:=zX.size
 have TL:=zX.len
 have NA:=zX.N4
 have TN:=zX.PB
 have TO:s2.l.start=0:=by rw[jx.app.start,I5.app.start];exact mq.start
 have Li:∃b∈s2.l.all,b.base=((1:Nat):Int):=⟨gh 2 7 0 1 1 1,by rw[Rc];exact .tail _ (.head _),rfl⟩
 refine .fn rfl rfl .ez (af.pick .p3 k) (sy db mb d3 s2 1 zX.cS zX.ok zX.nm zX.es zX.lf.tocC (by omega) (by unfold bf at NA;rw[List.length_map]at NA;omega) (by omega) (by omega) (.inr Li) (by omega) (by omega)) (fun v G1 hq=>?_)
 obtain⟨s3,d4,rfl,hD,rfl⟩:=hq
 simp only[ag,ae]
 have vJ:=zX.del (by decide) hD Li ⟨by decide,by decide⟩ (.inr ⟨by decide,by decide,by decide⟩)
 have Lm:=Re.del zX hD Li (by omega) ⟨by decide,by decide⟩ (.inr ⟨by decide,by decide,by decide⟩)
 have Q5:=Rf.del zX hD ⟨by decide,by decide⟩
 have TP:=vJ.len
 refine .ax fds 8 ?_
 refine .lB (aD none (([]:List Int).flatMap rP)) (fun _=>.inl rfl) ?_
 refine .fn rfl rfl (.cons .p2 (.cons .p2 (.cons .p0 .nil))) ah (yc db mb d4 _ none [] 0 vJ.cS vJ.short.all (by omega) rfl (Nat.le_refl _) eG (by decide)) (fun v G1 hq=>?_)
 obtain⟨e,hC,rfl⟩:=hq
 simp only[ag,ae]
 have Ki:e.fs.length=d4.fs.length:=by have:=congrArg List.length hC.keys;rwa[List.length_map,List.length_map]at this
 have PZ:dI e:=fun n hn=>vJ.short n (by rw[←hC.get];exact hn)
 refine .ax fds 4 ?_
 refine .fn rfl rfl .cU (af.pick .p4 k) (nI db mb e [112] 256 s3.c.es (cx (bf s2.t.m)) (fun l d'=>oY s3 d4 l d'∧l.all=s3.l.all∧l.next=s3.l.next) (CK db mb 256 vJ Lm Q5 hC ⟨by decide,by decide⟩ (by decide) (by decide) (fun L z w hF=>Ga db mb e [112] 256 L z w hC.cS FK PZ.all (by omega) (by decide) (by decide) hF)) (fun l e2 h=>oK vJ Lm h.1 ⟨by decide,by decide⟩ (by decide))) (fun v G1 hq=>?_)
 obtain⟨s4,e2,d5,rfl,By,Rg,rfl⟩:=hq
 simp only[ag,ae]
 obtain⟨xz,TQ⟩:=sr vJ Lm (by decide) By.1 Rg ⟨by decide,by decide⟩ (by decide)
 obtain⟨Rh,P0⟩:=CO Rc Bo kO.lf.tocC hD By.2.1 By.1.start Rg
 refine .ax fds 10 ?_
 refine .rd (.jy Tryz.underlying28 rfl rfl) ?_
 refine .go fds 6 ?_
 refine .on (t:=128) rfl rfl ?_
 refine .fn rfl rfl .nil (SS.cells .p0) (iX db s4) (fun v G1 hq=>?_)
 obtain⟨rfl,rfl⟩:=hq
 simp only[ae]
 refine .on (t:=128) rfl rfl ?_
 refine .fn rfl rfl .nil ((SS.log .p0).mono fun _ h=>h.1) (kH s4.l.lb db (some ⟨s4.l.ai.b,0,none⟩) s4.l.pre s4.l.most s4.l.start s4.l.aJ s4.l.la (s4.l.bX.length+1) s4.l.lc) (fun v G1 hq=>?_)
 obtain⟨rfl,rfl⟩:=hq
 simp only[ae]
 refine .al 131 (.int .i64 1) rfl (congrArg (Value.int .i64) P0) ?_
 refine .aH fds 6 ?_
 refine .unpack (L:=[an s4.sx (s4.cells db) 80,LG db s4.l,CG db s4.c,TG s4.t]) .p0 ?_
 simp only[ag,ae]
 refine .ax fds 2 ?_
 refine .fn rfl rfl .nil (af.an .p0) (iv db s4) (fun v G1 hq=>?_)
 obtain⟨rfl,rfl⟩:=hq
 simp only[ae]
 refine .fn rfl rfl .q3 ah (qW s4.t 7 0 0 1 xz.lf.tocC ⟨by decide,by decide⟩ ⟨by decide,by decide⟩ ⟨by decide,by decide⟩ ⟨by decide,by decide⟩) (fun v G1 hq=>?_)
 obtain⟨rfl,rfl⟩:=hq
 simp only[ag,ae]
 refine .al 137 (.tuple #[.int .i64 0,.int .i64 0]) rfl (by rw[show ask (bf s4.t.m) 7 0 0 1=(0,0)from by rw[Rh];exact asks.1]) ?_
 refine .aH fds 6 ?_
 refine .pack (L:=[an (s4).sx (St.cells (s4) db) 80,LG db (s4).l,CG db (s4).c,TG (s4).t]) .lC ?_
 refine .ax fds 11 ?_
 refine .on (t:=146) rfl rfl ?_
 have Vd:s4.l.next=2:=by rw[By.2.2];obtain⟨_,h1,_⟩:=hD.del;exact(show s3.l.ai.next=s2.l.ai.next by rw[h1.ai]).trans Lw
 have IL:=TQ.x7 xz (off:=1) (by omega)
 have TR:=xz.Cz
 have TT:=xz.size
 have TU:=xz.len
 refine .fn rfl rfl .ez (af.pick .p4 k) (Bx db mb d5 s4 1 xz.cS xz.ok xz.nm xz.es xz.lf.tocC (by omega) (by omega) (by omega) IL.1 (by omega)) (fun v G1 hq=>?_)
 obtain⟨s5,d6,rfl,Od,rfl⟩:=hq
 simp only[ag,ae]
 have TW:s5.l.next=1:=by
  obtain⟨e5,h1,_⟩:=Od.cut
  have h2:=h1.ok.aC
  rw[h1.all,h1.base]at h2
  omega
 have TX:bf s5.t.m=[(7,[n0])]:=by rw[Od.t,TW,Rh];exact IY.2.2.2
 have TY:gW (bf s5.t.m):=by rw[Od.t];exact xz.lf.cut _
 refine .aH fds 3 ?_
 refine .al 12 (.pointer (some ⟨s5.sx,0,none⟩)) rfl (by rw[Od.sx];try rfl) ?_
 refine .go fds 3 ?_
 refine .unpack (L:=[an s5.sx (s5.cells db) 80,LG db s5.l,CG db s5.c,TG s5.t]) .p0 ?_
 simp only[ag,ae]
 refine .ax fds 2 ?_
 refine .fn rfl rfl .nil (af.an .p0) (iv db s5) (fun v G1 hq=>?_)
 obtain⟨rfl,rfl⟩:=hq
 simp only[ae]
 refine .fn rfl rfl .q3 ah (qW s5.t 7 0 1 1 TY.tocC ⟨by decide,by decide⟩ ⟨by decide,by decide⟩ ⟨by decide,by decide⟩ ⟨by decide,by decide⟩) (fun v G1 hq=>?_)
 obtain⟨rfl,rfl⟩:=hq
 simp only[ag,ae]
 refine .al 154 (.tuple #[.int .i64 (-1),.int .i64 0]) rfl (by rw[show ask (bf s5.t.m) 7 0 1 1=(-1,0)from by rw[TX];exact asks.2.1]) ?_
 refine .aH fds 6 ?_
 refine .pack (L:=[an (s5).sx (St.cells (s5) db) 80,LG db (s5).l,CG db (s5).c,TG (s5).t]) .lC ?_
 refine .go fds 10 ?_
 refine .aG Tryz.func7 (.t1 rfl) .q7 ?_
 exact⟨[],⟨rfl,rfl⟩,rfl⟩
theorem pu(ta:Option Addr)(ts:List Ty)(tc:Nat)(o6:∀y∈ts,y.ok)(oS:ts.length≤140737488351232):Cn Tryz.prog 4 [.slice ta ts.length tc] (fun _=>True) [bF (fun w=>LV w∧aD ta (ts.flatMap Ty.cells) w∧∀y∈ts,aD y.ka (y.kl.flatMap rP) w)] fun v G=>v=.bool true∧G=[]:=by
 refine .en Tryz.func4 fun R k=>?_
 refine .ax fds 6 ?_
 refine .fn rfl rfl .nil ((af.bF .p0).mono fun _ h=>h.1) (Gb) (fun v G1 hq=>?_)
 obtain⟨rfl,rfl⟩:=hq
 simp only[ae]
 refine .ax fds 4 ?_
 refine .fn rfl rfl .nil ah (EQ 1000000 (by decide) (by decide)) (fun v G1 hq=>?_)
 obtain⟨db,mb,rfl,rfl⟩:=hq
 simp only[ag,ae]
 refine .ax fds 13 ?_
 refine .on (t:=23) rfl rfl ?_
 refine .rd (.jy Tryz.underlying24 rfl rfl) ?_
 refine .ax fds 11 ?_
 refine .fn rfl rfl .cU ((af.bF .p0).mono fun _ h=>h.1) (nI db mb (Dk.mk 1000000 []) [112] 300 [] [] (fun l d'=>dG [112] 300 (Dk.mk 1000000 []) l d') (xH db mb (Dk.mk 1000000 []) [112] 300 (FL (by decide)) FK (oI _) (Nat.zero_lt_succ _) (xT _ _) (by decide) (by decide)) (fun l e h=>tS (.inl h) (by decide))) (fun v G1 hq=>?_)
 obtain⟨s0,e0,d0,rfl,PV,No,rfl⟩:=hq
 simp only[ag,ae]
 obtain⟨mi,mq⟩:=tT PV (by decide) No
 obtain⟨z8,Oc,Ny⟩:=bC mi mq
 have PW:=Bt (z:=0) (m:=0) (e:=d0) mq Oc Ny
 refine .ax fds 10 ?_
 refine .rd (.jy Tryz.underlying28 rfl rfl) ?_
 refine .aH fds 17 ?_
 refine .loop (σ:=Nat×Int×St×Dk×Tm) (fun⟨i,ep,s,d,D⟩=>i≤ts.length∧i≤40∧(1≤ep∧ep≤1+(i:Int))∧bz 1000000 i (2*i) ep s d∧dW D s d) (fun⟨i,ep,s,d,D⟩=>ts.length-i) (fun⟨i,ep,s,d,D⟩=>[(0,.slice ta ts.length tc),(4,.pointer (some ⟨db,0,none⟩)),(6,.pointer (some ⟨s.sx,0,none⟩)),(7,.int .i64 ep),(8,.int .i64 (i:Nat))]) (fun⟨i,ep,s,d,D⟩=>[SS db s,an db (d.cells mb) 74,mp aW Fl.val mb d.fs,bF (fun w=>LV w∧aD ta (ts.flatMap Ty.cells) w∧∀y∈ts,aD y.ka (y.kl.flatMap rP) w),R]) (0,1,s0,d0,[]) ⟨Nat.zero_le _,by decide,by decide,mi.mono (Nat.le_refl _) (Nat.le_refl _) (by decide),PW⟩ .r5 .fe (fun s' hI ih=>?_)
 obtain⟨i,ep,s,d,D⟩:=s'
 dsimp only at hI ih⊢
 obtain⟨mm,TZ,wN,hB,hO⟩:=hI
 refine .ax fds 3 ?_
 refine aZ.join 8 49 (decide (i<ts.length∧i<40)) ?_ ?_
 ·
  refine .go fds 2 ?_
  refine .rd (.bP rfl rfl Tryz.underlying22 rfl) ?_
  refine .go fds 2 ?_
  refine .split (t:=46) rfl (fun g10=>?_) (fun g10=>?_)
  ·
   replace g10:=of_decide_eq_true g10
   refine .go fds 3 ?_
   refine .nil ⟨rfl,?_,by repeat (first|exact Le.refl _|refine Le.skip rfl ?_)⟩
   exact congrArg (fun x=>some (Value.bool x)) (decide_eq_decide.2 (by omega))
  ·
   replace g10:=of_decide_eq_false g10
   refine .go fds 3 ?_
   refine .nil ⟨rfl,?_,by repeat (first|exact Le.refl _|refine Le.skip rfl ?_)⟩
   exact congrArg (fun x=>some (Value.bool x)) ((decide_eq_false (by omega)).symm)
 refine .nil ?_
 refine .aM rfl (fun Nb=>?_) (fun Nb=>?_)
 ·
  refine .go fds 4 ?_
  obtain⟨y,hy⟩:∃y,ts[i]?=some y:=⟨_,List.getElem?_eq_getElem (by omega)⟩
  have Ri:=List.mem_of_getElem? hy
  have zV:=o6 y Ri
  have q1:=jh (c:=y.pid) (n:=2) (by decide)
  have q2:=ji (c:=y.pid) (n:=2) (by decide)
  have q3:=jh (c:=y.ep) (n:=3) (by decide)
  have q4:=ji (c:=y.ep) (n:=3) (by decide)
  have q5:=jh (c:=y.seq) (n:=6) (by decide)
  have q6:=ji (c:=y.seq) (n:=6) (by decide)
  have q7:=jh (c:=y.n) (n:=2) (by decide)
  have q8:=ji (c:=y.n) (n:=2) (by decide)
  obtain⟨m,hm⟩:∃m:Nat,(m:Int)=1+bV y.n 2:=⟨(1+bV y.n 2).toNat,by omega⟩
  have z8:=hB.s6
  have lX:=hB.next
  have kM:=hB.last
  have nK:=hB.ok.start
  have Bk:=hB.Cz
  have jS:=hB.size
  have Gn:=hB.len
  have hS:kL (ep+bV y.ep 3/2) (1+bV y.pid 2) 0 (bV y.seq 6) m s.l.next:=⟨by unfold cF;omega,by omega,by omega,by omega,by omega,by omega⟩
  refine .tell (φ:=∃b o,ta=some ⟨b,o,none⟩) ((af.bF .p3).mono fun _ h=>aD.addr h.2.1 (by rw[au Ty.bU];omega)) (fun hh=>?_)
  obtain⟨T0,T3,Rj⟩:=hh
  refine .ax fds 3 ?_
  refine .rd (.indexAddr (b:=T0) (o:=T3) Tryz.underlying22 qC (by show some (Value.slice (ta) _ _)=_;rw[Rj]) rfl (by omega) (by omega)) ?_
  refine .rd (.fT DD qC rfl rfl (af.elem (f:=Ty.cells) Ty.bU (by decide) ((af.bF .p3).mono fun _ h=>Rj▸h.2.1) hy)) ?_
  refine .ef (.alloc DE rfl (aB.of rfl)) ?_
  rintro _ _ ⟨b9,rfl,rfl⟩
  refine .dc (.storeAll (vs:=y.cells) qC rfl rfl rfl .p0 rfl (aB.of rfl)) ?_
  rintro _ _ rfl
  refine .ax fds 5 ?_
  refine .rd (.ld ak rfl .p0 rfl) ?_
  refine .fn rfl rfl .nil ah (fJ y.ep 3 zV.ep (by decide)) (fun v G1 hq=>?_)
  obtain⟨rfl,rfl⟩:=hq
  simp only[ae]
  refine .rd (.quo rfl rfl (by omega) (by omega) (by omega)) ?_
  refine .rd (.add rfl rfl (by omega) (by omega)) ?_
  refine .ax fds 6 ?_
  refine .rd (.ld ak rfl .p0 rfl) ?_
  refine .fn rfl rfl .nil ah (fJ y.th 7 zV.th (by decide)) (fun v G1 hq=>?_)
  obtain⟨rfl,rfl⟩:=hq
  simp only[ae]
  refine .aH fds 7 ?_
  refine .lM (σ:=St×Dk×Tm) (φ:=fun⟨s4,d4,D4⟩=>bz 1000000 (i+1) (2*(i+1)) (ep+bV y.ep 3/2) s4 d4∧dW D4 s4 d4) (E':=fun⟨s4,d4,D4⟩=>[(0,.slice ta ts.length tc),(4,.pointer (some ⟨db,0,none⟩)),(6,.pointer (some ⟨s4.sx,0,none⟩)),(7,.int .i64 (ep+bV y.ep 3/2)),(8,.int .i64 (i:Nat))]) (aI:=fun⟨s4,d4,D4⟩=>[SS db s4,an db (d4.cells mb) 74,mp aW Fl.val mb d4.fs,bF (fun w=>LV w∧aD ta (ts.flatMap Ty.cells) w∧∀y∈ts,aD y.ka (y.kl.flatMap rP) w),R]) (fun sj hj=>?_) (fun fin=>?_)
  ·
   obtain⟨s4,d4,D4⟩:=sj
   obtain⟨P3,P4⟩:=hj
   dsimp only at P3 P4⊢
   refine .ax fds 4 ?_
   refine .fn rfl rfl .ez ((af.bF .p0).mono fun _ h=>h.1) (zW db mb d4 s4 P3 P4 (by omega)) (fun v G1 hq=>?_)
   obtain⟨rfl,rfl⟩:=hq
   simp only[ag,ae]
   refine .ax fds 12 ?_
   refine .rd (.add rfl rfl (by omega) (by omega)) ?_
   refine .aH fds 2 ?_
   exact(ih (i+1,(ep+bV y.ep 3/2),s4,d4,D4) ⟨by show i+1≤_;omega,by show i+1≤_;omega,by show 1≤(ep+bV y.ep 3/2)∧(ep+bV y.ep 3/2)≤1+((i+1:Nat):Int);omega,P3,P4⟩ (by show ts.length-(i+1)<ts.length-i;omega)).to .r5 .fe
  ·
   refine .aM rfl (fun c20=>?_) (fun c20=>?_)
   ·
    refine .seq ?_
    refine .dr [5,10] [an b9 (y.cells) 33,SS db s] ?_
    refine .aq fds [0] ?_
    refine .aq fds [1] ?_
    refine .aq fds [4] ?_
    refine .re 5 rfl (.ld ak rfl .p0 rfl) .cU ?_
    refine .aq fds [6] ?_
    refine .aq fds [12] ?_
    refine .eg 2 rfl (.fn rfl rfl .nil (SS.cells .p1) (iX db s)) ?_
    rintro v _ ⟨G1,hq,rfl⟩
    obtain⟨rfl,rfl⟩:=hq
    simp only[ae]
    refine⟨.inr ⟨_,.cU⟩,?_⟩
    refine .eg 3 rfl (.fn rfl rfl .nil ((SS.log .p1).mono fun _ h=>h.1) (kH s.l.lb db (some ⟨s.l.ai.b,0,none⟩) s.l.pre s.l.most s.l.start s.l.aJ s.l.la (s.l.bX.length+1) s.l.lc)) ?_
    rintro v _ ⟨G1,hq,rfl⟩
    obtain⟨rfl,rfl⟩:=hq
    simp only[ae]
    refine⟨.inr ⟨_,.cU⟩,?_⟩
    refine .eg 7 rfl (.fn rfl rfl .nil (SS.cells .p1) (iX db s)) ?_
    rintro v _ ⟨G1,hq,rfl⟩
    obtain⟨rfl,rfl⟩:=hq
    simp only[ae]
    refine⟨.inr ⟨_,.cU⟩,?_⟩
    refine .aq fds [8] ?_
    refine .aq fds [9] ?_
    refine .re 10 rfl (.load aN rfl (af.one (i:=0) ((SS.log .p1).mono fun _ h=>h.1) rfl)) .cU ?_
    refine .eg 11 rfl (.fn rfl rfl .nil ((SS.log .p1).mono fun _ h=>h.2.2 _ s.l.cJ) (bZ db s.l.ai hB.ok.ai.1)) ?_
    rintro v _ ⟨G1,hq,rfl⟩
    obtain⟨rfl,rfl⟩:=hq
    simp only[ae]
    refine⟨.inr ⟨_,.cU⟩,?_⟩
    refine .al 121 (.int .i64 s.l.next) rfl (rfl) ?_
    refine .eg 13 rfl (.fn rfl rfl .nil (SS.cells .p1) (iX db s)) ?_
    rintro v _ ⟨G1,hq,rfl⟩
    obtain⟨rfl,rfl⟩:=hq
    simp only[ae]
    refine⟨.inr ⟨_,.cU⟩,?_⟩
    refine .eg 14 rfl (.fn rfl rfl .nil ((SS.log .p1).mono fun _ h=>h.1) (kH s.l.lb db (some ⟨s.l.ai.b,0,none⟩) s.l.pre s.l.most s.l.start s.l.aJ s.l.la (s.l.bX.length+1) s.l.lc)) ?_
    rintro v _ ⟨G1,hq,rfl⟩
    obtain⟨rfl,rfl⟩:=hq
    simp only[ae]
    refine⟨.inr ⟨_,.cU⟩,?_⟩
    refine .rq 15 rfl (.sub rfl rfl (by omega) (by omega)) ?_
    refine .rq 16 rfl (.add rfl rfl (by omega) (by omega)) ?_
    have p1:=jh (c:=y.at_) (n:=(s.l.next-s.l.start+1)) (by omega)
    have p2:=ji (c:=y.at_) (n:=(s.l.next-s.l.start+1)) (by omega)
    refine .eg 17 rfl (.fn rfl rfl .nil ah (fJ y.at_ (s.l.next-s.l.start+1) zV.at_ (by omega))) ?_
    rintro v _ ⟨G1,hq,rfl⟩
    obtain⟨rfl,rfl⟩:=hq
    simp only[ae]
    refine ay ?_
    refine .rq 18 rfl (.add rfl rfl (by omega) (by omega)) ?_
    refine .eg 19 rfl (.fn rfl rfl .nP ((af.bF .p1).mono fun _ h=>h.1) (Bx db mb d s (s.l.start+bV y.at_ (s.l.next-s.l.start+1)) hB.cS hB.ok hB.nm hB.es hB.lf.tocC (by omega) (by omega) (by omega) (hO.x7 hB (by omega)).1 (by omega))) ?_
    rintro v _ ⟨G1,hq,rfl⟩
    obtain⟨s',d',rfl,hC,rfl⟩:=hq
    simp only[ag,ae]
    refine ay ?_
    refine .aq fds [20] ?_
    refine .dn ?_
    refine .al 6 (.pointer (some ⟨s'.sx,0,none⟩)) rfl (by rw[hC.sx];try rfl) ?_
    refine .go fds 2 ?_
    exact fin (s',d',D) ⟨(hB.cut (by omega) hC ⟨by omega,by omega⟩ (by decide)).mono (Nat.le_succ _) (by omega) (by omega),hO.cut hB hC ⟨by omega,by omega⟩ (by decide)⟩ .r5 (.cons .p0 (.cons .p0 (.cons .p0 (.cons .p1 (.cons .p1 .nil)))))
   ·
    refine .go fds 5 ?_
    refine .aM rfl (fun T4=>?_) (fun T4=>?_)
    ·
     refine .ax fds 3 ?_
     refine .fn rfl rfl .nil (SS.cells .p1) (iX db s) (fun v G1 hq=>?_)
     obtain⟨rfl,rfl⟩:=hq
     simp only[ae]
     refine .fn rfl rfl .Jj (SS.log .p1) (zU db mb d s.l hB.ok (by have:=hB.all;omega)) (fun v G1 hq=>?_)
     obtain⟨bl,ra,rc,yl,rfl,rfl⟩:=hq
     simp only[ag,ae]
     have I4:bl.map (·.1)=s.l.fN:=yl
     have Q6:bl.length≤100000:=by have h1:=congrArg List.length I4;rw[List.length_map]at h1;have h2:=kF s.l.start s.l.all;have h3:=hB.all;rw[h1];unfold Lx.fN;omega
     refine .ax fds 5 ?_
     refine .rd (.bP rfl rfl Tryz.underlying47 rfl) ?_
     refine .go fds 2 ?_
     refine .split (t:=139) rfl (fun NB=>?_) (fun NB=>?_)
     ·
      replace NB:=of_decide_eq_true NB
      refine .go fds 3 ?_
      refine .on (t:=139) rfl rfl ?_
      refine .rd (.ld ak rfl .p4 rfl) ?_
      refine .go fds 1 ?_
      refine .on (t:=139) rfl rfl ?_
      refine .rd (.bP rfl rfl Tryz.underlying47 rfl) ?_
      refine .on (t:=139) rfl rfl ?_
      have p1:=jh (c:=y.at_) (n:=(bl.length:Int)) (by omega)
      have p2:=ji (c:=y.at_) (n:=(bl.length:Int)) (by omega)
      refine .fn rfl rfl .nil ah (fJ y.at_ (bl.length:Int) zV.at_ (by omega)) (fun v G1 hq=>?_)
      obtain⟨rfl,rfl⟩:=hq
      simp only[ae]
      obtain⟨kn,hk⟩:∃kn:Nat,(kn:Int)=bV y.at_ (bl.length:Int):=⟨(bV y.at_ (bl.length:Int)).toNat,by omega⟩
      refine .al 146 (.int .i64 (kn:Nat)) rfl (congrArg (Value.int .i64) hk.symm) ?_
      refine .on (t:=139) rfl rfl ?_
      refine .tell (φ:=∃b o,ra=some ⟨b,o,none⟩) ((af.arr .p2).mono fun _ h=>aD.addr h (by rw[au cW];omega)) (fun hh=>?_)
      obtain⟨b9,o9,h9⟩:=hh
      obtain⟨x,hx⟩:∃x,bl[kn]?=some x:=⟨_,List.getElem?_eq_getElem (by omega)⟩
      have Rk:x.1∈s.l.fN:=by rw[←I4];exact List.mem_map_of_mem (List.mem_of_getElem? hx)
      have NX:=hO.base Rk
      have Rl:=(eH.1 Rk).1
      have LC:=fP hB.ok Rl
      obtain⟨off,rY⟩:∃off:Nat,(off:Int)=x.1.base:=⟨x.1.base.toNat,by omega⟩
      have jB:∃b∈s.l.all,b.base=(off:Int):=⟨x.1,Rl,rY.symm⟩
      refine .rd (.indexAddr (b:=b9) (o:=o9) Tryz.underlying47 aO (by show some (Value.slice (ra) _ _)=_;rw[h9]) rfl (by omega) (by omega)) ?_
      refine .go fds 1 ?_
      refine .on (t:=139) rfl rfl ?_
      refine .rd (.load ak rfl (af.one (i:=0) (af.elem (f:=mZ) cW (by decide) ((af.arr .p2).mono fun _ h=>h9▸h) (hx)) rfl)) ?_
      refine .al 149 (.int .i64 (off:Int)) rfl (congrArg (Value.int .i64) rY.symm) ?_
      refine .on (t:=139) rfl rfl ?_
      have Eb:=jw hB
      have NA:=hB.N4
      have TN:=hB.PB
      refine .fn rfl rfl (.cons .p5 (.cons .p0 (.cons .p0 .nil))) ((af.bF .p3).mono fun _ h=>h.1) (sy db mb d s off hB.cS hB.ok hB.nm hB.es hB.lf.tocC (by omega) (by unfold bf at NA;rw[List.length_map]at NA;omega) (by omega) (by omega) (.inr jB) (by omega) (by omega)) (fun v G1 hq=>?_)
      obtain⟨s',d',rfl,hD,rfl⟩:=hq
      simp only[ag,ae]
      refine .aH fds 3 ?_
      refine .al 6 (.pointer (some ⟨s'.sx,0,none⟩)) rfl (by rw[hD.sx];try rfl) ?_
      refine .go fds 2 ?_
      exact fin (s',d',cx (bf s.t.m)) ⟨(hB.del (by omega) hD jB ⟨by omega,by omega⟩ (.inl (by decide))).mono (Nat.le_succ _) (by omega) (by omega),hO.del hB hD jB (by omega) ⟨by omega,by omega⟩ (.inl (by decide))⟩ .r5 (.cons .p0 (.cons .p0 (.cons .p0 (.cons .p3 (.cons .p3 .nil)))))
     ·
      replace NB:=of_decide_eq_false NB
      refine .aH fds 16 ?_
      exact fin (s,d,D) ⟨hB.mono (Nat.le_succ _) (by omega) (by omega),hO⟩ .r5 (.cons .p5 (.cons .p0 (.cons .p0 (.cons .p3 (.cons .p3 .nil)))))
    ·
     refine .go fds 5 ?_
     refine .aM rfl (fun T5=>?_) (fun T5=>?_)
     ·
      refine .ax fds 4 ?_
      refine .rd (.ld ak rfl .p0 rfl) ?_
      refine .fn rfl rfl .nil ah (fJ y.at_ 2 zV.at_ (by decide)) (fun v G1 hq=>?_)
      obtain⟨rfl,rfl⟩:=hq
      simp only[ae]
      refine .aH fds 2 ?_
      refine .lM (σ:=Dk) (φ:=fun d5=>bz 1000000 i (2*i+1) ep s d5∧dW D s d5) (E':=fun d5=>[(0,.slice ta ts.length tc),(4,.pointer (some ⟨db,0,none⟩)),(6,.pointer (some ⟨s.sx,0,none⟩)),(7,.int .i64 (ep+bV y.ep 3/2)),(8,.int .i64 (i:Nat)),(9,.pointer (some ⟨b9,0,none⟩))]) (aI:=fun d5=>[SS db s,an db (d5.cells mb) 74,mp aW Fl.val mb d5.fs,an b9 (y.cells) 33,bF (fun w=>LV w∧aD ta (ts.flatMap Ty.cells) w∧∀y∈ts,aD y.ka (y.kl.flatMap rP) w),R]) (fun sj hj=>?_) (fun fin=>?_)
      ·
       obtain⟨d5,rfl⟩:∃d5,d5=sj:=⟨_,rfl⟩
       obtain⟨Lj,P5⟩:=hj
       have T6:=Lj.len
       refine .seq ?_
       refine .dup .p4 ?_
       refine .qu (aD y.ka (y.kl.flatMap rP)) .p0 (fun w h=>h.2.2 y Ri) ?_
       refine .ax fds 3 ?_
       refine .rd (.ld iQ rfl .p5 rfl) ?_
       refine .fn rfl rfl (.cons .p3 (.cons .p3 (.cons .p0 .nil))) ah (yc db mb d5 _ y.ka y.kl y.kc Lj.cS Lj.short.all (by omega) rfl zV.kl.1 zV.kl.2.1 zV.kl.2.2) (fun v G1 hq=>?_)
       obtain⟨e,hC,rfl⟩:=hq
       simp only[ag,ae]
       have Ki:e.fs.length=d5.fs.length:=by have:=congrArg List.length hC.keys;rwa[List.length_map,List.length_map]at this
       have PZ:dI e:=fun n hn=>Lj.short n (by rw[←hC.get];exact hn)
       refine .ax fds 4 ?_
       refine .fn rfl rfl .cU ((af.bF .p0).mono fun _ h=>h.1) (nI db mb e [112] 300 s.c.es D (fun l d'=>oY s d5 l d') (zT db mb 300 Lj P5 hC ⟨by omega,by omega⟩ (fun L z w hF=>yd db mb e [112] 300 L z w hC.cS FK PZ.all (by omega) (by decide) (by decide) hF)) (fun l e2 h=>oK Lj P5 h ⟨by omega,by omega⟩ (by decide))) (fun v G1 hq=>?_)
       obtain⟨s3,e3,d3,rfl,T7,T8,rfl⟩:=hq
       simp only[ag,ae]
       obtain⟨T9,Ua⟩:=sr Lj P5 (by omega) T7 T8 ⟨by omega,by omega⟩ (by decide)
       refine .ax fds 9 ?_
       refine .rd (.jy Tryz.underlying28 rfl rfl) ?_
       refine .aH fds 7 ?_
       exact fin (s3,d3,D) ⟨T9.mono (Nat.le_succ _) (by omega) (by omega),Ua⟩ .r5 (.cons .p0 (.cons .p0 (.cons .p0 (.cons .p0 (.cons .p2 .nil)))))
      ·
       refine .aM rfl (fun c28=>?_) (fun c28=>?_)
       ·
        refine .ax fds 2 ?_
        refine .fn rfl rfl .nP ah (ya db mb d s hB.cS hB.ok) (fun v G1 hq=>?_)
        obtain⟨rfl,rfl⟩:=hq
        simp only[ag,ae]
        refine .nil ?_
        exact fin (sync s.l d) ⟨hB.sync.mono (Nat.le_refl _) (Nat.le_succ _) (Int.le_refl _),hO.sync hB⟩ .r6 .jC
       ·
        refine .skip ?_
        exact fin d ⟨hB.mono (Nat.le_refl _) (Nat.le_succ _) (Int.le_refl _),hO⟩ .r6 (.cons .p1 (.cons .p1 (.cons .p1 (.cons .p0 (.cons .p0 (.cons .p0 .nil))))))
     ·
      refine .seq ?_
      refine .unpack (L:=[an s.sx (s.cells db) 80,LG db s.l,CG db s.c,TG s.t]) .p1 ?_
      simp only[ag,ae]
      refine .dr [3,7,10] [an b9 (y.cells) 33] ?_
      refine .aq fds [0] ?_
      refine .aq fds [2] ?_
      refine .re 3 rfl (.ld ak rfl .p0 rfl) .q4 ?_
      refine .aq fds [6] ?_
      refine .re 7 rfl (.ld ak rfl .p0 rfl) .q4 ?_
      refine .aq fds [9] ?_
      refine .re 10 rfl (.ld ak rfl .p0 rfl) .q4 ?_
      refine .eg 1 rfl (.fn rfl rfl .nil (af.an .p0) (iv db s)) ?_
      rintro v _ ⟨G1,hq,rfl⟩
      obtain⟨rfl,rfl⟩:=hq
      simp only[ae]
      refine⟨.inr ⟨_,.q4⟩,?_⟩
      refine .eg 4 rfl (.fn rfl rfl .nil ah (fJ y.pid 2 zV.pid (by decide))) ?_
      rintro v _ ⟨G1,hq,rfl⟩
      obtain⟨rfl,rfl⟩:=hq
      simp only[ae]
      refine⟨.inr ⟨_,.q4⟩,?_⟩
      refine .rq 5 rfl (.add rfl rfl (by omega) (by omega)) ?_
      refine .eg 8 rfl (.fn rfl rfl .nil ah (fJ y.seq 6 zV.seq (by decide))) ?_
      rintro v _ ⟨G1,hq,rfl⟩
      obtain⟨rfl,rfl⟩:=hq
      simp only[ae]
      refine⟨.inr ⟨_,.q4⟩,?_⟩
      refine .eg 11 rfl (.fn rfl rfl .nil ah (fJ y.n 2 zV.n (by decide))) ?_
      rintro v _ ⟨G1,hq,rfl⟩
      obtain⟨rfl,rfl⟩:=hq
      simp only[ae]
      refine ay ?_
      refine .rq 12 rfl (.add rfl rfl (by omega) (by omega)) ?_
      refine .al 78 (.int .i64 (m:Nat)) rfl (congrArg (Value.int .i64) (by omega)) ?_
      refine .eg 13 rfl (.fn rfl rfl .q3 ah (qW s.t (1+bV y.pid 2) 0 (bV y.seq 6) (m:Int) hB.lf.tocC (by unfold i64;omega) (by unfold i64;omega) (by unfold i64;omega) (by unfold i64;omega))) ?_
      rintro v _ ⟨G1,hq,rfl⟩
      obtain⟨rfl,rfl⟩:=hq
      simp only[ag,ae]
      refine ay ?_
      refine .aq fds [14] ?_
      refine .aq fds [15] ?_
      refine .aq fds [16] ?_
      refine .aq fds [17] ?_
      refine .aq fds [18] ?_
      refine .dn ?_
      refine .pack (L:=[an (s).sx (St.cells (s) db) 80,LG db (s).l,CG db (s).c,TG (s).t]) .lC ?_
      refine .ax fds 2 ?_
      refine aZ.join 6 87 (decide ((ask (bf s.t.m) (1+bV y.pid 2) 0 (bV y.seq 6) (m:Int)).2=0∧(ask (bf s.t.m) (1+bV y.pid 2) 0 (bV y.seq 6) (m:Int)).1<0)) ?_ ?_
      ·
       refine .go fds 3 ?_
       refine .split (t:=84) rfl (fun g16=>?_) (fun g16=>?_)
       ·
        replace g16:=of_decide_eq_true g16
        refine .go fds 3 ?_
        refine .nil ⟨rfl,?_,by repeat (first|exact Le.refl _|refine Le.skip rfl ?_)⟩
        exact congrArg (fun x=>some (Value.bool x)) (decide_eq_decide.2 (by omega))
       ·
        replace g16:=of_decide_eq_false g16
        refine .go fds 3 ?_
        refine .nil ⟨rfl,?_,by repeat (first|exact Le.refl _|refine Le.skip rfl ?_)⟩
        exact congrArg (fun x=>some (Value.bool x)) ((decide_eq_false (by omega)).symm)
      refine .nil ?_
      refine .aM rfl (fun Ub=>?_) (fun Ub=>?_)
      ·
       have hk:(ask (bf s.t.m) (1+bV y.pid 2) 0 (bV y.seq 6) (m:Int)).2=0∧(ask (bf s.t.m) (1+bV y.pid 2) 0 (bV y.seq 6) (m:Int)).1<0:=by omega
       refine .seq ?_
       refine .dr [3,7,10] [an b9 (y.cells) 33] ?_
       refine .aq fds [0] ?_
       refine .aq fds [1] ?_
       refine .aq fds [2] ?_
       refine .re 3 rfl (.ld ak rfl .p0 rfl) .q1 ?_
       refine .aq fds [6] ?_
       refine .re 7 rfl (.ld ak rfl .p0 rfl) .q1 ?_
       refine .aq fds [9] ?_
       refine .re 10 rfl (.ld ak rfl .p0 rfl) .q1 ?_
       refine .eg 4 rfl (.fn rfl rfl .nil ah (fJ y.pid 2 zV.pid (by decide))) ?_
       rintro v _ ⟨G1,hq,rfl⟩
       obtain⟨rfl,rfl⟩:=hq
       simp only[ae]
       refine⟨.inr ⟨_,.q1⟩,?_⟩
       refine .rq 5 rfl (.add rfl rfl (by omega) (by omega)) ?_
       refine .eg 8 rfl (.fn rfl rfl .nil ah (fJ y.seq 6 zV.seq (by decide))) ?_
       rintro v _ ⟨G1,hq,rfl⟩
       obtain⟨rfl,rfl⟩:=hq
       simp only[ae]
       refine⟨.inr ⟨_,.q1⟩,?_⟩
       refine .eg 11 rfl (.fn rfl rfl .nil ah (fJ y.n 2 zV.n (by decide))) ?_
       rintro v _ ⟨G1,hq,rfl⟩
       obtain⟨rfl,rfl⟩:=hq
       simp only[ae]
       refine ay ?_
       refine .rq 12 rfl (.add rfl rfl (by omega) (by omega)) ?_
       refine .al 101 (.int .i64 (m:Nat)) rfl (congrArg (Value.int .i64) (by omega)) ?_
       refine .eg 13 rfl (.fn rfl rfl .nil ah (nJ (ep+bV y.ep 3/2) (1+bV y.pid 2) (bV y.seq 6) m (by omega))) ?_
       rintro v _ ⟨G1,hq,rfl⟩
       obtain⟨ra,rc,rfl,rfl⟩:=hq
       simp only[ag,ae]
       refine ay ?_
       have cO:=hB.late (e:=(ep+bV y.ep 3/2)) hk.1 hk.2 (by omega)
       have hq:=hS.enc
       have Nj:=hB.ar
       have Uc:=hB.Fy
       refine .eg 14 rfl (.fn rfl rfl (.cons .p1 (.cons .p2 (.cons .p2 .nil))) (((af.bF .p2).mono fun _ h=>h.1).and (af.arr .p0)) (mg db mb d s (gh (ep+bV y.ep 3/2) (1+bV y.pid 2) 0 (bV y.seq 6) m 0) ra rc hB.cS hB.ok hB.own hB.nm hB.es hB.eM (by omega) hB.lf.tocC (by omega) (by omega) (by omega) hS.aT hS.ep (by show _≤(ep+bV y.ep 3/2);omega) (by show 0<1+bV y.pid 2;omega) cO (by show d.used+8040+(enc (gh (ep+bV y.ep 3/2) (1+bV y.pid 2) 0 (bV y.seq 6) m s.l.next)).length≤_;omega))) ?_
       rintro v _ ⟨G1,hq,rfl⟩
       obtain⟨s',d',rfl,Ud,rfl⟩:=hq
       simp only[ag,ae]
       have hA:l5 s d (gh (ep+bV y.ep 3/2) (1+bV y.pid 2) 0 (bV y.seq 6) m s.l.next) s' d':=Ud
       have Ue:=hB.zJ hA hS (by omega) (by omega) (by omega) cO ⟨by omega,by omega⟩ (by decide)
       have N9:=hO.zJ hB hA hS (by omega) (by omega) cO ⟨by omega,by omega⟩ (by decide)
       refine ay ?_
       refine .aq fds [15] ?_
       refine .aq fds [16] ?_
       refine .aq fds [17] ?_
       refine .aq fds [18] ?_
       refine .aq fds [19] ?_
       refine .dn ?_
       refine .al 6 (.pointer (some ⟨s'.sx,0,none⟩)) rfl (by rw[hA.sx];try rfl) ?_
       refine .go fds 7 ?_
       exact fin (s',d',D) ⟨Ue.mono (Nat.le_refl _) (by omega) (Int.le_refl _),N9⟩ .r5 (.cons .p0 (.cons .p0 (.cons .p0 (.cons .p2 (.cons .p2 .nil)))))
      ·
       refine .skip ?_
       exact fin (s,d,D) ⟨hB.mono (Nat.le_succ _) (by omega) (by omega),hO⟩ .r5 (.cons .p0 (.cons .p1 (.cons .p1 (.cons .p1 (.cons .p1 .nil)))))
 ·
  refine .go fds 5 ?_
  refine .aG Tryz.func4 (.t1 rfl) .q4 ?_
  exact⟨[],⟨rfl,rfl⟩,rfl⟩
open Go Go.Sp Go.RowKit
theorem NC{W:World}(h:laidMetH Tryz.prog Go.Proofs.YtoglbebcdjdkiaaGreatDoor.Rows.storeOnceRow.laid W)(hs:W.ShapedOpen Tryz.prog):LV W:=by
 have hl:laidMet Tryz.prog Go.Proofs.YtoglbebcdjdkiaaGreatDoor.Rows.storeOnceRow.laid W:=by
  rw[←MakeChecks.laidMetH_plain _ _ _ (by kernel_rfl)];exact h
 have h2:=hl.tail.tail
 refine⟨?_,?_⟩
 ·
  exact Go.Proofs.cell_of_shapedOpen_int (g:=2) (zero:=#[.int .i64 0]) (t:=3) hs (of_decide_eq_true (by kernel_rfl)) (by kernel_rfl) rfl (by kernel_rfl) (by kernel_rfl) Tryz.underlying3
 ·
  exact Lib.tabIs_of_head (g:=5) (t:=273) (e:=192) (n:=20) (by kernel_rfl) (by kernel_rfl) (by kernel_rfl) (by kernel_rfl) (by kernel_rfl) (by kernel_rfl) (rest:=_) (by
   have e:(Go.Proofs.YtoglbebcdjdkiaaGreatDoor.Rows.laid_internal_strconv_uint64pow10:DataW Unit)=Lib.tabData .u64 Lib.pow10Tab:=by kernel_rfl
   exact e▸h2)
theorem LV.later{W w:World}(H:∀(b:Nat) (o:Obj),W.heap[b]?=some o→w.heap[b]?=some o)(h:LV W):LV w:=by
 have hc:∀b off v,W.cell? ⟨b,off,none⟩=some v→w.cell? ⟨b,off,none⟩=some v:=fun b off v h1=>by
  unfold World.cell? at h1⊢
  cases hb:W.heap[b]? with
  |none=>simp[hb]at h1
  |some ob=>rw[hb]at h1;rw[H b ob hb];exact h1
 obtain⟨⟨m,h0⟩,h3⟩:=h
 refine⟨⟨m,hc _ _ _ h0⟩,?_⟩
 unfold Lib.TabIs World.var? at h3⊢
 cases hg:Tryz.prog.globalNamed A0 with
 |none=>simp[hg]at h3
 |some g=>
  rw[hg]at h3
  simp only[Option.bind_some]at h3⊢
  cases hb:W.heap[g]? with
  |none=>simp[hb]at h3
  |some ob=>rw[hb]at h3;rw[H g ob hb];exact h3
theorem Ll{n:Int}(h:(Lit.int .i64 n).wf=true):i64 n:=by simpa[i64,Lit.wf,IntKind.min,IntKind.max,IntKind.signed,IntKind.bits]using h
theorem Rd.num{H:Type}{enc:TypeId×Value→H}{P:Program}{W:World}{spare:Nat→Bool}{held:Bool}{t}(ht:P.underlying t=some (.int .i64)):Rd enc P W spare held t (fun n:Int=>[.int .i64 n]) i64:=fun n cs x h hf=>by
 obtain⟨m,e,hm⟩:=Rd.int ht n cs x h hf
 exact⟨m,e,Ll hm⟩
theorem Ty.zY(y:Ty):aB y.cells:=.of rfl
theorem ND{H:Type}{enc:TypeId×Value→H}{W:World}{spare:Nat→Bool}{held:Bool}:Rd enc Tryz.prog W spare held 33 Ty.cells (fun y=>aD y.ka (y.kl.flatMap rP) W∧y.ok):=by
 intro n cs x h hf
 have hl:cs.length=7:=(Rd.BN Tryz.underlying33 h).trans (by kernel_rfl)
 obtain⟨c0,Ve,rfl,Mm⟩:=eb hl
 obtain⟨c1,Vf,rfl,Uf⟩:=eb Mm
 obtain⟨c2,Vg,rfl,Kn⟩:=eb Uf
 obtain⟨c3,Vh,rfl,Ug⟩:=eb Kn
 obtain⟨c4,Vi,rfl,Uh⟩:=eb Ug
 obtain⟨c5,Vj,rfl,Ui⟩:=eb Uh
 obtain⟨c6,Uj,rfl,Uk⟩:=eb Ui
 obtain rfl:Uj=[]:=List.eq_nil_of_length_eq_zero Uk
 obtain⟨f0,e0,w0⟩:=Rd.field Tryz.underlying33 h hf 0 0 1 rfl (by kernel_rfl) (Rd.num Tryz.underlying3)
 simp only[List.drop_zero,List.take_succ_cons,List.take_zero,List.cons.injEq,and_true]at e0
 obtain⟨f1,e1,w1⟩:=Rd.field Tryz.underlying33 h hf 1 1 1 rfl (by kernel_rfl) (Rd.num Tryz.underlying3)
 simp only[List.drop_succ_cons,List.drop_zero,List.take_succ_cons,List.take_zero,List.cons.injEq,and_true]at e1
 obtain⟨f2,e2,w2⟩:=Rd.field Tryz.underlying33 h hf 2 2 1 rfl (by kernel_rfl) (Rd.num Tryz.underlying3)
 simp only[List.drop_succ_cons,List.drop_zero,List.take_succ_cons,List.take_zero,List.cons.injEq,and_true]at e2
 obtain⟨f3,e3,w3⟩:=Rd.field Tryz.underlying33 h hf 3 3 1 rfl (by kernel_rfl) (Rd.num Tryz.underlying3)
 simp only[List.drop_succ_cons,List.drop_zero,List.take_succ_cons,List.take_zero,List.cons.injEq,and_true]at e3
 obtain⟨f4,e4,w4⟩:=Rd.field Tryz.underlying33 h hf 4 4 1 rfl (by kernel_rfl) (Rd.num Tryz.underlying3)
 simp only[List.drop_succ_cons,List.drop_zero,List.take_succ_cons,List.take_zero,List.cons.injEq,and_true]at e4
 obtain⟨f5,e5,w5⟩:=Rd.field Tryz.underlying33 h hf 5 5 1 rfl (by kernel_rfl) (Rd.num Tryz.underlying3)
 simp only[List.drop_succ_cons,List.drop_zero,List.take_succ_cons,List.take_zero,List.cons.injEq,and_true]at e5
 obtain⟨⟨ka,kc,kl⟩,e6,hr,hg,hb,_,hc⟩:=Rd.field Tryz.underlying33 h hf 6 6 1 rfl (by kernel_rfl) (Rd.slice (s:=1) (o7:=8) Tryz.underlying31 (by kernel_rfl) (by decide) (by kernel_rfl) vr FB (Rd.num Tryz.underlying3))
 simp only[List.drop_succ_cons,List.drop_zero,List.take_succ_cons,List.take_zero,List.cons.injEq,and_true]at e6
 subst e0
 subst e1
 subst e2
 subst e3
 subst e4
 subst e5
 subst e6
 exact⟨⟨f0,f1,f2,f3,f4,f5,ka,kl,kc⟩,rfl,hr,⟨w0,w1,w2,w3,w4,w5,hc,hg,Nat.le_trans (Nat.le_mul_of_pos_right _ (by decide)) hb⟩⟩
end Go.Proofs.YtoglbebcdjdkiaaGreatDoor