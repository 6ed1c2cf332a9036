/- Part 0 of a claim's texts: rules for the machine's steps, and steps through functions of the program, under the conditions that each theorem states. -/
import Derived.Orders
import Derived.OrdersHeld
import Derived.Calls
import Derived.Laws.World
import Derived.KernelRfl
import Derived.Laws.Sem
import Derived.Laws.Strings
import Derived.Deep.AppendSrc
import Derived.Laws.AppendOwn
import Derived.Laws.MakeOwn
import Derived.Laws.CopyOwn
import Derived.Laws.StructEq
import Derived.Laws.IdiomStrings
import Derived.Laws.BytesArg
import Derived.WideKeyEntry
import Derived.ChangeKeysEq
import Derived.Lib.UnsafeStr
import Derived.Lib.Builder
import Derived.LaidEqlPtr
import Derived.Below
import Derived.Lib.AppendZeros
import Derived.Maps.RangeRun
import Derived.WalkKit
import Derived.ProofKit
import Derived.OpenShut
import Derived.ShutString
import Derived.ChangeOld
import Derived.SizedLaws
import Derived.Carry
import Derived.Test.YtoglbebcdjdkiaaGreatDoorProg
set_option linter.unusedVariables false
set_option maxRecDepth 20000
set_option maxHeartbeats 8000000
namespace Go.Sp
open Go
abbrev Hp:=Nat→Option (Bool×Obj)
def Hp.ok(h k:Hp):Prop:=∀b,h b=none∨k b=none∨(h b=k b∧∃o,h b=some (true,o))
def Hp.le(h k:Hp):Prop:=∀b x,h b=some x→k b=some x
def Hp.un(h k:Hp):Hp:=fun b=>(h b).or (k b)
theorem Hp.ok.symm{h k:Hp}(H:Hp.ok h k):Hp.ok k h:=fun b=>by
 rcases H b with h1|h1|⟨h1,o,h2⟩
 ·
  exact .inr (.inl h1)
 ·
  exact .inl h1
 ·
  exact .inr (.inr ⟨h1.symm,o,h1▸h2⟩)
theorem Hp.ok.mono{h k h' k':Hp}(H:Hp.ok h k)(hh:Hp.le h' h)(hk:Hp.le k' k):Hp.ok h' k':=fun b=>by
 cases e1:h' b with
 |none=>exact .inl rfl
 |some x=>
  cases e2:k' b with
  |none=>exact .inr (.inl rfl)
  |some y=>
   have a1:=hh b x e1
   have a2:=hk b y e2
   rcases H b with h1|h1|⟨h1,o,h2⟩
   ·
    rw[a1]at h1;cases h1
   ·
    rw[a2]at h1;cases h1
   ·
    rw[a1,a2]at h1
    rw[a1]at h2
    exact .inr (.inr ⟨h1,o,h2⟩)
theorem Hp.le.refl(h:Hp):Hp.le h h:=fun _ _ e=>e
theorem Hp.le.trans{a b c:Hp}(h:Hp.le a b)(k:Hp.le b c):Hp.le a c:=fun x y e=>k x y (h x y e)
theorem Hp.dX(h k:Hp):Hp.le h (Hp.un h k):=fun b x e=>by simp[Hp.un,e]
theorem Hp.iL{h k:Hp}(H:Hp.ok h k):Hp.le k (Hp.un h k):=fun b x e=>by
 rcases H b with h1|h1|⟨h1,o,h2⟩
 ·
  simp[Hp.un,h1,e]
 ·
  rw[e]at h1;cases h1
 ·
  have:h b=some x:=h1.trans e
  simp[Hp.un,this]
theorem Hp.zZ{h k l:Hp}(a:Hp.le h l)(b:Hp.le k l):Hp.le (Hp.un h k) l:=fun c x e=>by
 cases e1:h c with
 |none=>simp[Hp.un,e1]at e;exact b c x e
 |some y=>simp[Hp.un,e1]at e;subst e;exact a c y e1
theorem Hp.CZ{h k l:Hp}(a:Hp.ok h k)(b:Hp.ok h l):Hp.ok h (Hp.un k l):=fun c=>by
 cases e:k c with
 |none=>
  rcases b c with h1|h1|⟨h1,o,h2⟩
  ·
   exact .inl h1
  ·
   exact .inr (.inl (by simp[Hp.un,e,h1]))
  ·
   exact .inr (.inr ⟨by simp[Hp.un,e,h1],o,h2⟩)
 |some y=>
  rcases a c with h1|h1|⟨h1,o,h2⟩
  ·
   exact .inl h1
  ·
   rw[e]at h1;cases h1
  ·
   exact .inr (.inr ⟨by simp[Hp.un,e,h1],o,h2⟩)
abbrev aj:=Hp→Prop
def bh:List aj→Hp→Prop
 |[],_=>True
 |A::Γ,h=>∃h1 h2,Hp.ok h1 h2∧Hp.le h1 h∧Hp.le h2 h∧A h1∧bh Γ h2
theorem bh.mono{h k:Hp}(H:Hp.le h k):∀{Γ},bh Γ h→bh Γ k
 |[],_=>trivial
 |_::_,⟨h1,h2,a,b,c,d,e⟩=>⟨h1,h2,a,b.trans H,c.trans H,d,e⟩
theorem bh.swap{A B:aj}{Γ}{h:Hp}:bh (A::B::Γ) h→bh (B::A::Γ) h:=by
 rintro⟨h1,h2,Jw,l1,l2,hA,k1,k2,LK,m1,m2,hB,Gq⟩
 refine⟨k1,Hp.un h1 k2,?_,m1.trans l2,Hp.zZ l1 (m2.trans l2),hB,h1,k2,?_,Hp.dX _ _,Hp.iL (Jw.mono (.refl _) m2),hA,Gq⟩
 ·
  exact Hp.CZ ((Jw.mono (.refl _) m1).symm) LK
 ·
  exact Jw.mono (.refl _) m2
theorem bh.cons{A:aj}{Γ aI}{h:Hp}(H:∀h,bh Γ h→bh aI h):bh (A::Γ) h→bh (A::aI) h:=
 fun⟨h1,h2,a,b,c,d,e⟩=>⟨h1,h2,a,b,c,d,H _ e⟩
theorem bh.join{Γ Δ:List aj}:∀{h1 h2 h:Hp},Hp.ok h1 h2→Hp.le h1 h→Hp.le h2 h→bh Γ h1→bh Δ h2→bh (Γ++Δ) h:=by
 induction Γ with
 |nil=>intro h1 h2 h _ _ l2 _ s;exact s.mono l2
 |cons A Γ ih=>
  rintro h1 h2 h ok l1 l2 ⟨k1,k2,LK,m1,m2,hA,Gq⟩ s
  refine⟨k1,Hp.un k2 h2,Hp.CZ LK (ok.mono m1 (.refl _)),m1.trans l1,Hp.zZ (m2.trans l1) l2,hA,?_⟩
  exact ih (ok.mono m2 (.refl _)) (Hp.dX _ _) (Hp.iL (ok.mono m2 (.refl _))) Gq s
theorem bh.split{Γ Δ:List aj}:∀{h:Hp},bh (Γ++Δ) h→∃h1 h2,Hp.ok h1 h2∧Hp.le h1 h∧Hp.le h2 h∧bh Γ h1∧bh Δ h2:=by
 induction Γ with
 |nil=>intro h s;exact⟨fun _=>none,h,fun _=>.inl rfl,fun _ _ e=>by simp at e,.refl _,trivial,s⟩
 |cons A Γ ih=>
  rintro h ⟨k1,k2,ok,l1,l2,hA,s⟩
  obtain⟨m1,m2,Ro,n1,n2,s1,s2⟩:=ih s
  refine⟨Hp.un k1 m1,m2,?_,Hp.zZ l1 (n1.trans l2),n2.trans l2,⟨k1,m1,ok.mono (.refl _) n1,Hp.dX _ _,Hp.iL (ok.mono (.refl _) n1),hA,s1⟩,s2⟩
  exact(Hp.CZ ((ok.mono (.refl _) n2).symm) Ro.symm).symm
structure LL where
 os:Os
 tape:Nat→Question→Nat
 output:Array (Nat×ByteArray)
def ye(w:World):LL:=⟨w.os,w.tape,w.output⟩
def Hp.fits(h:Hp)(w:World):Prop:=∀b x,h b=some x→w.heap[b]?=some x.2
def Sat(A:LL)(w:World)(Γ:List aj):Prop:=ye w=A∧∃h,Hp.fits h w∧bh Γ h
theorem Sat.map{A w Γ aI}(H:∀h,bh Γ h→bh aI h):Sat A w Γ→Sat A w aI:=fun⟨a,h,b,c⟩=>⟨a,h,b,H _ c⟩
theorem Sat.same{A w w' Γ}(hh:w'.heap=w.heap)(ha:ye w'=ye w):Sat A w Γ→Sat A w' Γ:=
 fun⟨a,h,b,c⟩=>⟨ha.trans a,h,fun x y e=>by rw[hh];exact b x y e,c⟩
def own(b:Nat)(o:Obj):aj:=fun h=>h b=some (false,o)
def ro(b:Nat)(o:Obj):aj:=fun h=>h b=some (true,o)
def Uo(p:Prop):aj:=fun _=>p
inductive bD:aj→List aj→List aj→Prop
 |head {A Γ}:bD A (A::Γ) Γ
 |tail {A B Γ aI}:bD A Γ aI→bD A (B::Γ) (B::aI)
inductive az:List aj→List aj→List aj→Prop
 |nil {Γ}:az [] Γ Γ
 |cons {A As Γ fC LM}:bD A Γ fC→az As fC LM→az (A::As) Γ LM
theorem bD.bh{A Γ aI}(p:bD A Γ aI):∀{h},bh Γ h→bh (A::aI) h:=by
 induction p with
 |head=>exact fun s=>s
 |tail _ ih=>exact fun s=>(s.cons fun _=>ih).swap
theorem az.bh{As Γ aI}(p:az As Γ aI):∀{h},bh Γ h→bh (As++aI) h:=by
 induction p with
 |nil=>exact fun s=>s
 |cons q _ ih=>exact fun s=>(q.bh s).cons fun _=>ih
theorem bD.app{A Γ aI}(p:bD A Γ aI)(F:List aj):bD A (Γ++F) (aI++F):=by
 induction p with
 |head=>exact .head
 |tail _ ih=>exact .tail ih
theorem az.app{As Γ aI}(p:az As Γ aI)(F:List aj):az As (Γ++F) (aI++F):=by
 induction p with
 |nil=>exact .nil
 |cons q _ ih=>exact .cons (q.app F) ih
theorem az.self(Γ:List aj):az Γ Γ []:=by
 induction Γ with
 |nil=>exact .nil
 |cons A Γ ih=>exact .cons .head ih
theorem Sat.drop{A w B Γ}:Sat A w (B::Γ)→Sat A w Γ:=Sat.map fun _ ⟨_,_,_,_,l,_,s⟩=>s.mono l
theorem Sat.left{A w Γ F}(s:Sat A w (Γ++F)):Sat A w Γ:=s.map fun _ t=>let⟨_,_,_,l,_,t1,_⟩:=t.split;t1.mono l
theorem Sat.own{A w b o Γ}(s:Sat A w (own b o::Γ)):w.heap[b]?=some o:=by
 obtain⟨_,h,f,h1,h2,_,l,_,e,_⟩:=s
 exact f b _ (l b _ e)
theorem Sat.update{A w w' b o o' Γ}(s:Sat A w (Sp.own b o::Γ))(hb:w'.heap[b]?=some o')(hr:∀c,c≠b→w'.heap[c]?=w.heap[c]?)(ha:ye w'=ye w):
  Sat A w' (Sp.own b o'::Γ):=by
 obtain⟨a,h,f,h1,h2,ok,l1,l2,e,t⟩:=s
 have hn:h2 b=none:=by
  rcases ok b with x|x|⟨_,_,x⟩
  ·
   rw[e]at x;cases x
  ·
   exact x
  ·
   rw[e]at x;cases x
 refine⟨ha.trans a,Hp.un (fun c=>if c=b then some (false,o')else none) h2,?_,(fun c=>if c=b then some (false,o')else none),h2,?_,Hp.dX _ _,?_,?_,t⟩
 ·
  intro c x ex
  by_cases hc:c=b
  ·
   subst hc;simp[Hp.un]at ex;subst ex;exact hb
  ·
   simp[Hp.un,hc]at ex;rw[hr c hc];exact f c x (l2 c x ex)
 ·
  intro c
  by_cases hc:c=b
  ·
   subst hc;exact .inr (.inl hn)
  ·
   exact .inl (by simp[hc])
 ·
  intro c x ex
  by_cases hc:c=b
  ·
   subst hc;rw[hn]at ex;cases ex
  ·
   simp[Hp.un,hc,ex]
 ·
  simp[Sp.own]
theorem Sat.alloc{A w Γ}(s:Sat A w Γ)(o:Obj):Sat A (w.alloc o) (Sp.own w.heap.size o::Γ):=by
 obtain⟨a,h,f,t⟩:=s
 have cO:∀b x,h b=some x→b<w.heap.size:=fun b x e=>(Array.getElem?_eq_some_iff.1 (f b x e)).1
 have hn:h w.heap.size=none:=by
  cases e:h w.heap.size with
  |none=>rfl
  |some x=>exact absurd (cO _ _ e) (Nat.lt_irrefl _)
 refine⟨a,Hp.un (fun c=>if c=w.heap.size then some (false,o)else none) h,?_,(fun c=>if c=w.heap.size then some (false,o)else none),h,?_,Hp.dX _ _,?_,?_,t⟩
 ·
  intro c x ex
  by_cases hc:c=w.heap.size
  ·
   subst hc;simp[Hp.un]at ex;subst ex;show(w.heap.push o)[w.heap.size]?=_;simp
  ·
   simp[Hp.un,hc]at ex
   have:=f c x ex
   show(w.heap.push o)[c]?=_;rw[Array.getElem?_push,if_neg hc];exact this
 ·
  intro c
  by_cases hc:c=w.heap.size
  ·
   subst hc;exact .inr (.inl hn)
  ·
   exact .inl (by simp[hc])
 ·
  intro c x ex
  by_cases hc:c=w.heap.size
  ·
   subst hc;rw[hn]at ex;cases ex
  ·
   simp[Hp.un,hc,ex]
 ·
  simp[Sp.own]
theorem Sat.I6{A w b o Γ}(s:Sat A w (Sp.own b o::Γ)):Sat A w (Sp.ro b o::Γ):=by
 obtain⟨a,h,f,h1,h2,ok,l1,l2,e,t⟩:=s
 have hn:h2 b=none:=by
  rcases ok b with x|x|⟨_,_,x⟩
  ·
   rw[e]at x;cases x
  ·
   exact x
  ·
   rw[e]at x;cases x
 refine⟨a,Hp.un (fun c=>if c=b then some (true,o)else none) h2,?_,(fun c=>if c=b then some (true,o)else none),h2,?_,Hp.dX _ _,?_,?_,t⟩
 ·
  intro c x ex
  by_cases hc:c=b
  ·
   subst hc;simp[Hp.un]at ex;subst ex;exact f c (false,o) (l1 c _ e)
  ·
   simp[Hp.un,hc]at ex;exact f c x (l2 c x ex)
 ·
  intro c
  by_cases hc:c=b
  ·
   subst hc;exact .inr (.inl hn)
  ·
   exact .inl (by simp[hc])
 ·
  intro c x ex
  by_cases hc:c=b
  ·
   subst hc;rw[hn]at ex;cases ex
  ·
   simp[Hp.un,hc,ex]
 ·
  simp[Sp.ro]
def base(W:World):aj:=fun h=>∀b o,W.heap[b]?=some o→h b=some (true,o)
theorem Sat.base{A w W Γ}(s:Sat A w (Sp.base W::Γ))(b:Nat)(o:Obj)(h:W.heap[b]?=some o):w.heap[b]?=some o:=by
 obtain⟨_,k,f,h1,h2,_,l,_,e,_⟩:=s
 exact f b _ (l b _ (e b o h))
theorem bh.C0{W Γ h}(s:bh (base W::Γ) h):bh (base W::base W::Γ) h:=by
 obtain⟨h1,h2,ok,l1,l2,e,t⟩:=s
 refine⟨fun c=>(W.heap[c]?).map fun o=>(true,o),h,?_,?_,.refl _,?_,h1,h2,ok,l1,l2,e,t⟩
 ·
  intro c
  cases hc:W.heap[c]? with
  |none=>exact .inl (by simp only[hc,Option.map_none])
  |some o=>exact .inr (.inr ⟨by simp only[hc,Option.map_some,l1 _ _ (e c o hc)],o,by simp only[hc,Option.map_some]⟩)
 ·
  intro c x ex
  cases hc:W.heap[c]? with
  |none=>simp[hc]at ex
  |some o=>simp[hc]at ex;subst ex;exact l1 _ _ (e c o hc)
 ·
  intro b o hb;simp[hb]
theorem Sat.start(W:World):Sat (ye W) W [Sp.base W]:=
 ⟨rfl,fun c=>(W.heap[c]?).map fun o=>(true,o),fun b x e=>by
  cases hc:W.heap[b]? with
  |none=>simp[hc]at e
  |some o=>simp[hc]at e;subst e;rfl,
 fun c=>(W.heap[c]?).map fun o=>(true,o),fun _=>none,fun _=>.inr (.inl rfl),.refl _,fun _ _ e=>by simp at e,fun b o hb=>by simp[hb],trivial⟩
theorem Sat.open_{A w Γ}{X:aj}{σ:Type}{φ:σ→Prop}{B:σ→List aj}(hX:∀h,X h→∃s,φ s∧bh (B s) h)(s:Sat A w (X::Γ)):
  ∃s,φ s∧Sat A w (B s++Γ):=by
 obtain⟨a,h,f,h1,h2,ok,l1,l2,e,t⟩:=s
 obtain⟨x,hx,tx⟩:=hX _ e
 exact⟨x,hx,a,h,f,bh.join ok l1 l2 tx t⟩
theorem Sat.close{A w Γ}{X:aj}{B:List aj}(hX:∀h,bh B h→X h)(s:Sat A w (B++Γ)):Sat A w (X::Γ):=by
 obtain⟨a,h,f,t⟩:=s
 obtain⟨h1,h2,ok,l1,l2,t1,t2⟩:=t.split
 exact⟨a,h,f,h1,h2,ok,l1,l2,hX _ t1,t2⟩
def af(Γ:List aj)(φ:World→Prop):Prop:=∀A w,Sat A w Γ→φ w
theorem af.cons{Γ φ B}(k:af Γ φ):af (B::Γ) φ:=fun A w s=>k A w s.drop
theorem af.pick{Γ aI φ B}(p:bD B Γ aI)(k:af [B] φ):af Γ φ:=fun A w s=>k A w (Sat.left (Γ:=[B]) (s.map fun _=>p.bh))
theorem af.mono{Γ}{φ ψ:World→Prop}(k:af Γ φ)(h:∀w,φ w→ψ w):af Γ ψ:=fun A w s=>h w (k A w s)
theorem af.and{Γ}{φ ψ:World→Prop}(k:af Γ φ)(l:af Γ ψ):af Γ fun w=>φ w∧ψ w:=fun A w s=>⟨k A w s,l A w s⟩
abbrev Env:=List (Nat×Value)
def lk:Env→Nat→Option Value
 |[],_=>none
 |(s,v)::E,t=>bif Nat.beq t s then some v else lk E t
def ev(E:Env):Operand→Option Value
 |.tmp t=>lk E t
 |.const v=>some v
 |.global g=>some (.pointer (some ⟨g,0,none⟩))
 |.func f=>some (.func (.func f) #[] #[])
structure Fr(N:Nat)(E:Env)(a:Act):Prop where
 defers:a.defers=[]
 size:a.tmps.size=N
 look:∀t v,lk E t=some v→a.tmps[t]?=some v
theorem Fr.eval{N E a x v}(h:Fr N E a)(e:ev E x=some v):a.eval x=v:=by
 cases x with
 |tmp t=>have:=h.look t v e;simp[Act.eval,this]
 |const u=>simpa[ev,Act.eval]using e
 |global g=>simpa[ev,Act.eval]using e
 |func f=>simpa[ev,Act.eval]using e
theorem Fr.put{N E a}{d:Nat}(h:Fr N E a)(hd:Nat.blt d N=true)(v:Value):Fr N ((d,v)::E) (a.put (some d) v):=by
 have CQ:d<a.tmps.size:=by rw[h.size];simpa[Nat.blt_eq]using hd
 refine⟨h.defers,by simp[Act.put,h.size],fun t u e=>?_⟩
 by_cases ht:t=d
 ·
  subst ht
  have:v=u:=by simpa[lk]using e
  subst this
  simp[Act.put,CQ]
 ·
  have hb:Nat.beq t d=false:=by
   cases hq:Nat.beq t d with
   |false=>rfl
   |true=>exact absurd (Nat.eq_of_beq_eq_true hq) ht
  have e':lk E t=some u:=by simpa[lk,hb]using e
  simp only[Act.put]
  rw[Array.getElem?_setIfInBounds_ne (Ne.symm ht)]
  exact h.look t u e'
def Le(E' E:Env):Prop:=∀t v,lk E' t=some v→lk E t=some v
theorem Fr.le{N E E' a}(h:Fr N E a)(l:Le E' E):Fr N E' a:=⟨h.defers,h.size,fun t v e=>h.look t v (l t v e)⟩
theorem Le.nil{E}:Le [] E:=fun _ _ e=>by simp[lk]at e
theorem Le.refl(E:Env):Le E E:=fun _ _ e=>e
theorem Le.cons{E E':Env}{t:Nat}{v:Value}(h:lk E t=some v)(l:Le E' E):Le ((t,v)::E') E:=fun s u e=>by
 by_cases hs:s=t
 ·
  subst hs
  have:v=u:=by simpa[lk]using e
  subst this;exact h
 ·
  have hb:Nat.beq s t=false:=by
   cases hq:Nat.beq s t with
   |false=>rfl
   |true=>exact absurd (Nat.eq_of_beq_eq_true hq) hs
  exact l s u (by simpa[lk,hb]using e)
def yq(E:Env):List Operand→Option (List Value)
 |[]=>some []
 |x::xs=>match ev E x with
  |some v=>match yq E xs with
   |some vs=>some (v::vs)
   |none=>none
  |none=>none
theorem Fr.sN{N E a}(h:Fr N E a):∀{xs vs},yq E xs=some vs→xs.map a.eval=vs
 |[],vs,e=>by simpa[yq]using e
 |x::xs,vs,e=>by
  simp only[yq]at e
  cases e1:ev E x with
  |none=>simp[e1]at e
  |some v=>
   cases e2:yq E xs with
   |none=>simp[e1,e2]at e
   |some us=>
    simp[e1,e2]at e
    subst e
    simp[h.eval e1,h.sN e2]
def Reads(P:Program)(N:Nat)(E:Env)(Γ:List aj)(o:Oper)(v:Value):Prop:=
 ∀A w a,Fr N E a→Sat A w Γ→(execOp a.eval o).run P w=.ok (.value v) w
def dU(P:Program)(N:Nat)(E:Env)(Γ:List aj)(o:Oper)(K:Value→List aj→Prop):Prop:=
 ∀A F w a (nx:Act→World→Prop) Z,Fr N E a→Sat A w (Γ++F)→
  (∀v aI w',K v aI→Sat A w' (aI++F)→nx (a.put o.dst v) w')→o.wp P a w nx Z
theorem Reads.P9{P N E Γ o v}(h:Reads P N E Γ o v):dU P N E Γ o fun u aI=>u=v∧aI=Γ:=by
 intro A F w a nx Z hf hs hn
 unfold Oper.wp
 rw[h A w a hf hs.left]
 exact hn v Γ w ⟨rfl,rfl⟩ hs
theorem dU.mono{P N E Γ o}{K K':Value→List aj→Prop}(h:dU P N E Γ o K)(hk:∀v aI,K v aI→K' v aI):dU P N E Γ o K':=
 fun A F w a nx Z hf hs hn=>h A F w a nx Z hf hs fun v aI w' k s=>hn v aI w' (hk v aI k) s
def ud(P:Program)(ops:Array Oper)(Q:Exit→Act→World→Prop):List Oper→Act→World→Prop
 |[],a,w=>Q .normal a w
 |o::rest,a,w=>if Region.wanted o (yielded ops a.tmps)then o.wp P a w (ud P ops Q rest) Q else ud P ops Q rest (a.put o.dst undef) w
theorem ue{P ops Q}:∀(n i:Nat),i+n=ops.size→∀a w,ud P ops Q (ops.toList.drop i) a w→wpOps P ops Q (List.range' i n) a w:=by
 intro n
 induction n with
 |zero=>
  intro i h a w hw
  have:ops.toList.drop i=[]:=by rw[List.drop_eq_nil_iff];simp;omega
  rw[this]at hw
  exact hw
 |succ n ih=>
  intro i h a w hw
  have hi:i<ops.toList.length:=by simp;omega
  rw[List.drop_eq_getElem_cons hi]at hw
  have uf:i<ops.size:=by omega
  have ho:ops[i]?=some ops[i]:=Array.getElem?_eq_getElem uf
  simp only[List.range'_succ,wpOps,ho]
  simp only[ud]at hw
  have he:ops.toList[i]=ops[i]:=rfl
  rw[he]at hw
  split at hw
  ·
   rename_i hq
   simp only[hq,if_true]
   refine .inl (Oper.wp_mono (fun a w=>ih (i+1) (by omega) a w) hw)
  ·
   rename_i hq
   simp only[hq]
   exact ih (i+1) (by omega) _ _ hw
def aZ(P:Program)(N:Nat)(ops:Array Oper)(os:List Oper)(E:Env)(Γ:List aj)(K:Env→List aj→Prop):Prop:=
 ∀A F w a (Z:Exit→Act→World→Prop),Fr N E a→Sat A w (Γ++F)→
  (∀E' aI w' a',K E' aI→Fr N E' a'→Sat A w' (aI++F)→Z .normal a' w')→ud P ops Z os a w
section
variable{P:Program}{N:Nat}{ops:Array Oper}{os rest:List Oper}{E:Env}{Γ:List aj}{K:Env→List aj→Prop}
theorem aZ.nil(h:K E Γ):aZ P N ops [] E Γ K:=fun _ _ w a _ hf hs hz=>hz E Γ w a h hf hs
theorem fq{dst op ty pos after}{y:Nat→Option Bool}:Region.wanted ⟨dst,op,ty,pos,after,none⟩ y=true:=rfl
theorem aZ.rd{d op ty pos after}{v:Value}(h:Reads P N E Γ ⟨some d,op,ty,pos,after,none⟩ v)(next:aZ P N ops rest ((d,v)::E) Γ K)
  (hd:Nat.blt d N=true:=by rfl):aZ P N ops (⟨some d,op,ty,pos,after,none⟩::rest) E Γ K:=by
 intro A F w a Z hf hs hz
 simp only[ud,fq,if_true]
 refine h.P9 A F w a _ _ hf hs ?_
 rintro _ _ w' ⟨rfl,rfl⟩ lu
 exact next A F w' _ Z (hf.put hd _) lu hz
theorem aZ.ef{d op ty pos after}{K1:Value→List aj→Prop}(h:dU P N E Γ ⟨some d,op,ty,pos,after,none⟩ K1)
  (next:∀v aI,K1 v aI→aZ P N ops rest ((d,v)::E) aI K)
  (hd:Nat.blt d N=true:=by rfl):aZ P N ops (⟨some d,op,ty,pos,after,none⟩::rest) E Γ K:=by
 intro A F w a Z hf hs hz
 simp only[ud,fq,if_true]
 refine h A F w a _ _ hf hs ?_
 intro v aI w' hk lu
 exact next v aI hk A F w' _ Z (hf.put hd _) lu hz
theorem aZ.dc{op ty pos after}{K1:Value→List aj→Prop}(h:dU P N E Γ ⟨none,op,ty,pos,after,none⟩ K1)
  (next:∀v aI,K1 v aI→aZ P N ops rest E aI K):aZ P N ops (⟨none,op,ty,pos,after,none⟩::rest) E Γ K:=by
 intro A F w a Z hf hs hz
 simp only[ud,fq,if_true]
 refine h A F w a _ _ hf hs ?_
 intro v aI w' hk lu
 exact next v aI hk A F w' _ Z hf lu hz
def fS(ops:Array Oper)(g:Nat):Option Nat:=(ops[g]?).bind (·.dst)
theorem eZ{g t:Nat}{b:Bool}{a:Act}(hg:fS ops g=some t)(hf:Fr N E a)(he:lk E t=some (.bool b)):yielded ops a.tmps g=some b:=by
 unfold fS at hg
 simp[yielded,hg,hf.look t _ he]
theorem aZ.on{dst op ty pos after}{g:Nat}{b:Bool}{t:Nat}(hg:fS ops g=some t)(he:lk E t=some (.bool b))
  (next:aZ P N ops (⟨dst,op,ty,pos,after,none⟩::rest) E Γ K):aZ P N ops (⟨dst,op,ty,pos,after,some (g,b)⟩::rest) E Γ K:=by
 intro A F w a Z hf hs hz
 have hy:=eZ hg hf he
 have hw:Region.wanted ⟨dst,op,ty,pos,after,some (g,b)⟩ (yielded ops a.tmps)=true:=by simp[Region.wanted,hy]
 have:=next A F w a Z hf hs hz
 simp only[ud,fq,if_true]at this
 simp only[ud,hw,if_true]
 exact this
theorem aZ.off{dst op ty pos after}{g:Nat}{b c:Bool}{t:Nat}(hg:fS ops g=some t)(he:lk E t=some (.bool c))(dx:(c==b)=false)
  (next:aZ P N ops rest E Γ K) (hd:∀d,dst=some d→lk E d=none:=by intro d h;cases h;rfl):aZ P N ops (⟨dst,op,ty,pos,after,some (g,b)⟩::rest) E Γ K:=by
 intro A F w a Z hf hs hz
 have hy:=eZ hg hf he
 have hw:Region.wanted ⟨dst,op,ty,pos,after,some (g,b)⟩ (yielded ops a.tmps)=false:=by
  simp[Region.wanted,hy];intro e;subst e;simp at dx
 simp only[ud,hw,Bool.false_eq_true,if_false]
 refine next A F w _ Z ?_ hs hz
 cases dst with
 |none=>exact hf
 |some d=>
  have hn:=hd d rfl
  refine⟨hf.defers,by simp[Act.put,hf.size],fun s v e=>?_⟩
  have Oe:s≠d:=fun e'=>by subst e';rw[hn]at e;cases e
  simp only[Act.put]
  rw[Array.getElem?_setIfInBounds_ne (Ne.symm Oe)]
  exact hf.look s v e
theorem aZ.split{t:Nat}{b:Bool}(he:lk E t=some (.bool b))(hT:b=true→aZ P N ops os ((t,.bool true)::E) Γ K)
  (hF:b=false→aZ P N ops os ((t,.bool false)::E) Γ K):aZ P N ops os E Γ K:=by
 intro A F w a Z hf hs hz
 have hl:∀c,b=c→Fr N ((t,.bool c)::E) a:=fun c hc=>hf.le (Le.cons (by rw[he,hc]) (Le.refl _))
 cases b with
 |true=>exact hT rfl A F w a Z (hl _ rfl) hs hz
 |false=>exact hF rfl A F w a Z (hl _ rfl) hs hz
theorem aZ.alter{t:Nat}{v v':Value}(he:lk E t=some v)(hv:v=v')(next:aZ P N ops os ((t,v')::E) Γ K):aZ P N ops os E Γ K:=
 fun A F w a Z hf hs hz=>next A F w a Z (hf.le (Le.cons (by rw[he,hv]) (Le.refl _))) hs hz
theorem aZ.C1{E':Env}(l:Le E' E)(next:aZ P N ops os E' Γ K):aZ P N ops os E Γ K:=
 fun A F w a Z hf hs hz=>next A F w a Z (hf.le l) hs hz
theorem yt{Q:Exit→Act→World→Prop}:∀{LN LP:List Oper} {a w} {Q1:Exit→Act→World→Prop},ud P ops Q1 LN a w→
  (∀a w,Q1 .normal a w→ud P ops Q LP a w)→(∀e a w,e≠.normal→Q1 e a w→Q e a w)→ud P ops Q (LN++LP) a w:=by
 intro LN
 induction LN with
 |nil=>intro LP a w Q1 h h1 _;exact h1 a w h
 |cons o LN ih=>
  intro LP a w Q1 h h1 h2
  simp only[List.cons_append,ud]at h⊢
  split at h
  ·
   rename_i hq
   simp only[hq,if_true]
   unfold Oper.wp at*
   generalize (execOp a.eval o).run P w=r at*
   cases r with
   |ok n w'=>
    cases n<;>simp only[Oper.upon]at h⊢
    ·
     exact ih h h1 h2
    ·
     exact ih h h1 h2
    ·
     refine Calls.mono h ?_
     intro e Jx he
     cases e with
     |returned v=>exact ih he h1 h2
     |panicked c=>exact h2 _ _ _ (by simp) he
     |outgrown=>obtain⟨a0,w0,q⟩:=he;exact⟨a0,w0,h2 _ _ _ (by simp) q⟩
    ·
     exact ih h h1 h2
    ·
     exact Rows.mono h fun v Jx he=>ih he h1 h2
   |halt x w'=>cases x<;>simp only[Oper.upon]at h⊢<;>exact h2 _ _ _ (by simp) h
  ·
   rename_i hq
   simp only[hq]
   exact ih h h1 h2
theorem aZ.cut(n:Nat){K1:Env→List aj→Prop}(h1:aZ P N ops (os.take n) E Γ K1)(h2:∀E' aI,K1 E' aI→aZ P N ops (os.drop n) E' aI K):
  aZ P N ops os E Γ K:=by
 intro A F w a Z hf hs hz
 have:=h1 A F w a (fun e a' w'=>match e with|.normal=>ud P ops Z (os.drop n) a' w'|_=>False) hf hs
  (fun E' aI w' a' hk LQ lu=>h2 E' aI hk A F w' a' Z LQ lu hz)
 have h3:=yt (LP:=os.drop n) (Q:=Z) this (fun _ _ h=>h) (fun e a w dx h=>by cases e<;>first|exact absurd rfl dx|exact h.elim)
 rwa[List.take_append_drop]at h3
theorem aZ.join(n:Nat)(t:Nat)(b:Bool)(h1:aZ P N ops (os.take n) E Γ fun E' aI=>aI=Γ∧lk E' t=some (.bool b)∧Le E E')
  (h2:aZ P N ops (os.drop n) ((t,.bool b)::E) Γ K):aZ P N ops os E Γ K:=
 aZ.cut n h1 fun _ _ ⟨Gq,ht,hl⟩=>by subst Gq;exact h2.C1 (Le.cons ht hl)
theorem aZ.perm{aI:List aj}{Δ:List aj}(p:az aI Γ Δ)(next:aZ P N ops os E aI K):aZ P N ops os E Γ K:=by
 intro A F w a Z hf hs hz
 refine next A F w a Z hf ?_ hz
 obtain⟨am,h,f,t⟩:=hs
 have t':=(p.app F).bh t
 obtain⟨h1,h2,ok,l1,l2,s1,s2⟩:=t'.split
 have s3:bh F h2:=by
  obtain⟨_,k2,_,_,m2,_,s⟩:=s2.split
  exact s.mono m2
 exact⟨am,h,f,bh.join ok l1 l2 s1 s3⟩
theorem Sat.mw{A w}{Γ aI Δ F:List aj}(p:az Δ Γ aI)(s:Sat A w (Γ++F)):Sat A w (Δ++(aI++F)):=s.map fun _=>(p.app F).bh
theorem aZ.open_{X:aj}{aI:List aj}{σ:Type}{φ:σ→Prop}{B:σ→List aj}(p:bD X Γ aI)(hX:∀h,X h→∃s,φ s∧bh (B s) h)
  (next:∀s,φ s→aZ P N ops os E (B s++aI) K):aZ P N ops os E Γ K:=by
 intro A F w a Z hf hs hz
 have h1:Sat A w (X::(aI++F)):=hs.map fun _=>(p.app F).bh
 obtain⟨s,By,h2⟩:=Sat.open_ hX h1
 exact next s By A F w a Z hf (by rwa[List.append_assoc]) hz
theorem aZ.close{X:aj}{B aI:List aj}(p:az B Γ aI)(hX:∀h,bh B h→X h)(next:aZ P N ops os E (X::aI) K):aZ P N ops os E Γ K:=by
 intro A F w a Z hf hs hz
 have h1:=hs.mw p
 exact next A F w a Z hf (Sat.close hX h1) hz
theorem aZ.tell{φ:Prop}(k:af Γ fun _=>φ)(next:φ→aZ P N ops os E Γ K):aZ P N ops os E Γ K:=
 fun A F w a Z hf hs hz=>next (k A w hs.left) A F w a Z hf hs hz
end
def yu(P:Program)(f:FuncId)(k:List Item)(a:Act)(w:World)(R:Value→World→Prop):Prop:=
 ∀(b:Frame) (cs:List Frame),b.fn=f→b.kind=.normal→∃v w' fr,R v w'∧Steps P (lone (b.at a k) cs w) (lone fr cs w')∧fr.fn=f∧fr.leaving P w' (.returned v)
theorem yu.step{P f k k' a a' w w' R}(h:∀(b:Frame) cs,step P (lone (b.at a k) cs w)=.next (lone (b.at a' k') cs w'))(n:yu P f k' a' w' R):yu P f k a w R:=by
 intro b cs hb hk
 obtain⟨v,w1,fr,r,s,x⟩:=n b cs hb hk
 exact⟨v,w1,fr,r,.head (h b cs) s,x⟩
structure Cx where
 P:Program
 f:FuncId
 fn:Func
def bH(C:Cx)(k:List Item)(E:Env)(Γ:List aj)(Q:Value→List aj→Prop):Prop:=
 ∀A F w a,Fr C.fn.ntmps E a→Sat A w (Γ++F)→yu C.P C.f k a w fun v w'=>∃aI,Q v aI∧Sat A w' (aI++F)
section
variable{C:Cx}{k:List Item}{E:Env}{Γ:List aj}{Q:Value→List aj→Prop}
theorem bH.C1{E':Env}(l:Le E' E)(n:bH C k E' Γ Q):bH C k E Γ Q:=fun A F w a hf hs=>n A F w a (hf.le l) hs
theorem bH.perm{aI Δ:List aj}(p:az aI Γ Δ)(n:bH C k E aI Q):bH C k E Γ Q:=by
 intro A F w a hf hs
 refine n A F w a hf ?_
 obtain⟨am,h,f,t⟩:=hs
 obtain⟨h1,h2,ok,l1,l2,s1,s2⟩:=((p.app F).bh t).split
 obtain⟨_,k2,_,_,m2,_,s⟩:=s2.split
 exact⟨am,h,f,bh.join ok l1 l2 s1 (s.mono m2)⟩
theorem bH.to{E':Env}{aI Δ:List aj}(l:Le E' E)(p:az aI Γ Δ)(n:bH C k E' aI Q):bH C k E Γ Q:=(n.perm p).C1 l
theorem bH.open_{X:aj}{aI:List aj}{σ:Type}{φ:σ→Prop}{B:σ→List aj}(p:bD X Γ aI)(hX:∀h,X h→∃s,φ s∧bh (B s) h)
  (next:∀s,φ s→bH C k E (B s++aI) Q):bH C k E Γ Q:=by
 intro A F w a hf hs
 have h1:Sat A w (X::(aI++F)):=hs.map fun _=>(p.app F).bh
 obtain⟨s,By,h2⟩:=Sat.open_ hX h1
 exact next s By A F w a hf (by rwa[List.append_assoc])
theorem bH.close{X:aj}{B aI:List aj}(p:az B Γ aI)(hX:∀h,bh B h→X h)(next:bH C k E (X::aI) Q):bH C k E Γ Q:=
 fun A F w a hf hs=>next A F w a hf (Sat.close hX (hs.mw p))
theorem bH.tell{φ:Prop}(h:af Γ fun _=>φ)(next:φ→bH C k E Γ Q):bH C k E Γ Q:=
 fun A F w a hf hs=>next (h A w hs.left) A F w a hf hs
theorem bH.alter{t:Nat}{v v':Value}(he:lk E t=some v)(hv:v=v')(next:bH C k ((t,v')::E) Γ Q):bH C k E Γ Q:=
 next.C1 (Le.cons (by rw[he,hv]) (Le.refl _))
theorem bH.skip(n:bH C k E Γ Q):bH C (.code .skip::k) E Γ Q:=fun A F w a hf hs=>.step (fun _ _=>step_skip) (n A F w a hf hs)
theorem bH.inBlock{id}(n:bH C k E Γ Q):bH C (.inBlock id::k) E Γ Q:=fun A F w a hf hs=>.step (fun _ _=>step_inBlock) (n A F w a hf hs)
theorem bH.seq{x y}(n:bH C (.code x::.code y::k) E Γ Q):bH C (.code (.seq x y)::k) E Γ Q:=fun A F w a hf hs=>.step (fun _ _=>step_seq) (n A F w a hf hs)
theorem bH.block{id c}(n:bH C (.code c::.inBlock id::k) E Γ Q):bH C (.code (.block id c)::k) E Γ Q:=fun A F w a hf hs=>.step (fun _ _=>step_block) (n A F w a hf hs)
theorem bH.exit{id k'}(h:exitTo id k=some k')(n:bH C k' E Γ Q):bH C (.code (.exit id)::k) E Γ Q:=fun A F w a hf hs=>.step (fun _ _=>step_exit h) (n A F w a hf hs)
theorem bH.inLoop{c}(n:bH C (.code c::.inLoop c::k) E Γ Q):bH C (.inLoop c::k) E Γ Q:=fun A F w a hf hs=>.step (fun _ _=>step_inLoop) (n A F w a hf hs)
theorem bH.LR{c}(n:bH C (.code c::.inLoop c::k) E Γ Q):bH C (.code (.loop c)::k) E Γ Q:=fun A F w a hf hs=>.step (fun _ _=>step_loop) (n A F w a hf hs)
theorem bH.cond{c x y}{b:Bool}(h:ev E c=some (.bool b))(hT:b=true→bH C (.code x::k) E Γ Q)(hF:b=false→bH C (.code y::k) E Γ Q):
  bH C (.code (.cond c x y)::k) E Γ Q:=by
 intro A F w a hf hs
 refine .step (fun _ _=>step_cond (hf.eval h)) ?_
 cases b with
 |true=>exact hT rfl A F w a hf hs
 |false=>exact hF rfl A F w a hf hs
theorem bH.aM{c x y}{p:Prop}[Decidable p](h:ev E c=some (.bool (decide p)))(hT:p→bH C (.code x::k) E Γ Q)(hF:¬p→bH C (.code y::k) E Γ Q):
  bH C (.code (.cond c x y)::k) E Γ Q:=.cond h (fun e=>hT (of_decide_eq_true e)) (fun e=>hF (of_decide_eq_false e))
theorem bH.my{c x y}{p:Prop}[Decidable p](h:ev E c=some (.bool (!decide p)))(hT:¬p→bH C (.code x::k) E Γ Q)(hF:p→bH C (.code y::k) E Γ Q):
  bH C (.code (.cond c x y)::k) E Γ Q:=.cond h (fun e=>hT (by simpa using e)) (fun e=>hF (by simpa using e))
theorem bH.I7{c x y}(h:ev E c=some (.bool true))(n:bH C (.code x::k) E Γ Q):bH C (.code (.cond c x y)::k) E Γ Q:=.cond h (fun _=>n) (fun e=>by cases e)
theorem bH.I8{c x y}(h:ev E c=some (.bool false))(n:bH C (.code y::k) E Γ Q):bH C (.code (.cond c x y)::k) E Γ Q:=.cond h (fun e=>by cases e) (fun _=>n)
theorem bH.loop{c}{σ:Type}(I:σ→Prop)(μ:σ→Nat)(e:σ→Env)(g:σ→List aj)(s0:σ)(h0:I s0){Δ:List aj}(hE:Le (e s0) E)(Gq:az (g s0) Γ Δ)
  (body:∀s,I s→(∀s',I s'→μ s'<μ s→bH C (.inLoop c::k) (e s') (g s') Q)→bH C (.code c::.inLoop c::k) (e s) (g s) Q):
  bH C (.code (.loop c)::k) E Γ Q:=by
 have key:∀n s,μ s=n→I s→bH C (.code c::.inLoop c::k) (e s) (g s) Q:=by
  intro n
  induction n using Nat.strongRecOn with
  |_ n ih=>
   intro s hs hI
   exact body s hI fun s' Gr cO=>.inLoop (ih (μ s') (hs▸cO) s' rfl Gr)
 exact(bH.LR (key _ s0 rfl h0)).to hE Gq
theorem bH.region{id ops}(h:aZ C.P C.fn.ntmps ops ops.toList E Γ fun E' aI=>bH C k E' aI Q):bH C (.code (.region id ops false)::k) E Γ Q:=by
 intro A F w a hf hs b cs hb hk
 have h1:=h A F w a (fun e a' w'=>match e with|.normal=>yu C.P C.f k a' w' fun v Jx=>∃aI,Q v aI∧Sat A Jx (aI++F)|_=>False) hf hs
  (fun E' aI w' a' Gs LQ lu=>Gs A F w' a' LQ lu)
 have h2:(Code.region id ops false).wp C.P (fun e a' w'=>match e with|.normal=>yu C.P C.f k a' w' fun v Jx=>∃aI,Q v aI∧Sat A Jx (aI++F)|_=>False) a w:=by
  refine wp_region ?_
  have:=ue (P:=C.P) (ops:=ops) ops.size 0 (by omega) a w (by simpa using h1)
  rwa[←List.range_eq_range']at this
 obtain⟨e,a',w',q,arr⟩:=h2 b k cs
 cases e with
 |normal=>
  obtain⟨v,w1,fr,r,s,x⟩:=q b cs hb hk
  exact⟨v,w1,fr,r,arr.trans s,x⟩
 |_=>exact q.elim
end
def j3(P:Program)(f:FuncId):Prop:=∃fn:Func,P.funcs[f]?=some fn∧(fn.name== "runtime.NumGoroutine")=false∧fn.body.isNone=false
structure Gt(P:Program)(f:FuncId)(args:List Value)(Γ:List aj)(Q:Value→List aj→Prop):Prop where
 sA:j3 P f
 runs:∀A F w,Sat A w (Γ++F)→Calls P f args.toArray w fun e w'=>∃v aI,e=.returned v∧Q v aI∧Sat A w' (aI++F)
theorem Gt.mono{P f args Γ}{Q Q':Value→List aj→Prop}(h:Gt P f args Γ Q)(hq:∀v aI,Q v aI→Q' v aI):Gt P f args Γ Q':=
 ⟨h.sA,fun A F w s=>(h.runs A F w s).mono fun _ _ ⟨v,aI,e,q,s'⟩=>⟨v,aI,e,hq _ _ q,s'⟩⟩
def j9:Nat→List Value→Env
 |_,[]=>[]
 |n,v::vs=>(n,v)::j9 (n+1) vs
theorem sO:∀(vs:List Value) (n t:Nat) (v:Value),lk (j9 n vs) t=some v→n≤t∧vs[t-n]?=some v
 |[],_,_,_,e=>by simp[j9,lk]at e
 |u::vs,n,t,v,e=>by
  simp only[j9,lk]at e
  cases hb:Nat.beq t n with
  |true=>
   have:=Nat.eq_of_beq_eq_true hb
   subst this
   simpa[hb]using e
  |false=>
   have dx:t≠n:=fun e'=>by subst e';simp at hb
   obtain⟨h1,h2⟩:=sO vs (n+1) t v (by simpa[hb]using e)
   refine⟨by omega,?_⟩
   have:t-n=(t-(n+1))+1:=by omega
   rw[this];simpa using h2
theorem Gt.enter{P:Program}{f:FuncId}{fn:Func}{c:Code}{args:List Value}{Γ:List aj}{Q:Value→List aj→Prop}(hf:P.funcs[f]?=some fn)(hb:fn.body=some c)
  (hn:(fn.name== "runtime.NumGoroutine")=false) (hl:Nat.ble args.length fn.ntmps=true) (h:bH ⟨P,f,fn⟩ [.code c] (j9 0 args) Γ Q):Gt P f args Γ Q:=by
 refine⟨⟨fn,hf,hn,by simp[hb]⟩,fun A F w s=>?_⟩
 intro cs
 let b:Frame:={(default:Frame)with fn:=f,kind:=.normal}
 have Jy:Frame.enter P f args.toArray .normal=b.at {tmps:=args.toArray++Array.replicate (fn.ntmps-args.toArray.size) undef,defers:=[]} [.code c]:=by
  simp[Frame.enter,Frame.at,hf,hb,b]
 have hle:args.length≤fn.ntmps:=Nat.le_of_ble_eq_true hl
 have ug:Fr fn.ntmps (j9 0 args) {tmps:=args.toArray++Array.replicate (fn.ntmps-args.toArray.size) undef,defers:=[]}:=by
  refine⟨rfl,by simp;omega,fun t v e=>?_⟩
  obtain⟨_,h2⟩:=sO args 0 t v e
  have cO:t<args.length:=(List.getElem?_eq_some_iff.1 h2).1
  rw[Array.getElem?_append_left (by simpa using cO)]
  simpa using h2
 obtain⟨v,w',fr,⟨aI,q,s'⟩,nK,C2,LS⟩:=h A F w _ ug s b cs rfl rfl
 rw[Jy]
 exact⟨.returned v,w',fr,⟨v,aI,rfl,q,s'⟩,nK,C2,LS⟩
def qg(E:Env):List ResultVar→Option (List Value)
 |[]=>some []
 |.tmp t::rs=>match lk E t with
  |some v=>match qg E rs with
   |some vs=>some (v::vs)
   |none=>none
  |none=>none
 |_=>none
def cZ:List Value→Value
 |[v]=>v
 |vs=>.tuple vs.toArray
theorem Jz{P fn E a w}{N:Nat}(hf:Fr N E a){vs:List Value}(h:qg E fn.results.toList=some vs):(results fn a.tmps).run P w=.ok (cZ vs) w:=by
 have key:∀(rs:List ResultVar) vs,qg E rs=some vs→
   (rs.mapM (m:=Sem) fun|.tmp t=>(Pure.pure (a.tmps.getD t undef):Sem Value)|.cell x t=>do loadVar t (←asAddr (a.tmps.getD x undef)))=Sem.pure vs:=by
  intro rs
  induction rs with
  |nil=>intro vs e;simp[qg]at e;subst e;rfl
  |cons r rs ih=>
   intro vs e
   cases r with
   |cell x t=>simp[qg]at e
   |tmp t=>
    simp only[qg]at e
    cases e1:lk E t with
    |none=>simp[e1]at e
    |some v=>
     cases e2:qg E rs with
     |none=>simp[e1,e2]at e
     |some us=>
      simp[e1,e2]at e
      subst e
      have h1:=hf.look t v e1
      rw[List.mapM_cons,ih us e2]
      have:a.tmps.getD t undef=v:=by simp[h1]
      simp only[this];rfl
 have h2:=key fn.results.toList vs h
 have h3:fn.results=fn.results.toList.toArray:=rfl
 unfold results
 rw[h3,List.mapM_toArray]
 erw [h2]
 match vs with
 |[]=>rfl
 |[v]=>rfl
 |u::v::vs=>simp only[cZ];rfl
section
variable{P:Program}{N:Nat}{E:Env}{Γ:List aj}{dst:Option Tmp}{ty:TypeId}{pos:String}{after:Array Edge}{guard:Option (Nat×Bool)}
theorem Reads.move{x v}(h:ev E x=some v):Reads P N E Γ ⟨dst,.move x,ty,pos,after,guard⟩ v:=fun _ w a hf _=>by
 simp[execOp,hf.eval h]
theorem Reads.assign{x v}(h:ev E x=some v):Reads P N E Γ ⟨dst,.assign x,ty,pos,after,guard⟩ v:=fun _ w a hf _=>by
 simp[execOp,hf.eval h]
theorem Reads.pick{c x y v}{b:Bool}(hc:ev E c=some (.bool b))(hT:b=true→ev E x=some v)(hF:b=false→ev E y=some v):Reads P N E Γ ⟨dst,.pick c x y,ty,pos,after,guard⟩ v:=fun _ w a hf _=>by
 cases b with
 |true=>simp[execOp,hf.eval hc,asBool,hf.eval (hT rfl)]
 |false=>simp[execOp,hf.eval hc,asBool,hf.eval (hF rfl)]
theorem Reads.LU{c x y v}(hc:ev E c=some (.bool true))(h:ev E x=some v):Reads P N E Γ ⟨dst,.pick c x y,ty,pos,after,guard⟩ v:=.pick hc (fun _=>h) (fun e=>by cases e)
theorem Reads.I9{c x y v}(hc:ev E c=some (.bool false))(h:ev E y=some v):Reads P N E Γ ⟨dst,.pick c x y,ty,pos,after,guard⟩ v:=.pick hc (fun e=>by cases e) (fun _=>h)
theorem Reads.not{x t}{b:Bool}(h:ev E x=some (.bool b)):Reads P N E Γ ⟨dst,.unOp .not t x,ty,pos,after,guard⟩ (.bool (!b)):=fun _ w a hf _=>by
 simp[execOp,hf.eval h,Op.unary]
theorem Reads.nilCheck{x}{p:Addr}(h:ev E x=some (.pointer (some p))):Reads P N E Γ ⟨dst,.nilCheck x,ty,pos,after,guard⟩ (.pointer (some p)):=fun _ w a hf _=>by
 simp[execOp,hf.eval h]
theorem Reads.extract{x vs v}{i:Nat}(h:ev E x=some (.tuple vs))(hi:vs[i]?=some v):Reads P N E Γ ⟨dst,.extract x i,ty,pos,after,guard⟩ v:=fun _ w a hf _=>by
 simp[execOp,hf.eval h,Instr.extract,hi]
theorem Reads.makeFunc{fn first cap fs cs}(h1:yq E first.toList=some fs)(h2:yq E cap.toList=some cs):Reads P N E Γ ⟨dst,.makeFunc fn first cap,ty,pos,after,guard⟩ (.func fn fs.toArray cs.toArray):=fun _ w a hf _=>by
 have e1:first.map a.eval=fs.toArray:=by
  have:=congrArg List.toArray (hf.sN h1)
  rw[←this,←Array.toList_map]
 have e2:cap.map a.eval=cs.toArray:=by
  have:=congrArg List.toArray (hf.sN h2)
  rw[←this,←Array.toList_map]
 simp[execOp,Instr.makeFunc,e1,e2]
theorem ke{op t x y}{j k:IntKind}{a b:Int}(P:Program)(w:World):(eqGuard op t x y (.int j a) (.int k b)).run P w=.ok () w:=by
 unfold eqGuard;cases op<;>rfl
theorem Gu{op t x y}{a b:Bool}(P:Program)(w:World):(eqGuard op t x y (.bool a) (.bool b)).run P w=.ok () w:=by
 unfold eqGuard;cases op<;>rfl
theorem iw{op t x y}{a b:ByteArray}(P:Program)(w:World):(eqGuard op t x y (.string a) (.string b)).run P w=.ok () w:=by
 unfold eqGuard;cases op<;>rfl
theorem o5{op t x y}{a b:Option Addr}(P:Program)(w:World):(eqGuard op t x y (.pointer a) (.pointer b)).run P w=.ok () w:=by
 unfold eqGuard;cases op<;>rfl
theorem sB{op t x y}{a b:Option Addr}{m n k l}(P:Program)(w:World):(eqGuard op t x y (.slice a m n) (.slice b k l)).run P w=.ok () w:=by
 unfold eqGuard;cases op<;>rfl
theorem Reads.arith{op t x y t'}{k:IntKind}{m n:Int}{v:Value}(hx:ev E x=some (.int k m))(hy:ev E y=some (.int k n))
  (h:∀w,(binOp op t (.int k m) (.int k n)).run P w=.ok v w):Reads P N E Γ ⟨dst,.binOp op t x y t',ty,pos,after,guard⟩ v:=fun _ w a hf _=>by
 simp[execOp,hf.eval hx,hf.eval hy,ke,h]
theorem Reads.Of{t x y t'}{k:IntKind}{m n:Int}(hx:ev E x=some (.int k m))(hy:ev E y=some (.int k n)):
  Reads P N E Γ ⟨dst,.binOp .add t x y t',ty,pos,after,guard⟩ (.int k (k.wrap (m+n))):=.arith hx hy fun w=>by simp[binOp,Op.intArith]
theorem Reads.Og{t x y t'}{k:IntKind}{m n:Int}(hx:ev E x=some (.int k m))(hy:ev E y=some (.int k n)):
  Reads P N E Γ ⟨dst,.binOp .sub t x y t',ty,pos,after,guard⟩ (.int k (k.wrap (m-n))):=.arith hx hy fun w=>by simp[binOp,Op.intArith]
theorem Reads.Oh{t x y t'}{k:IntKind}{m n:Int}(hx:ev E x=some (.int k m))(hy:ev E y=some (.int k n)):
  Reads P N E Γ ⟨dst,.binOp .mul t x y t',ty,pos,after,guard⟩ (.int k (k.wrap (m*n))):=.arith hx hy fun w=>by simp[binOp,Op.intArith]
theorem wrap_i64{n:Int}(h1:-9223372036854775808≤n)(h2:n≤9223372036854775807):IntKind.i64.wrap n=n:=by
 unfold IntKind.wrap
 simp only[IntKind.bits,IntKind.signed,Bool.true_and,decide_eq_true_eq,show(2:Int)^64=18446744073709551616 from rfl,show(2:Int)^(64-1)=9223372036854775808 from rfl]
 by_cases h:n%18446744073709551616≥9223372036854775808
 ·
  rw[if_pos h];omega
 ·
  rw[if_neg h];omega
theorem Reads.add{t x y t'}{m n:Int}(hx:ev E x=some (.int .i64 m))(hy:ev E y=some (.int .i64 n))(h1:-9223372036854775808≤m+n)(h2:m+n≤9223372036854775807):
  Reads P N E Γ ⟨dst,.binOp .add t x y t',ty,pos,after,guard⟩ (.int .i64 (m+n)):=by
 have:=Reads.Of (P:=P) (N:=N) (Γ:=Γ) (dst:=dst) (ty:=ty) (pos:=pos) (after:=after) (guard:=guard) (t:=t) (t':=t') hx hy
 rwa[wrap_i64 h1 h2]at this
theorem Reads.sub{t x y t'}{m n:Int}(hx:ev E x=some (.int .i64 m))(hy:ev E y=some (.int .i64 n))(h1:-9223372036854775808≤m-n)(h2:m-n≤9223372036854775807):
  Reads P N E Γ ⟨dst,.binOp .sub t x y t',ty,pos,after,guard⟩ (.int .i64 (m-n)):=by
 have:=Reads.Og (P:=P) (N:=N) (Γ:=Γ) (dst:=dst) (ty:=ty) (pos:=pos) (after:=after) (guard:=guard) (t:=t) (t':=t') hx hy
 rwa[wrap_i64 h1 h2]at this
theorem Reads.mul{t x y t'}{m n:Int}(hx:ev E x=some (.int .i64 m))(hy:ev E y=some (.int .i64 n))(h1:-9223372036854775808≤m*n)(h2:m*n≤9223372036854775807):
  Reads P N E Γ ⟨dst,.binOp .mul t x y t',ty,pos,after,guard⟩ (.int .i64 (m*n)):=by
 have:=Reads.Oh (P:=P) (N:=N) (Γ:=Γ) (dst:=dst) (ty:=ty) (pos:=pos) (after:=after) (guard:=guard) (t:=t) (t':=t') hx hy
 rwa[wrap_i64 h1 h2]at this
theorem Reads.neg{t x}{n:Int}(hx:ev E x=some (.int .i64 n))(h1:-9223372036854775807≤n)(h2:n≤9223372036854775807):
  Reads P N E Γ ⟨dst,.unOp .neg t x,ty,pos,after,guard⟩ (.int .i64 (-n)):=fun _ w a hf _=>by
 simp[execOp,hf.eval hx,Op.unary,Op.intArith]
 rw[wrap_i64 (by omega) (by omega)]
theorem Reads.C3{t x}{k:IntKind}{n:Int}(hx:ev E x=some (.int k n)):
  Reads P N E Γ ⟨dst,.unOp .neg t x,ty,pos,after,guard⟩ (.int k (k.wrap (-n))):=fun _ w a hf _=>by
 simp[execOp,hf.eval hx,Op.unary,Op.intArith]
theorem Reads.quo{t x y t'}{m n:Int}(hx:ev E x=some (.int .i64 m))(hy:ev E y=some (.int .i64 n))(h0:0≤m)(h1:0<n)(h2:m≤9223372036854775807):
  Reads P N E Γ ⟨dst,.binOp .quo t x y t',ty,pos,after,guard⟩ (.int .i64 (m/n)):=.arith hx hy fun w=>by
 have hn:n≠0:=by omega
 have hd:m.tdiv n=m/n:=Int.tdiv_eq_ediv_of_nonneg h0
 have e1:0≤m/n:=Int.ediv_nonneg h0 (by omega)
 have e2:m/n≤m:=Int.ediv_le_self n h0
 simp[binOp,Op.intDiv,hn,hd,wrap_i64 (n:=m/n) (by omega) (by omega)]
theorem Reads.rem{t x y t'}{k:IntKind}{m n:Int}(hx:ev E x=some (.int k m))(hy:ev E y=some (.int k n))(h0:0≤m)(h1:0<n):
  Reads P N E Γ ⟨dst,.binOp .rem t x y t',ty,pos,after,guard⟩ (.int k (m%n)):=.arith hx hy fun w=>by
 have hn:n≠0:=by omega
 simp[binOp,Op.intDiv,hn,Int.tmod_eq_emod_of_nonneg h0]
theorem Reads.and{t x y t'}{k:IntKind}{m n:Int}(hx:ev E x=some (.int k m))(hy:ev E y=some (.int k n)):
  Reads P N E Γ ⟨dst,.binOp .and t x y t',ty,pos,after,guard⟩ (.int k (k.wrap (BitVec.ofInt k.bits m&&&BitVec.ofInt k.bits n).toNat)):=.arith hx hy fun w=>by simp[binOp,Op.intBits]
theorem Reads.or{t x y t'}{k:IntKind}{m n:Int}(hx:ev E x=some (.int k m))(hy:ev E y=some (.int k n)):
  Reads P N E Γ ⟨dst,.binOp .or t x y t',ty,pos,after,guard⟩ (.int k (k.wrap (BitVec.ofInt k.bits m|||BitVec.ofInt k.bits n).toNat)):=.arith hx hy fun w=>by simp[binOp,Op.intBits]
theorem Reads.xor{t x y t'}{k:IntKind}{m n:Int}(hx:ev E x=some (.int k m))(hy:ev E y=some (.int k n)):
  Reads P N E Γ ⟨dst,.binOp .xor t x y t',ty,pos,after,guard⟩ (.int k (k.wrap (BitVec.ofInt k.bits m^^^BitVec.ofInt k.bits n).toNat)):=.arith hx hy fun w=>by simp[binOp,Op.intBits]
theorem Reads.shl{t x y t'}{k j:IntKind}{m:Int}{n:Nat}(hx:ev E x=some (.int k m))(hy:ev E y=some (.int j (n:Int))):
  Reads P N E Γ ⟨dst,.binOp .shl t x y t',ty,pos,after,guard⟩ (.int k (k.wrap (m*2^(min n k.bits)))):=fun _ w a hf _=>by
 have h0:¬((n:Int)<0):=by omega
 simp[execOp,hf.eval hx,hf.eval hy,ke,binOp,Op.shift,h0]
theorem Reads.shr{t x y t'}{k j:IntKind}{m:Int}{n:Nat}(hx:ev E x=some (.int k m))(hy:ev E y=some (.int j (n:Int))):
  Reads P N E Γ ⟨dst,.binOp .shr t x y t',ty,pos,after,guard⟩ (.int k (m.fdiv (2^(min n k.bits)))):=fun _ w a hf _=>by
 have h0:¬((n:Int)<0):=by omega
 simp[execOp,hf.eval hx,hf.eval hy,ke,binOp,Op.shift,h0]
theorem Reads.NJ{t x y t'}{k:IntKind}{m n:Int}(hx:ev E x=some (.int k m))(hy:ev E y=some (.int k n)):
  Reads P N E Γ ⟨dst,.binOp .eql t x y t',ty,pos,after,guard⟩ (.bool (decide (m=n))):=.arith hx hy fun w=>by
 simp[binOp,Op.intCmp];rw[Bool.eq_iff_iff];simp
theorem Reads.Rp{t x y t'}{k:IntKind}{m n:Int}(hx:ev E x=some (.int k m))(hy:ev E y=some (.int k n)):
  Reads P N E Γ ⟨dst,.binOp .neq t x y t',ty,pos,after,guard⟩ (.bool (!decide (m=n))):=.arith hx hy fun w=>by
 simp[binOp,Op.intCmp];rw[Bool.eq_iff_iff];simp
theorem Reads.lt{t x y t'}{k:IntKind}{m n:Int}(hx:ev E x=some (.int k m))(hy:ev E y=some (.int k n)):
  Reads P N E Γ ⟨dst,.binOp .lss t x y t',ty,pos,after,guard⟩ (.bool (decide (m<n))):=.arith hx hy fun w=>by simp[binOp,Op.intCmp]
theorem Reads.le{t x y t'}{k:IntKind}{m n:Int}(hx:ev E x=some (.int k m))(hy:ev E y=some (.int k n)):
  Reads P N E Γ ⟨dst,.binOp .leq t x y t',ty,pos,after,guard⟩ (.bool (decide (m≤n))):=.arith hx hy fun w=>by simp[binOp,Op.intCmp]
theorem Reads.gt{t x y t'}{k:IntKind}{m n:Int}(hx:ev E x=some (.int k m))(hy:ev E y=some (.int k n)):
  Reads P N E Γ ⟨dst,.binOp .gtr t x y t',ty,pos,after,guard⟩ (.bool (decide (n<m))):=.arith hx hy fun w=>by simp[binOp,Op.intCmp]
theorem Reads.ge{t x y t'}{k:IntKind}{m n:Int}(hx:ev E x=some (.int k m))(hy:ev E y=some (.int k n)):
  Reads P N E Γ ⟨dst,.binOp .geq t x y t',ty,pos,after,guard⟩ (.bool (decide (n≤m))):=.arith hx hy fun w=>by simp[binOp,Op.intCmp]
theorem Reads.bA{s d x}{k j:IntKind}{n:Int}{ds:TypeDesc}(hs:P.underlying s=some ds)(hd:P.underlying d=some (.int k))(hx:ev E x=some (.int j n)):
  Reads P N E Γ ⟨dst,.convert s d x,ty,pos,after,guard⟩ (.int k (k.wrap n)):=fun _ w a hf _=>by
 simp only[execOp,hf.eval hx,convert,underlying,Sem.run_bind,run_program,Result.andThen_ok,hs,hd,Sem.run_pure]
 simp[Conv.intToInt]
theorem Gv{t}{a b:Bool}(hu:P.underlying t=some .bool)(d:Nat)(w:World):(Op.equalIn (d+1) t (.bool a) (.bool b)).run P w=.ok (a==b) w:=by
 rw[Op.equalIn.eq_def];simp[underlying,hu]
theorem vL{t}{k j:IntKind}{a b:Int}(hu:P.underlying t=some (.int k))(d:Nat)(w:World):(Op.equalIn (d+1) t (.int j a) (.int j b)).run P w=.ok (a==b) w:=by
 rw[Op.equalIn.eq_def];simp[underlying,hu]
theorem qh{t}{a b:ByteArray}(hu:P.underlying t=some .string)(d:Nat)(w:World):(Op.equalIn (d+1) t (.string a) (.string b)).run P w=.ok (a==b) w:=by
 rw[Op.equalIn.eq_def];simp[underlying,hu]
theorem uh{t e}{p:Option Addr}(hu:P.underlying t=some (.pointer e))(d:Nat)(w:World):(Op.equalIn (d+1) t (.pointer p) (.pointer none)).run P w=.ok p.isNone w:=by
 rw[Op.equalIn.eq_def];cases p<;>simp[underlying,hu]
theorem uj{t e}{p:Option Addr}{n c}(hu:P.underlying t=some (.slice e))(d:Nat)(w:World):(Op.equalIn (d+1) t (.slice p n c) (.slice none 0 0)).run P w=.ok p.isNone w:=by
 rw[Op.equalIn.eq_def];cases p<;>simp[underlying,hu]
theorem binOp_eql{t}{x y:Value}{b:Bool}(hb:∀_:World,(binOp .eql t x y)=(do Pure.pure (.bool (←Op.equal t x y))))(w:World)(h:(Op.equalIn (9999+1) t x y).run P w=.ok b w):
  (binOp .eql t x y).run P w=.ok (.bool b) w:=by
 rw[hb w]
 have h':(Op.equal t x y).run P w=.ok b w:=h
 simp[h']
theorem binOp_neq{t}{x y:Value}{b:Bool}(hb:∀_:World,(binOp .neq t x y)=(do Pure.pure (.bool (!(←Op.equal t x y)))))(w:World)(h:(Op.equalIn (9999+1) t x y).run P w=.ok b w):
  (binOp .neq t x y).run P w=.ok (.bool (!b)) w:=by
 rw[hb w]
 have h':(Op.equal t x y).run P w=.ok b w:=h
 simp[h']
theorem Reads.bin{op t x y t'}{u v z:Value}(hx:ev E x=some u)(hy:ev E y=some v)(hg:∀w,(eqGuard op t x y u v).run P w=.ok () w)(h:∀w,(binOp op t u v).run P w=.ok z w):
  Reads P N E Γ ⟨dst,.binOp op t x y t',ty,pos,after,guard⟩ z:=fun _ w a hf _=>by
 simp only[execOp,hf.eval hx,hf.eval hy,Sem.run_bind,hg,Result.andThen_ok,h,Sem.run_pure]
theorem toList_inj{s t:ByteArray}:s.toList=t.toList↔s=t:=by
 constructor
 ·
  intro h
  rw[ByteArray.toList_eq,ByteArray.toList_eq]at h
  cases s;cases t
  simp at h;simp[h]
 ·
  rintro rfl;rfl
theorem Reads.Rq{t x y t'}{m n:ByteArray}(hx:ev E x=some (.string m))(hy:ev E y=some (.string n)):
  Reads P N E Γ ⟨dst,.binOp .eql t x y t',ty,pos,after,guard⟩ (.bool (decide (m=n))):=fun _ w a hf _=>by
 simp[execOp,hf.eval hx,hf.eval hy,iw,binOp,Op.stringOp]
 rw[Bool.eq_iff_iff];simp[toList_inj]
theorem Reads.Rr{t x y t'}{m n:ByteArray}(hx:ev E x=some (.string m))(hy:ev E y=some (.string n)):
  Reads P N E Γ ⟨dst,.binOp .neq t x y t',ty,pos,after,guard⟩ (.bool (!decide (m=n))):=fun _ w a hf _=>by
 simp[execOp,hf.eval hx,hf.eval hy,iw,binOp,Op.stringOp]
 rw[Bool.eq_iff_iff];simp[toList_inj]
theorem Reads.cat{t x y t'}{m n:ByteArray}(hx:ev E x=some (.string m))(hy:ev E y=some (.string n))(hl:m.size+n.size≤9223372036854775807):
  Reads P N E Γ ⟨dst,.binOp .add t x y t',ty,pos,after,guard⟩ (.string (m++n)):=fun _ w a hf _=>by
 simp[execOp,hf.eval hx,hf.eval hy,iw,binOp,Op.stringOp]
 omega
theorem Reads.JA{t x i}{s:ByteArray}{k:IntKind}{n:Int}{b:UInt8}(hu:P.underlying t=some .string)(hx:ev E x=some (.string s))(hi:ev E i=some (.int k n))(h0:0≤n)
  (hb:s.data[n.toNat]?=some b):Reads P N E Γ ⟨dst,.index t x i,ty,pos,after,guard⟩ (.int .u8 b.toNat):=fun _ w a hf _=>by
 have cO:n.toNat<s.size:=by
  have:=(Array.getElem?_eq_some_iff.1 hb).1;exact this
 have vF:s[n.toNat]?=some b:=by
  rw[getElem?_pos s n.toNat cO]
  have:=(Array.getElem?_eq_some_iff.1 hb).2
  exact congrArg some this
 simp[execOp,hf.eval hx,hf.eval hi,Instr.index,asIntOf,underlying,hu,h0,vF]
theorem Reads.Oi{args:Array Operand}{x t ts}{s:ByteArray}(ha:args=#[x])(o6:ts=#[t])(hu:P.underlying t=some .string)(hx:ev E x=some (.string s)):
  Reads P N E Γ ⟨dst,.call ⟨.builtin .len,args,ts⟩,ty,pos,after,guard⟩ (.int .i64 s.size):=fun _ w a hf _=>by
 subst ha o6
 simp[execOp,resolve,invoke,builtin,Builtin.len_,hf.eval hx,underlying,hu,goInt]
theorem Reads.bP{args:Array Operand}{x t e ts}{p:Option Addr}{n c:Nat}(ha:args=#[x])(o6:ts=#[t])(hu:P.underlying t=some (.slice e))(hx:ev E x=some (.slice p n c)):
  Reads P N E Γ ⟨dst,.call ⟨.builtin .len,args,ts⟩,ty,pos,after,guard⟩ (.int .i64 n):=fun _ w a hf _=>by
 subst ha o6
 simp[execOp,resolve,invoke,builtin,Builtin.len_,hf.eval hx,underlying,hu,goInt]
theorem Reads.min2{args:Array Operand}{x y ts}{k:IntKind}{m n:Int}(ha:args=#[x,y])(hx:ev E x=some (.int k m))(hy:ev E y=some (.int k n)):
  Reads P N E Γ ⟨dst,.call ⟨.builtin .min,args,ts⟩,ty,pos,after,guard⟩ (.int k (if n<m then n else m)):=fun _ w a hf _=>by
 subst ha
 simp[execOp,resolve,invoke,builtin,Builtin.min_,Builtin.min2,hf.eval hx,hf.eval hy]
theorem Reads.max2{args:Array Operand}{x y ts}{k:IntKind}{m n:Int}(ha:args=#[x,y])(hx:ev E x=some (.int k m))(hy:ev E y=some (.int k n)):
  Reads P N E Γ ⟨dst,.call ⟨.builtin .max,args,ts⟩,ty,pos,after,guard⟩ (.int k (if m<n then n else m)):=fun _ w a hf _=>by
 subst ha
 simp[execOp,resolve,invoke,builtin,Builtin.max_,Builtin.max2,hf.eval hx,hf.eval hy]
theorem Reads.JB{t x}{s:ByteArray}{lo hi:Option Operand}{l h:Nat}(hu:P.underlying t=some .string)(hx:ev E x=some (.string s))
  (yf:match lo with|none=>l=0|some o=>∃k,ev E o=some (.int k (l:Int))) (vG:match hi with|none=>h=s.size|some o=>∃k,ev E o=some (.int k (h:Int)))
  (h1:l≤h) (h2:h≤s.size):Reads P N E Γ ⟨dst,.slice t x lo hi none,ty,pos,after,guard⟩ (.string (s.extract l h)):=fun _ w a hf _=>by
 have b3:(0≤(h:Int)):=by omega
 have b4:(0≤(l:Int)):=by omega
 cases lo with
 |none=>
  simp only at yf;subst yf
  cases hi with
  |none=>simp only at vG;subst vG;simp[execOp,Instr.sliceAt,Instr.slice,Instr.sliceBounds,hf.eval hx,underlying,hu]
  |some o=>
   obtain⟨k,ho⟩:=vG
   simp[execOp,Instr.sliceAt,Instr.slice,Instr.sliceBounds,Instr.sliceBound,asIntOf,hf.eval hx,hf.eval ho,underlying,hu,b3,h2]
 |some o'=>
  obtain⟨k',Ja⟩:=yf
  cases hi with
  |none=>simp only at vG;subst vG;simp[execOp,Instr.sliceAt,Instr.slice,Instr.sliceBounds,Instr.sliceBound,asIntOf,hf.eval hx,hf.eval Ja,underlying,hu,b4,h1]
  |some o=>
   obtain⟨k,ho⟩:=vG
   simp[execOp,Instr.sliceAt,Instr.slice,Instr.sliceBounds,Instr.sliceBound,asIntOf,hf.eval hx,hf.eval ho,hf.eval Ja,underlying,hu,b3,b4,h1,h2]
theorem Reads.jy{t x y t' e}{p:Option Addr}(hu:P.underlying t=some (.pointer e))(hx:ev E x=some (.pointer p))(hy:ev E y=some (.pointer none)):
  Reads P N E Γ ⟨dst,.binOp .eql t x y t',ty,pos,after,guard⟩ (.bool p.isNone):=
 .bin hx hy (o5 P) fun w=>binOp_eql (fun _=>rfl) w (uh hu 9999 w)
theorem Reads.yw{t x y t' e}{p:Option Addr}{n c}(hu:P.underlying t=some (.slice e))(hx:ev E x=some (.slice p n c))(hy:ev E y=some (.slice none 0 0)):
  Reads P N E Γ ⟨dst,.binOp .eql t x y t',ty,pos,after,guard⟩ (.bool p.isNone):=
 .bin hx hy (sB P) fun w=>binOp_eql (fun _=>rfl) w (uj hu 9999 w)
theorem cA(b o n:Nat):(⟨b,o,none⟩:Addr).add n=⟨b,o+n,none⟩:=by
 unfold Addr.add;split
 ·
  rename_i h;simp_all
 ·
  rfl
def TI(P:Program)(t:TypeId)(size bytes:Nat)(zero:Value):Prop:=∃i,P.info? t=some i∧i.size=size∧i.bytes=bytes∧i.zero=some zero
def TS(P:Program)(t:TypeId)(size:Nat):Prop:=∃i,P.info? t=some i∧i.size=size
theorem TI.of{P:Program}{t s b z}(h:(P.info? t).map (fun i=>(i.size,i.bytes,i.zero))=some (s,b,some z)):TI P t s b z:=by
 cases e:P.info? t with
 |none=>simp[e]at h
 |some i=>simp[e]at h;exact⟨i,e,h⟩
theorem TS.of{P:Program}{t s}(h:(P.info? t).map (·.size)=some s):TS P t s:=by
 cases e:P.info? t with
 |none=>simp[e]at h
 |some i=>simp[e]at h;exact⟨i,e,h⟩
theorem TS.run{P:Program}{t s}(h:TS P t s)(w:World):(sizeOf t).run P w=.ok s w:=by
 obtain⟨i,h1,h2⟩:=h
 simp[sizeOf,typeInfo,h1,h2]
theorem TI.zero{P:Program}{t s b z}(h:TI P t s b z)(w:World):(zeroValue t).run P w=.ok z w:=by
 obtain⟨i,h1,h2,h3,h4⟩:=h
 simp[zeroValue,typeInfo,h1,h4]
def FD(P:Program)(s:TypeId)(f off:Nat):Prop:=∃fs fd n,P.underlying s=some (.struct fs)∧fs[f]?=some fd∧fd.offset=off∧TS P fd.type (n+1)
theorem FD.of{P:Program}{s f off}{fs:Array Field}(h:P.underlying s=some (.struct fs))(h1:(fs[f]?).map (fun d=>(d.offset,((P.info? d.type).map fun i=>decide (0<i.size)).getD false))=some (off,true)):FD P s f off:=by
 cases e:fs[f]? with
 |none=>simp[e]at h1
 |some d=>
  simp[e]at h1
  obtain⟨h2,h3⟩:=h1
  cases e2:P.info? d.type with
  |none=>simp[e2]at h3
  |some i=>
   simp[e2]at h3
   exact⟨fs,d,i.size-1,h,e,h2,i,e2,by omega⟩
theorem Reads.fieldAddr{s x f off}{b o:Nat}(hd:FD P s f off)(hx:ev E x=some (.pointer (some ⟨b,o,none⟩))):
  Reads P N E Γ ⟨dst,.fieldAddr s x f,ty,pos,after,guard⟩ (.pointer (some ⟨b,o+off,none⟩)):=fun _ w a hf _=>by
 obtain⟨fs,fd,n,h1,h2,h3,h4⟩:=hd
 simp[execOp,hf.eval hx,Instr.fieldAt,underlying,h1,h2,Instr.sureAddr,fieldPlace,h4.run,cA,h3]
theorem Reads.indexAddr{t x i e}{b o n c s:Nat}{k:IntKind}{j:Int}(hu:P.underlying t=some (.slice e))(hs:TS P e s)(hx:ev E x=some (.slice (some ⟨b,o,none⟩) n c))(hi:ev E i=some (.int k j))
  (h0:0≤j) (h1:j<n):Reads P N E Γ ⟨dst,.indexAddr t x i,ty,pos,after,guard⟩ (.pointer (some ⟨b,o+j.toNat*s,none⟩)):=fun _ w a hf _=>by
 simp[execOp,hf.eval hx,hf.eval hi,Instr.indexAt,underlying,hu,asIntOf,h0,h1,hs.run,cA]
def cn(P:Program)(t:TypeId):Prop:=∃d,P.underlying t=some d∧(match d with|.struct _|.array _ _=>False|_=>True)
def iM(P:Program)(t:TypeId):Prop:=∃d,P.underlying t=some d∧(match d with|.struct _|.array _ _=>True|_=>False)
theorem cn.run{t}(h:cn P t)(w:World):(isAgg t).run P w=.ok false w:=by
 obtain⟨d,h1,h2⟩:=h
 cases d<;>first|exact h2.elim|simp[isAgg,underlying,h1]
theorem iM.run{t}(h:iM P t)(w:World):(isAgg t).run P w=.ok true w:=by
 obtain⟨d,h1,h2⟩:=h
 cases d<;>first|exact h2.elim|simp[isAgg,underlying,h1]
theorem Reads.z1{t x i e v}{n s:Nat}{cs:Array Value}{k:IntKind}{j:Int}(hu:P.underlying t=some (.array n e))(hn:cn P e)(hs:TS P e s)(hx:ev E x=some (.agg cs))(hi:ev E i=some (.int k j))
  (h0:0≤j) (h1:j<n) (hv:cs[j.toNat*s]?=some v):Reads P N E Γ ⟨dst,.index t x i,ty,pos,after,guard⟩ v:=fun _ w a hf _=>by
 simp[execOp,hf.eval hx,hf.eval hi,Instr.index,asIntOf,underlying,hu,h0,h1,hs.run,part,hn.run,hv]
end
abbrev mz:=List (Nat×Nat×Nat)
def Gw:mz→Nat→Nat→Option Nat
 |[],_,_=>none
 |(s,f,o)::r,s',f'=>bif Nat.beq s s'&&Nat.beq f f' then some o else Gw r s' f'
def eL(P:Program)(t:mz):Prop:=∀s f o,Gw t s f=some o→FD P s f o
theorem eL.nil{P:Program}:eL P []:=fun _ _ _ h=>by cases h
theorem eL.cons{P:Program}{s f o:Nat}{t:mz}(h:FD P s f o)(r:eL P t):eL P ((s,f,o)::t):=fun s' f' o' e=>by
 unfold Gw at e
 by_cases hb:(Nat.beq s s'&&Nat.beq f f')=true
 ·
  rw[hb]at e
  simp at hb
  obtain⟨rfl,rfl⟩:=hb
  cases e
  exact h
 ·
  rw[Bool.eq_false_iff.2 hb]at e
  exact r s' f' o' e
def LW:BinOp→Int→Int→Option Value
 |.eql,m,n=>some (.bool (decide (m=n)))
 |.neq,m,n=>some (.bool (!decide (m=n)))
 |.lss,m,n=>some (.bool (decide (m<n)))
 |.leq,m,n=>some (.bool (decide (m≤n)))
 |.gtr,m,n=>some (.bool (decide (n<m)))
 |.geq,m,n=>some (.bool (decide (n≤m)))
 |_,_,_=>none
def C4:IntKind→IntKind→Bool
 |.i64,.i64=>true
 |.u8,.u8=>true
 |.u32,.u32=>true
 |.u64,.u64=>true
 |_,_=>false
theorem C5{k l:IntKind}(h:C4 k l=true):k=l:=by cases k<;>cases l<;>first|rfl|cases h
def qi(t:mz)(E:Env):Op→Option Value
 |.move x=>ev E x
 |.assign x=>ev E x
 |.nilCheck x=>match ev E x with
  |some (.pointer (some p))=>some (.pointer (some p))
  |_=>none
 |.extract x i=>match ev E x with
  |some (.tuple vs)=>vs[i]?
  |_=>none
 |.unOp .not _ x=>match ev E x with
  |some (.bool b)=>some (.bool (!b))
  |_=>none
 |.pick c x y=>match ev E c with
  |some (.bool true)=>ev E x
  |some (.bool false)=>ev E y
  |_=>none
 |.fieldAddr s x f=>match ev E x with
  |some (.pointer (some ⟨b,o,none⟩))=>match Gw t s f with
   |some off=>some (.pointer (some ⟨b,o+off,none⟩))
   |none=>none
  |_=>none
 |.binOp op _ x y _=>match ev E x with
  |some (.int k m)=>match ev E y with
   |some (.int l n)=>bif C4 k l then LW op m n else none
   |_=>none
  |_=>none
 |_=>none
def Jb(t:mz)(N:Nat)(o:Oper)(E:Env):Option Env:=match o.dst with
 |some d=>bif Nat.blt d N then(match qi t E o.op with
  |some v=>some ((d,v)::E)
  |none=>none)else none
 |none=>none
def Bz(E:Env):Option Nat→Option Env
 |some d=>match lk E d with
  |none=>some E
  |some _=>none
 |none=>none
def Gx(t:mz)(N:Nat)(all:Array Oper)(o:Oper)(E:Env):Option Env:=match o.guard with
 |none=>Jb t N o E
 |some (g,b)=>match fS all g with
  |some s=>match lk E s with
   |some (.bool true)=>match b with
    |true=>Jb t N o E
    |false=>Bz E o.dst
   |some (.bool false)=>match b with
    |false=>Jb t N o E
    |true=>Bz E o.dst
   |_=>none
  |none=>none
section
variable{P:Program}{t:mz}{N:Nat}{all:Array Oper}{o:Oper}{os:List Oper}{E E':Env}{Γ:List aj}{K:Env→List aj→Prop}
theorem oM{dst ty pos after guard}{op:Op}{v:Value}(hf:eL P t)(h:qi t E op=some v):Reads P N E Γ ⟨dst,op,ty,pos,after,guard⟩ v:=by
 unfold qi at h
 split at h
 ·
  exact .move h
 ·
  exact .assign h
 ·
  split at h
  ·
   rename_i hx;cases h;exact .nilCheck hx
  ·
   cases h
 ·
  split at h
  ·
   rename_i hx;exact .extract hx h
  ·
   cases h
 ·
  split at h
  ·
   rename_i hx;cases h;exact .not hx
  ·
   cases h
 ·
  split at h
  ·
   rename_i hx;exact .LU hx h
  ·
   rename_i hx;exact .I9 hx h
  ·
   cases h
 ·
  split at h
  ·
   rename_i hx
   split at h
   ·
    rename_i hg;cases h;exact .fieldAddr (hf _ _ _ hg) hx
   ·
    cases h
  ·
   cases h
 ·
  split at h
  ·
   rename_i hx
   split at h
   ·
    rename_i hy
    cases hk:C4 _ _ with
    |false=>rw[hk]at h;cases h
    |true=>
     rw[hk]at h
     have Gs:=C5 hk
     subst Gs
     simp only[cond_true]at h
     unfold LW at h
     split at h<;>cases h
     ·
      exact .NJ hx hy
     ·
      exact .Rp hx hy
     ·
      exact .lt hx hy
     ·
      exact .le hx hy
     ·
      exact .gt hx hy
     ·
      exact .ge hx hy
   ·
    cases h
  ·
   cases h
 ·
  cases h
theorem uk{dst op ty pos after guard}(hf:eL P t)(h:Jb t N ⟨dst,op,ty,pos,after,guard⟩ E=some E')(next:aZ P N all os E' Γ K):aZ P N all (⟨dst,op,ty,pos,after,none⟩::os) E Γ K:=by
 unfold Jb at h
 dsimp only at h
 cases dst with
 |none=>cases h
 |some d=>
  dsimp only at h
  cases hb:Nat.blt d N with
  |false=>rw[hb]at h;cases h
  |true=>
   rw[hb]at h
   simp only[cond_true]at h
   cases hv:qi t E op with
   |none=>rw[hv]at h;cases h
   |some v=>
    rw[hv]at h
    cases h
    exact .rd (oM hf hv) next hb
theorem aZ.step1(hf:eL P t)(h:Gx t N all o E=some E')(next:aZ P N all os E' Γ K):aZ P N all (o::os) E Γ K:=by
 obtain⟨dst,op,ty,pos,after,guard⟩:=o
 unfold Gx at h
 dsimp only at h
 have off:∀{c b:Bool} {g s:Nat},fS all g=some s→lk E s=some (.bool c)→(c==b)=false→Bz E dst=some E'→aZ P N all (⟨dst,op,ty,pos,after,some (g,b)⟩::os) E Γ K:=fun h1 h2 h3 h4=>by
  cases dst with
  |none=>cases h4
  |some d=>
   unfold Bz at h4
   dsimp only at h4
   cases hl:lk E d with
   |some _=>rw[hl]at h4;cases h4
   |none=>
    rw[hl]at h4
    cases h4
    exact .off h1 h2 h3 next fun d' e=>by cases e;exact hl
 cases guard with
 |none=>exact uk hf h next
 |some gb=>
  obtain⟨g,b⟩:=gb
  dsimp only at h
  cases hg:fS all g with
  |none=>rw[hg]at h;cases h
  |some s=>
   rw[hg]at h
   dsimp only at h
   split at h
   ·
    rename_i hl
    cases b with
    |true=>exact .on hg hl (uk hf h next)
    |false=>exact off hg hl rfl h
   ·
    rename_i hl
    cases b with
    |false=>exact .on hg hl (uk hf h next)
    |true=>exact off hg hl rfl h
   ·
    cases h
def z6(t:mz)(N:Nat)(all:Array Oper):Nat→List Oper→Env→Option (List Oper×Env)
 |0,os,E=>some (os,E)
 |_+1,[],_=>none
 |n+1,o::os,E=>match Gx t N all o E with
  |some E'=>z6 t N all n os E'
  |none=>none
theorem aZ.LX(hf:eL P t):∀(n:Nat) {os Gf:List Oper} {E E':Env},z6 t N all n os E=some (Gf,E')→aZ P N all Gf E' Γ K→aZ P N all os E Γ K
 |0,_,_,_,_,h,next=>by cases h;exact next
 |_+1,[],_,_,_,h,_=>by cases h
 |n+1,o::os,_,E,_,h,next=>by
  unfold z6 at h
  cases hs:Gx t N all o E with
  |none=>rw[hs]at h;cases h
  |some E1=>
   rw[hs]at h
   exact .step1 hf hs (aZ.LX hf n h next)
theorem aZ.go(hf:eL P t)(n:Nat){os Gf:List Oper}{E E':Env}(next:aZ P N all Gf E' Γ K)(h:z6 t N all n os E=some (Gf,E'):=by rfl):aZ P N all os E Γ K:=aZ.LX hf n h next
end
inductive St where
 |r (k:List Item) (E:Env)
 |o (k:List Item) (all:Array Oper) (os:List Oper) (E:Env)
def NK(t:mz)(N:Nat):St→Option St
 |.o k _ [] E=>some (.r k E)
 |.o k all (o::os) E=>match Gx t N all o E with
  |some E'=>some (.o k all os E')
  |none=>none
 |.r (.inBlock _::k) E=>some (.r k E)
 |.r (.code .skip::k) E=>some (.r k E)
 |.r (.code (.seq x y)::k) E=>some (.r (.code x::.code y::k) E)
 |.r (.code (.block id c)::k) E=>some (.r (.code c::.inBlock id::k) E)
 |.r (.code (.exit id)::k) E=>match exitTo id k with
  |some k'=>some (.r k' E)
  |none=>none
 |.r (.code (.region _ ops false)::k) E=>some (.o k ops ops.toList E)
 |.r (.code (.cond c x y)::k) E=>match ev E c with
  |some (.bool true)=>some (.r (.code x::k) E)
  |some (.bool false)=>some (.r (.code y::k) E)
  |_=>none
 |_=>none
def sC(t:mz)(N:Nat):Nat→St→Option St
 |0,s=>some s
 |n+1,s=>match NK t N s with
  |some s'=>sC t N n s'
  |none=>none
def den(C:Cx)(Q:Value→List aj→Prop)(Γ:List aj):St→Prop
 |.r k E=>bH C k E Γ Q
 |.o k all os E=>aZ C.P C.fn.ntmps all os E Γ fun E' aI=>bH C k E' aI Q
section
variable{C:Cx}{t:mz}{Q:Value→List aj→Prop}{Γ:List aj}
theorem C6(hf:eL C.P t){s s':St}(h:NK t C.fn.ntmps s=some s')(next:den C Q Γ s'):den C Q Γ s:=by
 unfold NK at h
 split at h
 ·
  cases h;exact aZ.nil next
 ·
  split at h
  ·
   rename_i hs;cases h;exact aZ.step1 hf hs next
  ·
   cases h
 ·
  cases h;exact bH.inBlock next
 ·
  cases h;exact bH.skip next
 ·
  cases h;exact bH.seq next
 ·
  cases h;exact bH.block next
 ·
  split at h
  ·
   rename_i hx;cases h;exact bH.exit hx next
  ·
   cases h
 ·
  cases h;exact bH.region next
 ·
  split at h
  ·
   rename_i hx;cases h;exact bH.I7 hx next
  ·
   rename_i hx;cases h;exact bH.I8 hx next
  ·
   cases h
 ·
  cases h
theorem qj(hf:eL C.P t):∀(n:Nat) {s s':St},sC t C.fn.ntmps n s=some s'→den C Q Γ s'→den C Q Γ s
 |0,_,_,h,next=>by cases h;exact next
 |n+1,s,_,h,next=>by
  unfold sC at h
  cases hs:NK t C.fn.ntmps s with
  |none=>rw[hs]at h;cases h
  |some s1=>rw[hs]at h;exact C6 hf hs (qj hf n h next)
variable{P:Program}{f:FuncId}{fn:Func}{k k':List Item}{all Gy:Array Oper}{os Gf:List Oper}{E E':Env}
theorem bH.go(hf:eL P t)(n:Nat)(next:bH ⟨P,f,fn⟩ k' E' Γ Q)(h:sC t fn.ntmps n (.r k E)=some (.r k' E'):=by rfl):bH ⟨P,f,fn⟩ k E Γ Q:=qj (C:=⟨P,f,fn⟩) hf n (s:=.r k E) h next
theorem bH.ax(hf:eL P t)(n:Nat)(next:aZ P fn.ntmps Gy Gf E' Γ fun E' aI=>bH ⟨P,f,fn⟩ k' E' aI Q)(h:sC t fn.ntmps n (.r k E)=some (.o k' Gy Gf E'):=by rfl):bH ⟨P,f,fn⟩ k E Γ Q:=qj (C:=⟨P,f,fn⟩) hf n (s:=.r k E) h next
theorem aZ.aH(hf:eL P t)(n:Nat)(next:bH ⟨P,f,fn⟩ k' E' Γ Q)(h:sC t fn.ntmps n (.o k all os E)=some (.r k' E'):=by rfl):aZ P fn.ntmps all os E Γ fun E' aI=>bH ⟨P,f,fn⟩ k E' aI Q:=qj (C:=⟨P,f,fn⟩) hf n (s:=.o k all os E) h next
theorem aZ.ax(hf:eL P t)(n:Nat)(next:aZ P fn.ntmps Gy Gf E' Γ fun E' aI=>bH ⟨P,f,fn⟩ k' E' aI Q)(h:sC t fn.ntmps n (.o k all os E)=some (.o k' Gy Gf E'):=by rfl):aZ P fn.ntmps all os E Γ fun E' aI=>bH ⟨P,f,fn⟩ k E' aI Q:=qj (C:=⟨P,f,fn⟩) hf n (s:=.o k all os E) h next
end
def aB(l:List Value):Prop:=∀v∈l,v.oneCell'=true
theorem aB.nil:aB []:=fun _ h=>by cases h
theorem aB.cons{v l}(h:v.oneCell'=true)(k:aB l):aB (v::l):=fun u hu=>by
 rcases List.mem_cons.1 hu with rfl|hu
 ·
  exact h
 ·
  exact k u hu
theorem aB.append{l m}(h:aB l)(k:aB m):aB (l++m):=fun u hu=>by
 rcases List.mem_append.1 hu with hu|hu
 ·
  exact h u hu
 ·
  exact k u hu
theorem aB.left{l m}(h:aB (l++m)):aB l:=fun u hu=>h u (List.mem_append_left _ hu)
theorem aB.right{l m}(h:aB (l++m)):aB m:=fun u hu=>h u (List.mem_append_right _ hu)
theorem aB.take{l}(h:aB l)(n:Nat):aB (l.take n):=fun u hu=>h u (List.mem_of_mem_take hu)
theorem aB.drop{l}(h:aB l)(n:Nat):aB (l.drop n):=fun u hu=>h u (List.mem_of_mem_drop hu)
theorem aB.of{l:List Value}(h:l.all Value.oneCell'=true):aB l:=fun v hv=>List.all_eq_true.1 h v hv
theorem aB.map{α:Type}{f:α→Value}(l:List α)(h:∀x,(f x).oneCell'=true):aB (l.map f):=fun v hv=>by
 obtain⟨x,_,rfl⟩:=List.mem_map.1 hv;exact h x
theorem aB.flatMap{α:Type}{f:α→List Value}(l:List α)(h:∀x∈l,aB (f x)):aB (l.flatMap f):=fun v hv=>by
 obtain⟨x,hx,Oj⟩:=List.mem_flatMap.1 hv;exact h x hx v Oj
def an(b:Nat)(l:List Value)(e:TypeId):aj:=fun h=>aB l∧∃fz:Nat×Nat,(fz.1=fz.2∨l.length≤fz.1)∧h b=some (false,.cells l.toArray e fz)
theorem Sat.an{A w b l e Γ}(s:Sat A w (Sp.an b l e::Γ)):aB l∧∃fz:Nat×Nat,(fz.1=fz.2∨l.length≤fz.1)∧w.heap[b]?=some (.cells l.toArray e fz)∧Sat A w (Sp.own b (.cells l.toArray e fz)::Γ):=by
 obtain⟨a,h,f,h1,h2,ok,l1,l2,⟨ho,fz,ul,e⟩,t⟩:=s
 exact⟨ho,fz,ul,f b _ (l1 b _ e),a,h,f,h1,h2,ok,l1,l2,e,t⟩
theorem Sat.iy{A w b l e Γ}{fz:Nat×Nat}(s:Sat A w (Sp.own b (.cells l.toArray e fz)::Γ))(ho:aB l)(ul:fz.1=fz.2∨l.length≤fz.1):Sat A w (Sp.an b l e::Γ):=by
 obtain⟨a,h,f,h1,h2,ok,l1,l2,e,t⟩:=s
 exact⟨a,h,f,h1,h2,ok,l1,l2,⟨ho,fz,ul,e⟩,t⟩
theorem cell_of{w:World}{b o:Nat}{l:List Value}{e fz}(h:w.heap[b]?=some (.cells l.toArray e fz)):w.cell? ⟨b,o,none⟩=l[o]?:=by
 simp[World.cell?,h]
def aL(b o:Nat)(cs:List Value)(w:World):Prop:=(∀i v,cs[i]?=some v→w.cell? ⟨b,o+i,none⟩=some v)∧aB cs
theorem aL.sub{b o cs w}(h:aL b o cs w)(i n:Nat):aL b (o+i) ((cs.drop i).take n) w:=by
 refine⟨fun j v hv=>?_,(h.2.drop i).take n⟩
 have h1:cs[i+j]?=some v:=by
  by_cases hj:j<n
  ·
   simpa[List.getElem?_take,hj]using hv
  ·
   simp[List.getElem?_take,hj]at hv
 have:=h.1 (i+j) v h1
 rwa[←Nat.add_assoc]at this
theorem aL.one{b o v w}{cs:List Value}(h:aL b o cs w){i:Nat}(hi:cs[i]?=some v):aL b (o+i) [v] w:=
 ⟨fun j u hu=>by
  cases j with
  |zero=>simp at hu;subst hu;exact h.1 i v hi
  |succ j=>simp at hu,fun u hu=>by simp at hu;subst hu;exact h.2 _ (List.mem_of_getElem? hi)⟩
theorem af.an{Γ aI b l e}(p:bD (Sp.an b l e) Γ aI):af Γ (aL b 0 l):=fun _ _ s=>by
 obtain⟨ho,fz,_,hh,_⟩:=(s.map fun _=>p.bh).an
 exact⟨fun i v hv=>by rw[cell_of hh];simpa using hv,ho⟩
theorem af.Jc{Γ aI b l e}(p:bD (Sp.an b l e) Γ aI){o:Nat}{cs:List Value}(h:∀i v,cs[i]?=some v→l[o+i]?=some v):af Γ (aL b o cs):=fun _ _ s=>by
 obtain⟨ho,fz,_,hh,_⟩:=(s.map fun _=>p.bh).an
 refine⟨fun i v hv=>by rw[cell_of hh];exact h i v hv,fun u hu=>?_⟩
 obtain⟨i,hi,rfl⟩:=List.mem_iff_getElem.1 hu
 exact ho _ (List.mem_of_getElem? (h i _ (List.getElem?_eq_getElem hi)))
def aD(a:Option Addr)(cs:List Value)(w:World):Prop:=cs=[]∨∃b o,a=some ⟨b,o,none⟩∧aL b o cs w
section
variable{P:Program}{N:Nat}{E:Env}{Γ aI:List aj}{dst:Option Tmp}{ty:TypeId}{pos:String}{after:Array Edge}{guard:Option (Nat×Bool)}
theorem Reads.load{t x v}{b o:Nat}(hn:cn P t)(hx:ev E x=some (.pointer (some ⟨b,o,none⟩)))(hk:af Γ (aL b o [v])):
  Reads P N E Γ ⟨dst,.load t x,ty,pos,after,guard⟩ v:=fun A w a hf hs=>by
 have h:=(hk A w hs).1 0 v rfl
 simp only[Nat.add_zero]at h
 simp[execOp,hf.eval hx,Instr.loadAt,Instr.sureAddr,loadVar,hn.run,h]
theorem Reads.fT{t x}{b o n:Nat}{cs:List Value}(hn:iM P t)(hs:TS P t n)(hx:ev E x=some (.pointer (some ⟨b,o,none⟩)))(hl:cs.length=n)(hk:af Γ (aL b o cs)):
  Reads P N E Γ ⟨dst,.load t x,ty,pos,after,guard⟩ (.agg cs.toArray):=fun A w a hf lu=>by
 have h:=(hk A w lu).1
 have hr:=run_loadCells_list (P:=P) w ⟨b,o,none⟩ cs (fun j v hv=>by rw[cA];exact h j v hv)
 subst hl
 simp[execOp,hf.eval hx,Instr.loadAt,Instr.sureAddr,loadVar,hn.run,hs.run,hr]
theorem Reads.ld{t x v}{b o:Nat}{l:List Value}{e:TypeId}(hn:cn P t)(hx:ev E x=some (.pointer (some ⟨b,o,none⟩)))(p:bD (an b l e) Γ aI)(hv:l[o]?=some v):
  Reads P N E Γ ⟨dst,.load t x,ty,pos,after,guard⟩ v:=
 .load hn hx (.Jc p fun i u hu=>by
  cases i with
  |zero=>simp at hu;subst hu;exact hv
  |succ i=>simp at hu)
theorem Reads.j4{t x}{b n:Nat}{l:List Value}{e:TypeId}(hn:iM P t)(hs:TS P t n)(hx:ev E x=some (.pointer (some ⟨b,0,none⟩)))(p:bD (an b l e) Γ aI)(hl:l.length=n):
  Reads P N E Γ ⟨dst,.load t x,ty,pos,after,guard⟩ (.agg l.toArray):=.fT hn hs hx hl (.an p)
theorem lK(w:World)(b i:Nat)(cs:Array Value)(t:TypeId)(fz:Nat×Nat)(v:Value)(hg:w.heap[b]?=some (.cells cs t fz)):
  (w.setCell ⟨b,i,none⟩ v).heap[b]?=some (.cells (cs.setIfInBounds i v) t fz):=by
 simp[World.setCell,Array.getElem?_modify,hg]
theorem vM(l:List Value)(o:Nat)(v:Value)(r:List Value)(h:o<l.length):splice (l.set o v) (o+1) r=splice l o (v::r):=by
 obtain⟨A,x,B,rfl,rfl⟩:∃A x B,l=A++x::B∧A.length=o:=⟨l.take o,l[o],l.drop (o+1),by simp,by simp;omega⟩
 have e1:(A++x::B).set A.length v=A++v::B:=by simp
 rw[e1]
 unfold splice
 have e2:∀y:Value,List.drop (A.length+1+r.length) (A++y::B)=B.drop r.length:=fun y=>by
  rw[List.drop_append,List.drop_eq_nil_of_le (by omega),show A.length+1+r.length-A.length=r.length+1 from by omega];simp
 have e3:List.take (A.length+1) (A++v::B)=A++[v]:=by
  rw[List.take_append,List.take_of_length_le (by omega),show A.length+1-A.length=1 from by omega];simp
 have e4:List.take A.length (A++x::B)=A:=by simp
 have e5:A.length+(v::r).length=A.length+1+r.length:=by simp;omega
 rw[e2,e3,e4,e5,e2];simp
theorem gl(b:Nat):∀(vs:List Value) (o:Nat) (w:World) (l:List Value) (t:TypeId) (fz:Nat×Nat),w.heap[b]?=some (.cells l.toArray t fz)→o+vs.length≤l.length→
  (w.setCells b o vs).heap[b]?=some (.cells (splice l o vs).toArray t fz)∧∀k,k≠b→(w.setCells b o vs).heap[k]?=w.heap[k]?
 |[],o,w,l,t,fz,h,_=>⟨by simpa[World.setCells,splice]using h,fun _ _=>rfl⟩
 |v::r,o,w,l,t,fz,h,hl=>by
  simp only[List.length_cons]at hl
  have h1:(w.setCell ⟨b,o,none⟩ v).heap[b]?=some (.cells (l.set o v).toArray t fz):=by
   rw[lK w b o l.toArray t fz v h];simp
  obtain⟨a1,a2⟩:=gl b r (o+1) _ (l.set o v) t fz h1 (by simp;omega)
  refine⟨?_,fun k hk=>(a2 k hk).trans (heap_setCell_other w ⟨b,o,none⟩ k v hk)⟩
  simp only[World.setCells,a1]
  congr 3
  exact vM l o v r (by omega)
theorem gO(b:Nat):∀(vs:List Value) (o:Nat) (w:World),ye (w.setCells b o vs)=ye w
 |[],_,_=>rfl
 |_::r,o,_=>(gO b r (o+1) _).trans rfl
theorem kf{l vs:List Value}(h:aB l)(k:aB vs)(o:Nat):aB (splice l o vs):=(h.take o).append (k.append (h.drop _))
theorem qm{l:List Value}{o:Nat}{v:Value}(h:o<l.length):splice l o [v]=l.set o v:=by
 unfold splice
 rw[List.set_eq_take_append_cons_drop];simp[h]
theorem lz{A w b l e F}{vs:List Value}{o:Nat}(s:Sat A w (an b l e::F))(hl:o+vs.length≤l.length)(hv:aB vs):
  ∃w',(storeCells ⟨b,o,none⟩ vs).run P w=.ok () w'∧Sat A w' (an b (splice l o vs) e::F):=by
 obtain⟨ho,fz,ul,hh,s'⟩:=s.an
 have hr:=run_storeCells_cells (P:=P) b o vs 0 w (fun j hj=>by rw[cell_of hh];simp;omega)
  (fun j hj=>by
   simp only[World.frozen?,hh]
   rcases ul with h|h
   ·
    simp[h]
   ·
    simp;omega) hv
 simp only[Nat.add_zero]at hr
 obtain⟨a1,a2⟩:=gl b vs o w l e fz hh hl
 refine⟨_,hr,?_⟩
 refine Sat.iy (s'.update a1 a2 (gO b vs o w)) (kf ho hv o) ?_
 rcases ul with h|h
 ·
  exact .inl h
 ·
  right;rw[length_splice _ _ _ hl];exact h
theorem dU.C7{t x y v}{b o:Nat}{l vs:List Value}{e:TypeId}(hs:TS P t vs.length)(hx:ev E x=some (.pointer (some ⟨b,o,none⟩)))(hy:ev E y=some v)(hc:v.cells.toList=vs)(p:bD (an b l e) Γ aI)
  (hl:o+vs.length≤l.length) (hv:aB vs):dU P N E Γ ⟨dst,.store t x y,ty,pos,after,guard⟩ fun _ cz=>cz=an b (splice l o vs) e::aI:=by
 intro A F w a nx Z hf cv hn
 have jR:Sat A w (an b l e::(aI++F)):=cv.map fun _=>(p.app F).bh
 obtain⟨w',hr,lu⟩:=lz (P:=P) jR hl hv
 have jS:v.cells.size=vs.length:=by rw[←hc];simp
 unfold Oper.wp
 simp[execOp,hf.eval hx,hf.eval hy,Instr.storeAt,Instr.sureAddr,storeVar,hs.run,jS,hc,hr]
 exact hn _ _ w' rfl lu
theorem BA{v:Value}(h:v.oneCell'=true):v.cells.toList=[v]:=by cases v<;>first|rfl|simp[Value.oneCell']at h
theorem dU.store{t x y v}{b o:Nat}{l:List Value}{e:TypeId}(hs:TS P t 1)(hx:ev E x=some (.pointer (some ⟨b,o,none⟩)))(hy:ev E y=some v)(p:bD (an b l e) Γ aI)
  (hv:v.oneCell'=true) (hl:o<l.length):dU P N E Γ ⟨dst,.store t x y,ty,pos,after,guard⟩ fun _ cz=>cz=an b (l.set o v) e::aI:=by
 have:=dU.C7 (N:=N) (Γ:=Γ) (dst:=dst) (ty:=ty) (pos:=pos) (after:=after) (guard:=guard) (vs:=[v]) hs hx hy (BA hv) p (by simp;omega) (.cons hv .nil)
 rwa[qm hl]at this
theorem dU.storeAll{t x y v}{b n:Nat}{l vs:List Value}{e:TypeId}(hs:TS P t n)(hx:ev E x=some (.pointer (some ⟨b,0,none⟩)))(hy:ev E y=some v)(hc:v.cells.toList=vs)(p:bD (an b l e) Γ aI)
  (hl:(vs.length,l.length)=(n,n)) (hv:aB vs):dU P N E Γ ⟨dst,.store t x y,ty,pos,after,guard⟩ fun _ cz=>cz=an b vs e::aI:=by
 simp only[Prod.mk.injEq]at hl
 obtain⟨h1,h2⟩:=hl
 have:=dU.C7 (N:=N) (Γ:=Γ) (dst:=dst) (ty:=ty) (pos:=pos) (after:=after) (guard:=guard) (vs:=vs) (by rw[h1];exact hs) hx hy hc p (by omega) hv
 have e1:splice l 0 vs=vs:=by simp[splice];omega
 rwa[e1]at this
theorem dU.C8{op}{v:Value}{l:List Value}{e:TypeId}(Rs:∀a,Fr N E a→∀w,(execOp a.eval ⟨dst,op,ty,pos,after,guard⟩).run P w=((newVar e v).run P w).andThen fun ad w'=>.ok (.value (.pointer (some ad))) w')
  (hc:v.cells.toList=l) (hl:aB l):dU P N E Γ ⟨dst,op,ty,pos,after,guard⟩ fun u cz=>∃b,u=.pointer (some ⟨b,0,none⟩)∧cz=an b l e::Γ:=by
 intro A F w a nx Z hf cv hn
 unfold Oper.wp
 rw[Rs a hf]
 have Rt:v.cells=l.toArray:=by rw[←hc]
 simp[newVar,newRow,Oper.upon,Rt]
 refine hn _ _ _ ⟨w.heap.size,rfl,rfl⟩ ?_
 exact Sat.iy (fz:=(0,0)) (cv.alloc _) hl (.inl rfl)
theorem dU.alloc{e s b z}{l:List Value}(hi:TI P e s b z)(hc:z.cells.toList=l)(hl:aB l):dU P N E Γ ⟨dst,.alloc e,ty,pos,after,guard⟩ fun u cz=>∃b,u=.pointer (some ⟨b,0,none⟩)∧cz=an b l e::Γ:=
 .C8 (v:=z) (fun a _ w=>by simp[execOp,Instr.alloc,hi.zero]) hc hl
theorem dU.box{e x v}{l:List Value}(hx:ev E x=some v)(hc:v.cells.toList=l)(hl:aB l):dU P N E Γ ⟨dst,.box e x,ty,pos,after,guard⟩ fun u cz=>∃b,u=.pointer (some ⟨b,0,none⟩)∧cz=an b l e::Γ:=
 .C8 (v:=v) (fun a hf w=>by simp[execOp,Instr.box,hf.eval hx]) hc hl
theorem Reads.build{t v}{parts:Array (Nat×Operand)}{vs:List Value}(hp:yq E (parts.toList.map (·.2))=some vs)
  (h:∀w,(Instr.build t (((parts.toList.map (·.1)).zip vs).toArray)).run P w=.ok v w):Reads P N E Γ ⟨dst,.build t parts,ty,pos,after,guard⟩ v:=fun _ w a hf _=>by
 have e1:=hf.sN hp
 have e2:(parts.map fun(i,x)=>(i,a.eval x))=((parts.toList.map (·.1)).zip vs).toArray:=by
  apply Array.ext'
  rw[←e1]
  simp only[Array.toList_map]
  generalize parts.toList=ps
  induction ps with
  |nil=>rfl
  |cons p ps ih=>simp only[List.map_cons,List.zip_cons_cons,ih]
 simp only[execOp]
 rw[e2]
 simp[h]
def arr(e s:Nat)(a:Option Addr)(cap:Nat)(cs:List Value):aj:=fun h=>
 (cap=0∧cs=[])∨∃b pre post,a=some ⟨b,pre.length,none⟩∧cs.length+post.length=cap*s∧an b (pre++(cs++post)) e h
theorem Sat.vO{A w e s Γ}{a:Option Addr}(h:Sat A w Γ):Sat A w (Sp.arr e s a 0 []::Γ):=by
 obtain⟨am,k,f,t⟩:=h
 exact⟨am,k,f,fun _=>none,k,fun _=>.inl rfl,fun _ _ e=>by simp at e,.refl _,.inl ⟨rfl,rfl⟩,t⟩
theorem aZ.cq{ops os K}(e s:Nat)(a:Option Addr)(n:aZ P N ops os E (arr e s a 0 []::Γ) K):aZ P N ops os E Γ K:=fun A F w a Z hf hs hz=>n A F w a Z hf hs.vO hz
theorem bH.cq{C:Cx}{k Q}(e s:Nat)(a:Option Addr)(n:bH C k E (arr e s a 0 []::Γ) Q):bH C k E Γ Q:=fun A F w a hf hs=>n A F w a hf hs.vO
theorem bh.C9{e s b o cap cs h}(dx:0<cap∨0<cs.length)(H:arr e s (some ⟨b,o,none⟩) cap cs h):∃x:List Value×List Value,(x.1.length=o∧cs.length+x.2.length=cap*s)∧bh [an b (x.1++(cs++x.2)) e] h:=by
 rcases H with⟨h1,h2⟩|⟨b',pre,post,h1,h2,h3⟩
 ·
  subst h1 h2;simp at dx
 ·
  cases h1
  exact⟨(pre,post),⟨rfl,h2⟩,h,fun _=>none,fun _=>.inr (.inl rfl),.refl _,fun _ _ e=>by simp at e,h3,trivial⟩
theorem kg{b l e}{h k:Hp}(hl:Hp.le h k):an b l e h→an b l e k:=fun⟨a,fz,c,d⟩=>⟨a,fz,c,hl b _ d⟩
theorem bh.ik{e s b cap}{pre cs post:List Value}{h}(h2:cs.length+post.length=cap*s)(H:bh [an b (pre++(cs++post)) e] h):arr e s (some ⟨b,pre.length,none⟩) cap cs h:=by
 obtain⟨h1,_,_,l,_,H',_⟩:=H
 exact .inr ⟨b,pre,post,rfl,h2,kg l H'⟩
theorem Sat.um{A w e s a cap cs Γ}(H:Sat A w (arr e s a cap cs::Γ)):aD a cs w:=by
 obtain⟨am,h,f,h1,h2,ok,l1,l2,H',t⟩:=H
 rcases H' with⟨_,h3⟩|⟨b,pre,post,e1,e2,e3⟩
 ·
  exact .inl h3
 ·
  obtain⟨ho,fz,ul,e4⟩:=e3
  refine .inr ⟨b,pre.length,e1,fun i v hv=>?_,ho.right.left⟩
  have hh:=f b _ (l1 b _ e4)
  rw[cell_of hh]
  have hi:i<cs.length:=(List.getElem?_eq_some_iff.1 hv).1
  rw[List.getElem?_append_right (by omega),List.getElem?_append_left (by omega)]
  simpa using hv
theorem af.arr{e s a cap cs}(p:bD (Sp.arr e s a cap cs) Γ aI):af Γ (aD a cs):=fun _ _ h=>(h.map fun _=>p.bh).um
theorem Sat.jz{A w e s a cap cs Γ}(H:Sat A w (arr e s a cap cs::Γ)):cs.length≤cap*s∧aB cs:=by
 obtain⟨am,h,f,h1,h2,ok,l1,l2,H',t⟩:=H
 rcases H' with⟨h4,h3⟩|⟨b,pre,post,e1,e2,e3⟩
 ·
  subst h3;exact⟨by simp,.nil⟩
 ·
  exact⟨by omega,e3.1.right.left⟩
theorem arr.shrink{e s a cap cs ds h}(H:arr e s a cap (cs++ds) h):arr e s a cap cs h:=by
 rcases H with⟨h2,h3⟩|⟨b,pre,post,e1,e2,e3⟩
 ·
  exact .inl ⟨h2,(List.append_eq_nil_iff.1 h3).1⟩
 ·
  exact .inr ⟨b,pre,ds++post,e1,by simp at e2⊢;omega,by simpa[List.append_assoc]using e3⟩
structure mA(P:Program)(s:Nat)(t:TypeId)(v:Value)(m:Nat)(ys:List Value)(w:World):Prop where
 src:Src P s t v m ys w
 Ru:Src P s t v m ys w.drew
theorem mA.row{s t e' a m c ys}{w:World}(hu:P.underlying t=some (.slice e'))(hl:ys.length=m*s)(h:aD a ys w)(hm:a=none→m=0):mA P s t (.slice a m c) m ys w:=by
 rcases h with rfl|⟨b,o,rfl,h⟩
 ·
  have hz:∀w:World,(Builtin.firstCells s m (.slice a m c)).run P w=.ok #[] w:=fun w=>by
   cases a with
   |none=>exact run_firstCells_none w s m m c
   |some p=>
    have:=run_firstCells_some (P:=P) w s m p m c [] hl (by simp)
    exact this
  have one:∀w,Src P s t (.slice a m c) m [] w:=fun w=>⟨.inl ⟨e',hu⟩,fun _=>rfl,hz w,hz w.drew,hl,fun _ h=>by cases h⟩
  exact⟨one w,one w.drew⟩
 ·
  have one:∀w',(∀x,w'.cell? x=w.cell? x)→Src P s t (.slice (some ⟨b,o,none⟩) m c) m ys w':=fun w' hw=>
   Src.ofSlice w' hu ⟨b,o,none⟩ m c ys hl (fun j u hj=>by rw[cA,hw];exact h.1 j u hj) h.2
  exact⟨one w fun _=>rfl,one w.drew fun x=>World.cell?_drew w x⟩
theorem mA.string{t}{s:ByteArray}{w:World}(hu:P.underlying t=some .string):mA P 1 t (.string s) s.size (byteCells s) w:=⟨Src.ofString w hu s,Src.ofString w.drew hu s⟩
theorem Sat.drew{A w Γ}(s:Sat A w Γ):Sat A w.drew Γ:=s.same rfl rfl
theorem fD{z:Array Value}(h:aB z.toList)(n:Nat):aB (Builtin.zeroCells z n).toList:=by
 intro v hv
 simp only[Builtin.zeroCells,Array.toList_map,List.mem_map]at hv
 obtain⟨i,hi,rfl⟩:=hv
 by_cases hz:z.size=0
 ·
  simp[hz]at hi
 ·
  have cO:i%z.size<z.size:=Nat.mod_lt _ (by omega)
  rw[getElem!_pos z _ cO]
  exact h _ (by simp)
theorem dU.append{args:Array Operand}{ts:Array TypeId}{x y t tx e s o7 z}{a:Option Addr}{n m cap:Nat}{cs ys:List Value}{src:Value}(ha:args=#[x,y])(o6:ts=#[t,tx])(hu:P.underlying t=some (.slice e))(hi:TI P e s o7 z)
  (hz:z.cells.size=s) (Gz:aB z.cells.toList) (z7:0<s) (mi:0<o7) (hx:ev E x=some (.slice a n cap)) (hy:ev E y=some src) (p:bD (arr e s a cap cs) Γ aI) (hn:cs.length=n*s) (Ol:af Γ (mA P s tx src m ys))
  (hbound:(n+m)*o7≤140737488355328):
  dU P N E Γ ⟨dst,.call ⟨.builtin .append,args,ts⟩,ty,pos,after,guard⟩ fun u cz=>∃a' LY,u=.slice a' (n+m) LY∧(a'=none→n+m=0)∧cz=arr e s a' LY (cs++ys)::aI:=by
 subst ha o6
 intro A F w ac nx Z hf cv ki
 have hS:=Ol A w cv.left
 have jR:Sat A w (arr e s a cap cs::(aI++F)):=cv.map fun _=>(p.app F).bh
 obtain⟨i,uo,jS,JC,LZ⟩:=hi
 subst jS JC
 have L0:=hS.src.newsLen
 have run_eq:∀v' w',(Builtin.append_ #[t,tx] ty #[.slice a n cap,src]).run P w=.ok v' w'→(execOp ac.eval ⟨dst,.call ⟨.builtin .append,#[x,y],#[t,tx]⟩,ty,pos,after,guard⟩).run P w=.ok (.value v') w':=fun v' w' h=>by
  simp[execOp,resolve,invoke,builtin,hf.eval hx,hf.eval hy,h]
 have Om:(((n+m:Nat):Int))≤9223372036854775807:=by
  have:n+m≤(n+m)*i.bytes:=Nat.le_mul_of_pos_right _ mi
  omega
 unfold Oper.wp
 by_cases fu:n+m≤cap
 ·
  -- there is room
  obtain⟨am,h,f,h1,h2,ok,l1,l2,H',tt⟩:=id jR
  rcases H' with⟨e2,e3⟩|⟨b,pre,post,e1,e2,e3⟩
  ·
   subst e2 e3
   have z8:n=0:=by omega
   have L2:m=0:=by omega
   subst z8 L2
   have Qa:ys=[]:=List.eq_nil_of_length_eq_zero (by rw[L0];simp)
   subst Qa
   have hr:(Builtin.append_ #[t,tx] ty #[.slice a 0 0,src]).run P w=.ok (.slice a 0 0) w:=by
    have h3:=hS.src.cells
    cases a with
    |none=>rcases hS.src.kind with⟨e',hk⟩|hk<;>simp[Builtin.append_,run_underlying hu,run_underlying hk,sizeOf,typeInfo,uo,hS.src.len,h3]
    |some q=>rcases hS.src.kind with⟨e',hk⟩|hk<;>simp[Builtin.append_,run_underlying hu,run_underlying hk,sizeOf,typeInfo,uo,hS.src.len,h3,storeCells]
   rw[run_eq _ _ hr]
   exact ki _ _ w ⟨a,0,rfl,fun _=>rfl,rfl⟩ (by simpa using jR)
  ·
   subst e1
   have hh:=f b _ (l1 b _ e3.2.choose_spec.2)
   have s2:Sat A w (an b (pre++(cs++post)) e::(aI++F)):=⟨am,h,f,h1,h2,ok,l1,l2,e3,tt⟩
   have hlen:(pre.length+n*i.size)+ys.length≤(pre++(cs++post)).length:=by
    have:(n+m)*i.size≤cap*i.size:=Nat.mul_le_mul_right _ fu
    rw[Nat.add_mul]at this
    simp;omega
   obtain⟨ho,fz,ul,On,s3⟩:=s2.an
   have hr:=run_append_room_src (P:=P) w t tx ty e i hu uo b pre.length n cap src m ys hS.src fu
    (fun j hj=>by rw[cell_of On];simp at hlen⊢;omega)
    (fun j hj=>by
     simp only[World.frozen?,On]
     rcases ul with h|h
     ·
      simp[h]
     ·
      simp at h hlen⊢;omega)
   rw[run_eq _ _ hr]
   obtain⟨a1,a2⟩:=gl b ys (pre.length+n*i.size) w _ e fz On hlen
   have s4:=Sat.iy (s3.update a1 a2 (gO b ys _ w)) (kf ho hS.src.one _) (by
    rcases ul with h|h
    ·
     exact .inl h
    ·
     right;rw[length_splice _ _ _ hlen];exact h)
   refine ki _ _ _ ⟨_,cap,rfl,fun h=>(by cases h),rfl⟩ ?_
   refine Sat.close (B:=[an b (pre++((cs++ys)++post.drop ys.length)) e]) (fun h' H=>?_) ?_
   ·
    exact bh.ik (by simp at hlen⊢;omega) H
   ·
    have:splice (pre++(cs++post)) (pre.length+n*i.size) ys=pre++((cs++ys)++post.drop ys.length):=by
     unfold splice
     rw[←hn,←List.append_assoc pre cs post,←List.length_append,List.take_left,List.drop_append,List.drop_eq_nil_of_le (by omega)]
     have:(pre++cs).length+ys.length-(pre++cs).length=ys.length:=by omega
     simp only[this,List.nil_append,List.append_assoc]
    rw[this]at s4
    exact s4
 ·
  -- a new row
  have hg:cap<n+m:=by omega
  have hold:(Builtin.firstCells i.size n (.slice a n cap)).run P w.drew=.ok cs.toArray w.drew:=by
   rcases jR.um with h0|⟨b,o,h0,h3⟩
   ·
    subst h0
    have z8:n=0:=by
     rcases Nat.mul_eq_zero.1 (hn.symm.trans (by simp):n*i.size=0)with h|h<;>omega
    subst z8
    cases a with
    |none=>exact run_firstCells_none w.drew i.size 0 0 cap
    |some q=>exact run_firstCells_some (P:=P) w.drew i.size 0 q 0 cap [] (by simp) (by simp)
   ·
    subst h0
    exact run_firstCells_some (P:=P) w.drew i.size n ⟨b,o,none⟩ n cap cs hn (fun j v hv=>by rw[cA,World.cell?_drew];exact h3.1 j v hv)
  have hr:=run_append_grow_src (P:=P) w t tx ty e i z hu uo LZ a n cap cs hold src m ys hS.src hg Om (growslice_fits hg hbound)
  have e5:((cs++ys).toArray++Builtin.zeroCells z.cells (grownCap w (n+m) cap e-(n+m)))=((cs++ys)++(Builtin.zeroCells z.cells (grownCap w (n+m) cap e-(n+m))).toList).toArray:=by
   apply Array.ext';simp
  rw[e5]at hr
  rw[run_eq _ _ hr]
  refine ki _ _ _ ⟨_,_,rfl,fun h=>(by cases h),rfl⟩ ?_
  have yg:=grownCap_ge w (n+m) cap e
  have Da:=jR.jz.2
  have s4:=Sat.iy (fz:=(0,0)) ((jR.drop.drew (w:=w)).alloc (.cells ((cs++ys)++(Builtin.zeroCells z.cells (grownCap w (n+m) cap e-(n+m))).toList).toArray e)) ((Da.append hS.src.one).append (fD Gz _)) (.inl rfl)
  show Sat A _ (_::(aI++F))
  refine Sat.close (Γ:=aI++F) (B:=[an w.heap.size ([]++((cs++ys)++(Builtin.zeroCells z.cells (grownCap w (n+m) cap e-(n+m))).toList)) e]) (fun h' H=>?_) (by rw[List.nil_append];exact s4)
  refine bh.ik (pre:=[]) ?_ H
  simp[size_zeroCells,hz,hn,L0]
  rw[←Nat.add_mul,←Nat.add_mul];congr 1;omega
end
section
variable{P:Program}{N:Nat}{E:Env}{Γ aI:List aj}{dst:Option Tmp}{ty:TypeId}{pos:String}{after:Array Edge}{guard:Option (Nat×Bool)}
theorem dU.call{fo:Operand}{args:Array Operand}{ts:Array TypeId}{f:FuncId}{first cap:Array Value}{vs:List Value}{mj:List aj}{Q:Value→List aj→Prop}(GA:ev E fo=some (.func (.func f) first cap))
  (ha:yq E args.toList=some vs) (p:az mj Γ aI) (h:Gt P f (first.toList++(vs++cap.toList)) mj Q):
  dU P N E Γ ⟨dst,.call ⟨.value fo,args,ts⟩,ty,pos,after,guard⟩ fun v cz=>∃fC,Q v fC∧cz=fC++aI:=by
 intro A F w a nx Z hf cv hn
 obtain⟨⟨fn,C2,L3,L4⟩,L5⟩:=h
 have e1:args.map a.eval=vs.toArray:=by
  have:=congrArg List.toArray (hf.sN ha)
  rw[←this,←Array.toList_map]
 have Jd:(first.toList++(vs++cap.toList)).toArray=first++vs.toArray++cap:=by apply Array.ext';simp
 have Db:(execOp a.eval ⟨dst,.call ⟨.value fo,args,ts⟩,ty,pos,after,guard⟩).run P w=.ok (.enter f (first++vs.toArray++cap)) w:=by
  have JD:fn.name≠ "runtime.NumGoroutine" :=by simpa using L3
  have JE:fn.body≠none:=by intro h;simp[h]at L4
  simp[execOp,resolve,hf.eval GA,Deferred.ofValue,invoke,callFunc,C2,JD,JE,e1]
 unfold Oper.wp
 rw[Db,Oper.upon_enter]
 have jR:Sat A w (mj++(aI++F)):=cv.mw p
 have:=L5 A (aI++F) w jR
 rw[Jd]at this
 refine this.mono ?_
 rintro e w' ⟨v,fC,rfl,hq,hs⟩
 exact hn v (fC++aI) w' ⟨fC,hq,rfl⟩ (by rwa[List.append_assoc])
variable{ops:Array Oper}{rest os:List Oper}{K:Env→List aj→Prop}
theorem Reads.slice{t x e s}{a:Option Addr}{n c l h m:Nat}{lo hi mx:Option Operand}(hu:P.underlying t=some (.slice e))(hs:TS P e s)(hx:ev E x=some (.slice a n c))
  (Oo:match mx with|none=>m=c|some o=>∃k,ev E o=some (.int k (m:Int))) (vG:match hi with|none=>h=n∧mx=none|some o=>∃k,ev E o=some (.int k (h:Int))) (yf:match lo with|none=>l=0|some o=>∃k,ev E o=some (.int k (l:Int)))
  (h1:l≤h) (h2:h≤m) (h3:m≤c):
  Reads P N E Γ ⟨dst,.slice t x lo hi mx,ty,pos,after,guard⟩ (.slice (if m=l then a else a.map (·.add (l*s))) (h-l) (m-l)):=fun _ w ac hf _=>by
 have b1:0≤(m:Int):=by omega
 have b2:0≤(h:Int):=by omega
 have b3:0≤(l:Int):=by omega
 cases mx with
 |none=>
  simp only at Oo;subst Oo
  cases hi with
  |none=>
   obtain⟨hh,_⟩:=vG;subst hh
   cases lo with
   |none=>simp only at yf;subst yf;simp[execOp,Instr.sliceAt,Instr.slice,Instr.sliceBounds,hf.eval hx,underlying,hu,hs.run]
   |some o=>
    obtain⟨k,ho⟩:=yf
    simp[execOp,Instr.sliceAt,Instr.slice,Instr.sliceBounds,Instr.sliceBound,asIntOf,hf.eval hx,hf.eval ho,underlying,hu,hs.run,h1]
  |some o2=>
   obtain⟨k2,CR⟩:=vG
   cases lo with
   |none=>simp only at yf;subst yf;simp[execOp,Instr.sliceAt,Instr.slice,Instr.sliceBounds,Instr.sliceBound,asIntOf,hf.eval hx,hf.eval CR,underlying,hu,hs.run,h2]
   |some o=>
    obtain⟨k,ho⟩:=yf
    simp[execOp,Instr.sliceAt,Instr.slice,Instr.sliceBounds,Instr.sliceBound,asIntOf,hf.eval hx,hf.eval ho,hf.eval CR,underlying,hu,hs.run,h1,h2]
 |some o3=>
  obtain⟨k3,Lm⟩:=Oo
  cases hi with
  |none=>exact absurd vG.2 (by simp)
  |some o2=>
   obtain⟨k2,CR⟩:=vG
   cases lo with
   |none=>simp only at yf;subst yf;simp[execOp,Instr.sliceAt,Instr.slice,Instr.sliceBounds,Instr.sliceBound,asIntOf,hf.eval hx,hf.eval CR,hf.eval Lm,underlying,hu,hs.run,h2,h3]
   |some o=>
    obtain⟨k,ho⟩:=yf
    simp[execOp,Instr.sliceAt,Instr.slice,Instr.sliceBounds,Instr.sliceBound,asIntOf,hf.eval hx,hf.eval ho,hf.eval CR,hf.eval Lm,underlying,hu,hs.run,h1,h2,h3]
theorem Dc{z:Array Value}(h:aB z.toList)(hz:0<z.size)(n:Nat):aB (madeCells z n).toList:=by
 intro v hv
 simp only[madeCells,Array.toList_map,List.mem_map]at hv
 obtain⟨i,hi,rfl⟩:=hv
 have cO:i%z.size<z.size:=Nat.mod_lt _ hz
 rw[getElem!_pos z _ cO]
 exact h _ (by simp)
theorem an.arr{b e s c}{cs post:List Value}{h}(hl:cs.length+post.length=c*s)(H:an b (cs++post) e h):Sp.arr e s (some ⟨b,0,none⟩) c cs h:=
 .inr ⟨b,[],post,rfl,hl,by simpa using H⟩
theorem an.GB{b e s c}{cs:List Value}{h}(hl:cs.length=c*s)(H:an b cs e h):Sp.arr e s (some ⟨b,0,none⟩) c cs h:=
 an.arr (post:=[]) (by simpa using hl) (by simpa using H)
theorem dU.buildSlice{t e s o7 z}{n:Nat}{parts:Array (Nat×Operand)}{vs:List Value}{cs:List Value}(hu:P.underlying t=some (.slice e))(hi:TI P e s o7 z)(hp:yq E (parts.toList.map (·.2))=some vs)(hb:n*s≤16777216)
  (h:Instr.fill (fun i=>some (i*s,s)) (madeCells z.cells (n*s)) ((parts.toList.map (·.1)).zip vs)=some cs.toArray) (Dd:aB cs):
  dU P N E Γ ⟨dst,.buildSlice t n parts,ty,pos,after,guard⟩ fun v cz=>∃b,v=.slice (some ⟨b,0,none⟩) n n∧cz=an b cs e::Γ:=by
 intro A F w a nx Z hf cv hn
 obtain⟨i,uo,jS,JC,LZ⟩:=hi
 subst jS JC
 have e1:=hf.sN hp
 have e2:(parts.map fun(i,x)=>(i,a.eval x))=((parts.toList.map (·.1)).zip vs).toArray:=by
  apply Array.ext'
  rw[←e1]
  simp only[Array.toList_map]
  generalize parts.toList=ps
  induction ps with
  |nil=>rfl
  |cons p ps ih=>simp only[List.map_cons,List.zip_cons_cons,ih]
 have Qb:¬(16777216<n*i.size):=by omega
 have hr:(Instr.buildSlice t n ((parts.toList.map (·.1)).zip vs).toArray).run P w=.ok (.slice (some ⟨w.heap.size,0,none⟩) n n) (w.alloc (.cells cs.toArray e)):=by
  by_cases h0:n*i.size=0
  ·
   have hm:madeCells z.cells (n*i.size)=#[]:=by rw[h0];simp[madeCells,Array.range_zero']
   rw[hm]at h
   simp[Instr.buildSlice,run_underlying hu,sizeOf,typeInfo,uo,h0,newRow,Array.range_zero',h]
  ·
   unfold madeCells at h
   simp[Instr.buildSlice,run_underlying hu,sizeOf,typeInfo,zeroValue,uo,LZ,h0,Qb,newRow,h]
 unfold Oper.wp
 simp only[execOp,e2,Sem.run_bind,hr,Result.andThen_ok,Sem.run_pure,Oper.upon]
 refine hn _ _ _ ⟨w.heap.size,rfl,rfl⟩ ?_
 exact Sat.iy (fz:=(0,0)) (cv.alloc _) Dd (.inl rfl)
theorem De{place:Nat→Option (Nat×Nat)}{z:Array Value}{v:Value}{s:Nat}(hp:place 0=some (0,s))(hv:v.cells.size=s)(hz:z.size=s):Instr.fill place z [(0,v)]=some v.cells:=by
 have h1:¬(v.cells.size≠s∨0+v.cells.size>z.size):=by omega
 have h2:∀(l:List Value) (k:Nat) (cs:Array Value),k+l.length=cs.size→∀i,((l.zipIdx k).foldl (fun cs (c,j)=>cs.setIfInBounds (0+j) c) cs)[i]?=if i<k then cs[i]? else l[i-k]?:=by
  intro l
  induction l with
  |nil=>intro k cs hk i;simp at hk⊢;intro h;omega
  |cons c l ih=>
   intro k cs hk i
   simp only[List.zipIdx_cons,List.foldl_cons]
   rw[ih (k+1) _ (by simp at hk⊢;omega)]
   simp only[List.length_cons]at hk
   by_cases h3:i<k
   ·
    have:i<k+1:=by omega
    simp only[this,h3,if_true]
    rw[Array.getElem?_setIfInBounds_ne (by omega)]
   ·
    by_cases h4:i=k
    ·
     subst h4
     have:i<cs.size:=by omega
     simp[this]
    ·
     have e1:¬i<k+1:=by omega
     have e2:i-k=(i-(k+1))+1:=by omega
     simp only[e1,h3,if_false,e2,List.getElem?_cons_succ]
 simp only[Instr.fill,hp]
 rw[if_neg (by simpa using h1)]
 congr 1
 apply Array.ext'
 apply List.ext_getElem?
 intro i
 rw[Array.getElem?_toList,←Array.foldl_toList]
 have:=h2 v.cells.toList 0 z (by simp;omega) i
 simp only[Nat.not_lt_zero,if_false,Nat.sub_zero]at this
 rw[show v.cells.zipIdx.toList=v.cells.toList.zipIdx from by simp]
 rw[this]
theorem dU.cr{t e s o7 z x v}{cs:List Value}(hu:P.underlying t=some (.slice e))(hi:TI P e s o7 z)(Df:s≤16777216)(hx:ev E x=some v)(hc:v.cells.toList=cs)(hl:cs.length=s)(Dd:aB cs):
  dU P N E Γ ⟨dst,.buildSlice t 1 #[(0,x)],ty,pos,after,guard⟩ fun u cz=>∃b,u=.slice (some ⟨b,0,none⟩) 1 1∧cz=an b cs e::Γ:=by
 refine dU.buildSlice (vs:=[v]) hu hi ?_ (by omega) ?_ Dd
 ·
  simp[yq,hx]
 ·
  have hv:v.cells.size=s:=by rw[←hl,←hc];simp
  have:=De (place:=fun i=>some (i*s,s)) (z:=madeCells z.cells (1*s)) (v:=v) (s:=s) (by simp) hv (by simp[madeCells])
  simp only[List.map_cons,List.map_nil,List.zip_cons_cons,List.zip_nil_right]
  rw[this,←hc]
theorem dU.sP{t e s o7 z}(hu:P.underlying t=some (.slice e))(hi:TI P e s o7 z):
  dU P N E Γ ⟨dst,.buildSlice t 0 #[],ty,pos,after,guard⟩ fun u cz=>∃b,u=.slice (some ⟨b,0,none⟩) 0 0∧cz=an b [] e::Γ:=
 dU.buildSlice (vs:=[]) hu hi rfl (by omega) (by simp[Instr.fill,madeCells]) .nil
end
section
variable{P:Program}{N:Nat}{ops:Array Oper}{E:Env}{Γ cG:List aj}{K:Env→List aj→Prop}{be:Nat}{listed:Array Bool}{L:List Nat}
def GC(ops:Array Oper)(l:Nat):List Nat→List Nat→List Nat
 |[],acc=>acc
 |j::js,acc=>GC ops l js (match ops[j]? with
  |some o=>match o.after.any fun e=>Region.binds .any e&&(Nat.beq e.on l||acc.any (Nat.beq e.on))with
   |true=>j::acc
   |false=>acc
  |none=>acc)
def waits(ops:Array Oper)(L:List Nat)(j:Nat):Bool:=L.all fun l=>Nat.beq l j||(GC ops l (List.range ops.size) []).any (Nat.beq j)
def iY(ops:Array Oper)(listed:Array Bool):Prop:=
 ∀(j:Nat) (o:Oper),ops[j]?=some o→listed.getD j false=true→∀e∈o.after,Region.binds .any e=true→listed.getD e.on false=true
theorem getD_set_true{listed:Array Bool}{i j:Nat}(h:listed.getD j false=true):(listed.setIfInBounds i true).getD j false=true:=by
 by_cases qo:i=j
 ·
  subst qo
  have:i<listed.size:=by
   rcases Nat.lt_or_ge i listed.size with h'|h'
   ·
    exact h'
   ·
    simp[h']at h
  simp[this]
 ·
  rw[getD_set_ne false qo];exact h
theorem iY.set{listed:Array Bool}{i:Nat}(hc:iY ops listed)(hr:i∈Region.ready .any ops listed):iY ops (listed.setIfInBounds i true):=by
 intro j o ho hl e he hb
 by_cases qo:i=j
 ·
  subst qo
  obtain⟨_,o',Ja,h'⟩:=mem_ready.1 hr
  rw[ho]at Ja;cases Ja
  exact getD_set_true (h' e he hb)
 ·
  rw[getD_set_ne false qo]at hl
  exact getD_set_true (hc j o ho hl e he hb)
theorem iY.start(n:Nat):iY ops (Array.replicate n false):=by
 intro j o _ hl
 simp only[Array.getD_eq_getD_getElem?]at hl
 rcases Nat.lt_or_ge j n with h|h<;>simp[h]at hl
theorem vP{listed:Array Bool}{l:Nat}(hc:iY ops listed):∀(js acc:List Nat),
  (∀j∈acc,∃o,ops[j]?=some o∧((∀e∈o.after,Region.binds .any e=true→listed.getD e.on false=true)→listed.getD l false=true))→
  ∀j∈GC ops l js acc,∃o,ops[j]?=some o∧((∀e∈o.after,Region.binds .any e=true→listed.getD e.on false=true)→listed.getD l false=true)
 |[],_,h=>h
 |k::js,acc,h=>by
  unfold GC
  refine vP hc js _ ?_
  cases hk:ops[k]? with
  |none=>exact h
  |some o=>
   simp only
   cases hx:o.after.any fun e=>Region.binds .any e&&(Nat.beq e.on l||acc.any (Nat.beq e.on))with
   |false=>exact h
   |true=>
    intro j hj
    rcases List.mem_cons.1 hj with rfl|hj
    ·
     refine⟨o,hk,fun cy=>?_⟩
     obtain⟨e,he,hb⟩:=Array.any_eq_true'.1 hx
     simp only[Bool.and_eq_true,Bool.or_eq_true,List.any_eq_true]at hb
     obtain⟨gE,kO⟩:=hb
     have hl:=cy e he gE
     rcases kO with kO|⟨m,hm,kO⟩
     ·
      rw[←Nat.eq_of_beq_eq_true kO];exact hl
     ·
      have:=Nat.eq_of_beq_eq_true kO
      rw[←this]at hm
      obtain⟨o2,CR,h2⟩:=h _ hm
      exact h2 (hc _ o2 CR hl)
    ·
     exact h j hj
def kj(P:Program)(ops:Array Oper)(Q:Exit→Act→World→Prop)(S:World→Prop)(L:List Nat):Nat→Array Bool→Act→World→Prop
 |0,listed,a,w=>Region.ready .any ops listed=[]∧Q .normal a w
 |be+1,listed,a,w=>iY ops listed→(
  (Region.ready .any ops listed=[]→Q .normal a w)∧
  ∀i∈Region.ready .any ops listed,wpOp P ops Q i (fun a' w'=>(waits ops L i=false→S w→S w')∧kj P ops Q S L be (listed.setIfInBounds i true) a' w') a w)
theorem qp{Q S L}:∀(be:Nat) (listed:Array Bool) (a:Act) (w:World),iY ops listed→kj P ops Q S L be listed a w→wpAny P .any ops Q be listed a w
 |0,_,_,_,_,h=>h
 |be+1,_,_,_,hc,h=>⟨(h hc).1,fun i hi=>wpOp_mono (fun a' w' h'=>qp be _ a' w' (hc.set hi) h'.2) ((h hc).2 i hi)⟩
theorem vQ{listed:Array Bool}{L:List Nat}{i j:Nat}(hc:iY ops listed)(hi:i∈L)(hj:j∈Region.ready .any ops listed)(dx:j≠i)(hl:listed.getD i false=false):waits ops L j=false:=by
 cases hw:waits ops L j with
 |false=>rfl
 |true=>
  have:=List.all_eq_true.1 hw i hi
  simp only[Bool.or_eq_true,List.any_eq_true]at this
  rcases this with h|⟨m,hm,h⟩
  ·
   exact absurd (Nat.eq_of_beq_eq_true h).symm dx
  ·
   have:=Nat.eq_of_beq_eq_true h
   subst this
   obtain⟨_,o,ho,cy⟩:=mem_ready.1 hj
   obtain⟨o',Ja,this⟩:=vP hc (List.range ops.size) [] (fun _ h=>by cases h) j hm
   rw[ho]at Ja;cases Ja
   rw[hl]at this;cases this cy
theorem mB{Q:Exit→Act→World→Prop}{S:World→Prop}{L:List Nat}{i:Nat}{oi:Oper}{v:Value}(hi:ops[i]?=some oi)(Dg:∀(j:Nat) (o:Oper) cs b,ops[j]?=some o→o.op≠.select cs b)
  (hQ:∀c a w,Q (.panic c) (a.put oi.dst v) w→Q (.panic c) a w) (hL:i∈L):
  ∀(be:Nat) (listed:Array Bool) (a:Act) (w:World),
   (∀j oj,ops[j]?=some oj→j≠i→listed.getD j true=false→(∀e∈oj.after,Region.binds .any e=true→e.on≠i)→oi.apart ops oj=true)→
   i∈Region.ready .any ops listed→YieldsIf P ops S oi v a→S w→
   kj P ops Q S L be (listed.setIfInBounds i true) (a.put oi.dst v) w→kj P ops Q S L (be+1) listed a w:=by
 intro be
 induction be with
 |zero=>
  intro listed a w _ hr hy hS H
  refine fun hc=>⟨fun h=>(by rw[h]at hr;cases hr),fun j hj=>?_⟩
  by_cases fU:j=i
  ·
   subst fU;exact hy.wpOp hi hS ⟨fun _ _=>hS,H⟩
  ·
   have:=ready_mono hj fU
   rw[H.1]at this
   cases this
 |succ be ih=>
  intro listed a w qq hr hy hS H
  refine fun hc=>⟨fun h=>(by rw[h]at hr;cases hr),fun j hj=>?_⟩
  by_cases fU:j=i
  ·
   subst fU;exact hy.wpOp hi hS ⟨fun _ _=>hS,H⟩
  ·
   have h1:=(H (hc.set hr)).2 j (ready_mono hj fU)
   obtain⟨Dh,oj,JF,cy⟩:=mem_ready.1 hj
   have JG:∀e∈oj.after,Region.binds .any e=true→e.on≠i:=fun e he hb Oq=>by
    have h1:=cy e he hb
    have h0:=(mem_ready.1 hr).1
    rw[Oq]at h1
    rcases Nat.lt_or_ge i listed.size with h'|h'
    ·
     simp[h']at h0 h1;rw[h0]at h1;cases h1
    ·
     simp[Array.getElem?_eq_none h']at h1
   have h2:=wpOp_putIf JF (qq j oj JF fU Dh JG) (fun cs b=>Dg i oi cs b hi) (fun cs b=>Dg j oj cs b JF) hQ hy h1
   have yx:∀k ok,ops[k]?=some ok→k≠i→(listed.setIfInBounds j true).getD k true=false→
     (∀e∈ok.after,Region.binds .any e=true→e.on≠i)→oi.apart ops ok=true:=fun k ok hk JH JI mC=>by
    refine qq k ok hk JH ?_ mC
    by_cases L6:j=k
    ·
     subst L6;exact Dh
    ·
     rw[getD_set_ne true L6]at JI;exact JI
   refine wpOp_mono (fun a' w' h3=>?_) h2
   have Qc:S w':=h3.2.1 (vQ hc hL hj fU (by have h0:=(mem_ready.1 hr).1;rcases Nat.lt_or_ge i listed.size with h'|h'<;>simp[h']at h0⊢;exact h0)) hS
   refine⟨fun _ _=>Qc,ih (listed.setIfInBounds j true) a' w' yx (ready_mono hr (Ne.symm fU)) h3.1 Qc ?_⟩
   rw[Array.setIfInBounds_comm _ _ fU]
   exact h3.2.2
theorem ko{Q:Exit→Act→World→Prop}{S:World→Prop}{L:List Nat}{i:Nat}{oi:Oper}{v:Value}(hi:ops[i]?=some oi)(Dg:∀(j:Nat) (o:Oper) cs b,ops[j]?=some o→o.op≠.select cs b)
  (hQ:∀c a w,Q (.panic c) (a.put oi.dst v) w→Q (.panic c) a w):
  ∀(be:Nat) (listed:Array Bool) (a:Act) (w:World),
   (∀j oj,ops[j]?=some oj→j≠i→listed.getD j true=false→(∀e∈oj.after,Region.binds .any e=true→e.on≠i)→oi.apart ops oj=true)→
   i∈Region.ready .any ops listed→Yields P ops oi v a→
   kj P ops Q S L be (listed.setIfInBounds i true) (a.put oi.dst v) w→kj P ops Q S L (be+1) listed a w:=by
 intro be
 induction be with
 |zero=>
  intro listed a w _ hr hy H
  refine fun hc=>⟨fun h=>(by rw[h]at hr;cases hr),fun j hj=>?_⟩
  by_cases fU:j=i
  ·
   subst fU;exact hy.wpOp hi ⟨fun _ h=>h,H⟩
  ·
   have:=ready_mono hj fU
   rw[H.1]at this
   cases this
 |succ be ih=>
  intro listed a w qq hr hy H
  refine fun hc=>⟨fun h=>(by rw[h]at hr;cases hr),fun j hj=>?_⟩
  by_cases fU:j=i
  ·
   subst fU;exact hy.wpOp hi ⟨fun _ h=>h,H⟩
  ·
   have h1:=(H (hc.set hr)).2 j (ready_mono hj fU)
   obtain⟨Dh,oj,JF,cy⟩:=mem_ready.1 hj
   have JG:∀e∈oj.after,Region.binds .any e=true→e.on≠i:=fun e he hb Oq=>by
    have h1:=cy e he hb
    have h0:=(mem_ready.1 hr).1
    rw[Oq]at h1
    rcases Nat.lt_or_ge i listed.size with h'|h'
    ·
     simp[h']at h0 h1;rw[h0]at h1;cases h1
    ·
     simp[Array.getElem?_eq_none h']at h1
   have h2:=wpOp_put JF (qq j oj JF fU Dh JG) (fun cs b=>Dg i oi cs b hi) (fun cs b=>Dg j oj cs b JF) hQ hy h1
   have yx:∀k ok,ops[k]?=some ok→k≠i→(listed.setIfInBounds j true).getD k true=false→
     (∀e∈ok.after,Region.binds .any e=true→e.on≠i)→oi.apart ops ok=true:=fun k ok hk JH JI mC=>by
    refine qq k ok hk JH ?_ mC
    by_cases L6:j=k
    ·
     subst L6;exact Dh
    ·
     rw[getD_set_ne true L6]at JI;exact JI
   refine wpOp_mono (fun a' w' h3=>?_) h2
   refine⟨h3.2.1,ih (listed.setIfInBounds j true) a' w' yx (ready_mono hr (Ne.symm fU)) h3.1 ?_⟩
   rw[Array.setIfInBounds_comm _ _ fU]
   exact h3.2.2
def bp(P:Program)(N:Nat)(ops:Array Oper)(L:List Nat)(cG:List aj)(be:Nat)(listed:Array Bool)(E:Env)(Γ:List aj)(K:Env→List aj→Prop):Prop:=
 ∀A F w a (Z:Exit→Act→World→Prop),(∀c a w,¬Z (.panic c) a w)→Fr N E a→Sat A w (Γ++F)→
  (∀E' aI w' a',K E' aI→Fr N E' a'→Sat A w' (aI++F)→Z .normal a' w')→kj P ops Z (fun w=>Sat A w cG) L be listed a w
def qs(P:Program)(N:Nat)(ops:Array Oper)(L:List Nat)(cG:List aj)(be:Nat)(listed:Array Bool)(i:Nat)(E:Env)(Γ:List aj)(K:Env→List aj→Prop):Prop:=
 ∀A F w a (Z:Exit→Act→World→Prop),(∀c a w,¬Z (.panic c) a w)→Fr N E a→Sat A w (Γ++F)→
  (∀E' aI w' a',K E' aI→Fr N E' a'→Sat A w' (aI++F)→Z .normal a' w')→
  wpOp P ops Z i (fun a' w'=>(waits ops L i=false→Sat A w cG→Sat A w' cG)∧kj P ops Z (fun w=>Sat A w cG) L be (listed.setIfInBounds i true) a' w') a w
theorem Sat.sub{A w Γ Δ cG F}(p:az cG Γ Δ)(s:Sat A w (Γ++F)):Sat A w cG:=(s.mw p).left
theorem bp.done(hr:Region.ready .any ops listed=[])(h:K E Γ):bp P N ops L cG be listed E Γ K:=by
 intro _ _ w a _ _ hf hs hz
 have:=hz E Γ w a h hf hs
 cases be with
 |zero=>exact⟨hr,this⟩
 |succ n=>exact fun _=>⟨fun _=>this,by rw[hr];simp⟩
theorem Fr.off{N E a}(hf:Fr N E a){dst:Option Tmp}(hd:∀d,dst=some d→lk E d=none):Fr N E (a.put dst undef):=by
 cases dst with
 |none=>exact hf
 |some d=>
  have hn:=hd d rfl
  refine⟨hf.defers,by simp[Act.put,hf.size],fun s v e=>?_⟩
  have Oe:s≠d:=fun e'=>by subst e';rw[hn]at e;cases e
  simp only[Act.put]
  rw[Array.getElem?_setIfInBounds_ne (Ne.symm Oe)]
  exact hf.look s v e
theorem bp.rd{Δ}(i:Nat){d op ty pos after v}(ho:ops[i]?=some ⟨some d,op,ty,pos,after,none⟩)(hL:L.contains i=true)(hs:Region.noSelect ops=true)(ug:Region.free .any ops listed i=true)
  (hr:(Region.ready .any ops listed).contains i=true) (h:Reads P N E cG ⟨some d,op,ty,pos,after,none⟩ v) (p:az cG Γ Δ)
  (next:bp P N ops L cG be (listed.setIfInBounds i true) ((d,v)::E) Γ K) (hd:Nat.blt d N=true:=by rfl):bp P N ops L cG (be+1) listed E Γ K:=by
 intro A F w a Z hZ hf cv hz
 refine mB ho (Region.noSelect_spec hs) (fun c a w h=>absurd h (hZ _ _ _)) (by simpa using hL) be listed a w (Region.free_spec ho ug) (by simpa using hr) (.inl ⟨rfl,fun w' hS=>h A w' a hf hS⟩) (cv.sub p) ?_
 exact next A F w _ Z hZ (hf.put hd v) cv hz
theorem bp.vR{Δ}(i:Nat){d op ty pos after v}{g:Nat}{b:Bool}{t:Nat}(ho:ops[i]?=some ⟨some d,op,ty,pos,after,some (g,b)⟩)(hg:fS ops g=some t)(he:lk E t=some (.bool b))
  (hL:L.contains i=true) (hs:Region.noSelect ops=true) (ug:Region.free .any ops listed i=true)
  (hr:(Region.ready .any ops listed).contains i=true) (h:Reads P N E cG ⟨some d,op,ty,pos,after,some (g,b)⟩ v) (p:az cG Γ Δ)
  (next:bp P N ops L cG be (listed.setIfInBounds i true) ((d,v)::E) Γ K) (hd:Nat.blt d N=true:=by rfl):bp P N ops L cG (be+1) listed E Γ K:=by
 intro A F w a Z hZ hf cv hz
 have hy:=eZ hg hf he
 have hw:Region.wanted ⟨some d,op,ty,pos,after,some (g,b)⟩ (yielded ops a.tmps)=true:=by simp[Region.wanted,hy]
 refine mB ho (Region.noSelect_spec hs) (fun c a w h=>absurd h (hZ _ _ _)) (by simpa using hL) be listed a w (Region.free_spec ho ug) (by simpa using hr) (.inl ⟨hw,fun w' hS=>h A w' a hf hS⟩) (cv.sub p) ?_
 exact next A F w _ Z hZ (hf.put hd v) cv hz
theorem bp.off(i:Nat){dst op ty pos after}{g:Nat}{b c:Bool}{t:Nat}(ho:ops[i]?=some ⟨dst,op,ty,pos,after,some (g,b)⟩)(hg:fS ops g=some t)(he:lk E t=some (.bool c))(dx:(c==b)=false)
  (hs:Region.noSelect ops=true) (ug:Region.free .any ops listed i=true)
  (hr:(Region.ready .any ops listed).contains i=true)
  (next:bp P N ops L cG be (listed.setIfInBounds i true) E Γ K) (hd:∀d,dst=some d→lk E d=none:=by intro d h;cases h;rfl):bp P N ops L cG (be+1) listed E Γ K:=by
 intro A F w a Z hZ hf cv hz
 have hy:=eZ hg hf he
 have hw:Region.wanted ⟨dst,op,ty,pos,after,some (g,b)⟩ (yielded ops a.tmps)=false:=by
  simp[Region.wanted,hy];intro e;subst e;simp at dx
 refine ko ho (Region.noSelect_spec hs) (v:=undef) (fun c a w h=>absurd h (hZ _ _ _)) be listed a w (Region.free_spec ho ug) (by simpa using hr) (.inr ⟨hw,rfl⟩) ?_
 exact next A F w _ Z hZ (hf.off hd) cv hz
theorem bp.rp(i:Nat){d op ty pos after v}(ho:ops[i]?=some ⟨some d,op,ty,pos,after,none⟩)(hs:Region.noSelect ops=true)(ug:Region.free .any ops listed i=true)
  (hr:(Region.ready .any ops listed).contains i=true) (h:∀w a,Fr N E a→(execOp a.eval ⟨some d,op,ty,pos,after,none⟩).run P w=.ok (.value v) w)
  (next:bp P N ops L cG be (listed.setIfInBounds i true) ((d,v)::E) Γ K) (hd:Nat.blt d N=true:=by rfl):bp P N ops L cG (be+1) listed E Γ K:=by
 intro A F w a Z hZ hf cv hz
 refine ko ho (Region.noSelect_spec hs) (fun c a w h=>absurd h (hZ _ _ _)) be listed a w (Region.free_spec ho ug) (by simpa using hr) (.inl ⟨rfl,fun w'=>h w' a hf⟩) ?_
 exact next A F w _ Z hZ (hf.put hd v) cv hz
theorem bp.BB(i:Nat){d op ty pos after v}{g:Nat}{b:Bool}{t:Nat}(ho:ops[i]?=some ⟨some d,op,ty,pos,after,some (g,b)⟩)(hg:fS ops g=some t)(he:lk E t=some (.bool b))
  (hs:Region.noSelect ops=true) (ug:Region.free .any ops listed i=true)
  (hr:(Region.ready .any ops listed).contains i=true) (h:∀w a,Fr N E a→(execOp a.eval ⟨some d,op,ty,pos,after,some (g,b)⟩).run P w=.ok (.value v) w)
  (next:bp P N ops L cG be (listed.setIfInBounds i true) ((d,v)::E) Γ K) (hd:Nat.blt d N=true:=by rfl):bp P N ops L cG (be+1) listed E Γ K:=by
 intro A F w a Z hZ hf cv hz
 have hy:=eZ hg hf he
 have hw:Region.wanted ⟨some d,op,ty,pos,after,some (g,b)⟩ (yielded ops a.tmps)=true:=by simp[Region.wanted,hy]
 refine ko ho (Region.noSelect_spec hs) (fun c a w h=>absurd h (hZ _ _ _)) be listed a w (Region.free_spec ho ug) (by simpa using hr) (.inl ⟨hw,fun w'=>h w' a hf⟩) ?_
 exact next A F w _ Z hZ (hf.put hd v) cv hz
theorem Sat.empty(w:World):Sat (ye w) w []:=⟨rfl,fun _=>none,fun _ _ e=>by simp at e,trivial⟩
theorem Reads.pure{E o v}(h:Reads P N E [] o v)(w:World)(a:Act)(hf:Fr N E a):(execOp a.eval o).run P w=.ok (.value v) w:=h _ w a hf (Sat.empty w)
theorem bp.all{rs:List Nat}(hr:Region.ready .any ops listed=rs)(dx:rs≠[])(h:∀i∈rs,qs P N ops L cG be listed i E Γ K):bp P N ops L cG (be+1) listed E Γ K:=
 fun A F w a Z hZ hf cv hz _=>⟨fun h0=>absurd (hr▸h0) dx,hr▸fun i hi=>h i hi A F w a Z hZ hf cv hz⟩
theorem qs.ef{i d op ty pos after}{K1:Value→List aj→Prop}(ho:ops[i]?=some ⟨some d,op,ty,pos,after,none⟩)(h:dU P N E Γ ⟨some d,op,ty,pos,after,none⟩ K1)
  (next:∀v aI,K1 v aI→(waits ops L i=true∨∃Δ,az cG aI Δ)∧bp P N ops L cG be (listed.setIfInBounds i true) ((d,v)::E) aI K) (hd:Nat.blt d N=true:=by rfl):qs P N ops L cG be listed i E Γ K:=by
 intro A F w a Z hZ hf cv hz
 simp only[wpOp,ho,fq,if_true]
 refine .inl (h A F w a _ _ hf cv ?_)
 intro v aI w' hk lu
 obtain⟨p,n⟩:=next v aI hk
 exact⟨fun hw _=>(by rcases p with p|⟨Δ,p⟩;(rw[hw]at p;cases p);exact lu.sub p),n A F w' _ Z hZ (hf.put hd _) lu hz⟩
theorem qs.dc{i op ty pos after}{K1:Value→List aj→Prop}(ho:ops[i]?=some ⟨none,op,ty,pos,after,none⟩)(h:dU P N E Γ ⟨none,op,ty,pos,after,none⟩ K1)
  (next:∀v aI,K1 v aI→(waits ops L i=true∨∃Δ,az cG aI Δ)∧bp P N ops L cG be (listed.setIfInBounds i true) E aI K):qs P N ops L cG be listed i E Γ K:=by
 intro A F w a Z hZ hf cv hz
 simp only[wpOp,ho,fq,if_true]
 refine .inl (h A F w a _ _ hf cv ?_)
 intro v aI w' hk lu
 obtain⟨p,n⟩:=next v aI hk
 exact⟨fun hw _=>(by rcases p with p|⟨Δ,p⟩;(rw[hw]at p;cases p);exact lu.sub p),n A F w' _ Z hZ hf lu hz⟩
theorem qs.GD{i d op ty pos after}{g:Nat}{b:Bool}{t:Nat}{K1:Value→List aj→Prop}(ho:ops[i]?=some ⟨some d,op,ty,pos,after,some (g,b)⟩)(hg:fS ops g=some t)(he:lk E t=some (.bool b))
  (h:dU P N E Γ ⟨some d,op,ty,pos,after,some (g,b)⟩ K1)
  (next:∀v aI,K1 v aI→(waits ops L i=true∨∃Δ,az cG aI Δ)∧bp P N ops L cG be (listed.setIfInBounds i true) ((d,v)::E) aI K) (hd:Nat.blt d N=true:=by rfl):qs P N ops L cG be listed i E Γ K:=by
 intro A F w a Z hZ hf cv hz
 have hy:=eZ hg hf he
 have hw:Region.wanted ⟨some d,op,ty,pos,after,some (g,b)⟩ (yielded ops a.tmps)=true:=by simp[Region.wanted,hy]
 simp only[wpOp,ho,hw,if_true]
 refine .inl (h A F w a _ _ hf cv ?_)
 intro v aI w' hk lu
 obtain⟨p,n⟩:=next v aI hk
 exact⟨fun hw _=>(by rcases p with p|⟨Δ,p⟩;(rw[hw]at p;cases p);exact lu.sub p),n A F w' _ Z hZ (hf.put hd _) lu hz⟩
theorem bp.ef(i:Nat){d op ty pos after}{K1:Value→List aj→Prop}(hr:Region.ready .any ops listed=[i])(ho:ops[i]?=some ⟨some d,op,ty,pos,after,none⟩)(h:dU P N E Γ ⟨some d,op,ty,pos,after,none⟩ K1)
  (next:∀v aI,K1 v aI→(waits ops L i=true∨∃Δ,az cG aI Δ)∧bp P N ops L cG be (listed.setIfInBounds i true) ((d,v)::E) aI K) (hd:Nat.blt d N=true:=by rfl):bp P N ops L cG (be+1) listed E Γ K:=
 .all hr (by simp) fun j hj=>by
  rw[List.mem_singleton]at hj;subst hj
  exact .ef ho h next hd
theorem bp.dc(i:Nat){op ty pos after}{K1:Value→List aj→Prop}(hr:Region.ready .any ops listed=[i])(ho:ops[i]?=some ⟨none,op,ty,pos,after,none⟩)(h:dU P N E Γ ⟨none,op,ty,pos,after,none⟩ K1)
  (next:∀v aI,K1 v aI→(waits ops L i=true∨∃Δ,az cG aI Δ)∧bp P N ops L cG be (listed.setIfInBounds i true) E aI K):bp P N ops L cG (be+1) listed E Γ K:=
 .all hr (by simp) fun j hj=>by
  rw[List.mem_singleton]at hj;subst hj
  exact .dc ho h next
theorem bp.GD(i:Nat){d op ty pos after}{g:Nat}{b:Bool}{t:Nat}{K1:Value→List aj→Prop}(hr:Region.ready .any ops listed=[i])(ho:ops[i]?=some ⟨some d,op,ty,pos,after,some (g,b)⟩)(hg:fS ops g=some t)(he:lk E t=some (.bool b))
  (h:dU P N E Γ ⟨some d,op,ty,pos,after,some (g,b)⟩ K1)
  (next:∀v aI,K1 v aI→(waits ops L i=true∨∃Δ,az cG aI Δ)∧bp P N ops L cG be (listed.setIfInBounds i true) ((d,v)::E) aI K) (hd:Nat.blt d N=true:=by rfl):bp P N ops L cG (be+1) listed E Γ K:=
 .all hr (by simp) fun j hj=>by
  rw[List.mem_singleton]at hj;subst hj
  exact .GD ho hg he h next hd
theorem bp.rs{Δ}(i:Nat){d op ty pos after v}(hr:Region.ready .any ops listed=[i])(ho:ops[i]?=some ⟨some d,op,ty,pos,after,none⟩)(h:Reads P N E Γ ⟨some d,op,ty,pos,after,none⟩ v)
  (w:waits ops L i=true∨az cG Γ Δ) (next:bp P N ops L cG be (listed.setIfInBounds i true) ((d,v)::E) Γ K) (hd:Nat.blt d N=true:=by rfl):bp P N ops L cG (be+1) listed E Γ K:=
 .ef i hr ho h.P9 (fun u aI ⟨hu,Gq⟩=>by subst hu Gq;exact⟨w.imp id fun p=>⟨Δ,p⟩,next⟩) hd
theorem bp.split{t:Nat}{b:Bool}(he:lk E t=some (.bool b))(hT:b=true→bp P N ops L cG be listed ((t,.bool true)::E) Γ K)
  (hF:b=false→bp P N ops L cG be listed ((t,.bool false)::E) Γ K):bp P N ops L cG be listed E Γ K:=by
 intro A F w a Z hZ hf hs hz
 have hl:∀c,b=c→Fr N ((t,.bool c)::E) a:=fun c hc=>hf.le (Le.cons (by rw[he,hc]) (Le.refl _))
 cases b with
 |true=>exact hT rfl A F w a Z hZ (hl _ rfl) hs hz
 |false=>exact hF rfl A F w a Z hZ (hl _ rfl) hs hz
theorem bp.alter{t:Nat}{v v':Value}(he:lk E t=some v)(hv:v=v')(next:bp P N ops L cG be listed ((t,v')::E) Γ K):bp P N ops L cG be listed E Γ K:=
 fun A F w a Z hZ hf hs hz=>next A F w a Z hZ (hf.le (Le.cons (by rw[he,hv]) (Le.refl _))) hs hz
theorem bp.tell{φ:Prop}(k:af Γ fun _=>φ)(next:φ→bp P N ops L cG be listed E Γ K):bp P N ops L cG be listed E Γ K:=
 fun A F w a Z hZ hf hs hz=>next (k A w hs.left) A F w a Z hZ hf hs hz
theorem bH.Di{C:Cx}{k id}{Q:Value→List aj→Prop}(L:List Nat)(cG:List aj)(hm:C.P.follows .mixedOrders=true)
  (h:bp C.P C.fn.ntmps ops L cG ops.size (Array.replicate ops.size false) E Γ fun E' aI=>bH C k E' aI Q):bH C (.code (.region id ops true)::k) E Γ Q:=by
 intro A F w a hf hs b cs hb hk
 have h1:=h A F {w with drawn:=w.drawn+1} a (fun e a' w'=>match e with|.normal=>yu C.P C.f k a' w' fun v Jx=>∃aI,Q v aI∧Sat A Jx (aI++F)|_=>False) (fun _ _ _ h=>h) hf
  (hs.same rfl rfl) (fun E' aI w' a' Gs LQ lu=>Gs A F w' a' LQ lu)
 have h2:=wp_region_any (id:=id) hm (qp _ _ _ _ (iY.start _) h1)
 obtain⟨e,a',w',q,arr⟩:=h2 b k cs
 cases e with
 |normal=>
  obtain⟨v,w1,fr,r,s,x⟩:=q b cs hb hk
  exact⟨v,w1,fr,r,arr.trans s,x⟩
 |_=>exact q.elim
end
def Aa(t:mz)(N:Nat)(ops:Array Oper):List Nat→Array Bool→Env→Option (Array Bool×Env)
 |[],l,E=>some (l,E)
 |i::js,l,E=>match ops[i]? with
  |some o=>match Gx t N ops o E with
   |some E'=>Aa t N ops js (l.setIfInBounds i true) E'
   |none=>none
  |none=>none
def GF(ops:Array Oper):List Nat→Array Bool→Bool
 |[],_=>true
 |i::js,l=>Region.free .any ops l i&&(Region.ready .any ops l).contains i&&GF ops js (l.setIfInBounds i true)
section
variable{P:Program}{t:mz}{N:Nat}{ops:Array Oper}{L:List Nat}{cG Γ:List aj}{K:Env→List aj→Prop}
theorem Dj{d' op ty pos after guard}{E E':Env}(h:Jb t N ⟨d',op,ty,pos,after,guard⟩ E=some E'):∃d v,d'=some d∧Nat.blt d N=true∧qi t E op=some v∧E'=(d,v)::E:=by
 unfold Jb at h
 dsimp only at h
 cases d' with
 |none=>cases h
 |some d=>
  dsimp only at h
  cases hb:Nat.blt d N with
  |false=>rw[hb]at h;cases h
  |true=>
   rw[hb]at h
   simp only[cond_true]at h
   cases hv:qi t E op with
   |none=>rw[hv]at h;cases h
   |some v=>rw[hv]at h;cases h;exact⟨d,v,rfl,hb,rfl,rfl⟩
theorem pure_run{dst ty pos after guard}{op:Op}{v:Value}{E:Env}(hf:eL P t)(h:qi t E op=some v):∀w a,Fr N E a→(execOp a.eval ⟨dst,op,ty,pos,after,guard⟩).run P w=.ok (.value v) w:=fun w a ug=>Reads.pure (oM hf h) w a ug
theorem bp.step1(hf:eL P t)(hs:Region.noSelect ops=true){i be:Nat}{o:Oper}{l:Array Bool}{E E':Env}(ho:ops[i]?=some o)(h:Gx t N ops o E=some E')(ug:Region.free .any ops l i=true)(hr:(Region.ready .any ops l).contains i=true)(next:bp P N ops L cG be (l.setIfInBounds i true) E' Γ K):bp P N ops L cG (be+1) l E Γ K:=by
 obtain⟨dst,op,ty,pos,after,guard⟩:=o
 unfold Gx at h
 dsimp only at h
 cases guard with
 |none=>
  obtain⟨d,v,rfl,hb,hv,rfl⟩:=Dj h
  exact .rp i ho hs ug hr (pure_run hf hv) next hb
 |some gb=>
  obtain⟨g,b⟩:=gb
  dsimp only at h
  have off:∀{c b:Bool} {g s:Nat},ops[i]?=some ⟨dst,op,ty,pos,after,some (g,b)⟩→fS ops g=some s→lk E s=some (.bool c)→(c==b)=false→Bz E dst=some E'→bp P N ops L cG (be+1) l E Γ K:=fun h0 h1 h2 h3 h4=>by
   cases dst with
   |none=>cases h4
   |some d=>
    unfold Bz at h4
    dsimp only at h4
    cases hl:lk E d with
    |some _=>rw[hl]at h4;cases h4
    |none=>
     rw[hl]at h4
     cases h4
     exact .off i h0 h1 h2 h3 hs ug hr next fun d' e=>by cases e;exact hl
  have on:∀{b:Bool} {g s:Nat},ops[i]?=some ⟨dst,op,ty,pos,after,some (g,b)⟩→fS ops g=some s→lk E s=some (.bool b)→Jb t N ⟨dst,op,ty,pos,after,some (g,b)⟩ E=some E'→bp P N ops L cG (be+1) l E Γ K:=fun h0 h1 h2 h3=>by
   obtain⟨d,v,rfl,hb,hv,rfl⟩:=Dj h3
   exact .BB i h0 h1 h2 hs ug hr (pure_run hf hv) next hb
  cases hg:fS ops g with
  |none=>rw[hg]at h;cases h
  |some s=>
   rw[hg]at h
   dsimp only at h
   split at h
   ·
    rename_i hl
    cases b with
    |true=>exact on ho hg hl h
    |false=>exact off ho hg hl rfl h
   ·
    rename_i hl
    cases b with
    |false=>exact on ho hg hl h
    |true=>exact off ho hg hl rfl h
   ·
    cases h
theorem bp.LX(hf:eL P t)(hs:Region.noSelect ops=true):∀(js:List Nat) {be:Nat} {l l':Array Bool} {E E':Env},GF ops js l=true→Aa t N ops js l E=some (l',E')→bp P N ops L cG be l' E' Γ K→bp P N ops L cG (be+js.length) l E Γ K
 |[],_,_,_,_,_,_,h,next=>by cases h;exact next
 |i::js,be,l,_,E,_,hm,h,next=>by
  unfold GF at hm
  unfold Aa at h
  obtain⟨Ot,NL⟩:=Bool.and_eq_true_iff.1 hm
  obtain⟨Rv,Rw⟩:=Bool.and_eq_true_iff.1 Ot
  cases ho:ops[i]? with
  |none=>rw[ho]at h;cases h
  |some o=>
   rw[ho]at h
   dsimp only at h
   cases Df:Gx t N ops o E with
   |none=>rw[Df]at h;cases h
   |some E1=>
    rw[Df]at h
    exact bp.step1 hf hs ho Df Rv Rw (bp.LX hf hs js NL h next)
theorem bp.aq(hf:eL P t)(js:List Nat){be:Nat}{l l':Array Bool}{E E':Env}(next:bp P N ops L cG (be-js.length) l' E' Γ K)(h:Aa t N ops js l E=some (l',E'):=by rfl)(hm:(Region.noSelect ops&&GF ops js l&&Nat.ble js.length be)=true:=by kernel_rfl):bp P N ops L cG be l E Γ K:=by
 obtain⟨h1,h2⟩:=Bool.and_eq_true_iff.1 hm
 obtain⟨h3,h4⟩:=Bool.and_eq_true_iff.1 h1
 have:=bp.LX hf h3 js h4 h next
 rwa[Nat.sub_add_cancel (Nat.le_of_ble_eq_true h2)]at this
end
def qt(P:Program)(E:Env)(Γ:List aj)(r:ResultVar)(v:Value):Prop:=
 ∀A w a N,Fr N E a→Sat A w Γ→
  (match r with|.tmp t=>(Pure.pure (a.tmps.getD t undef):Sem Value)|.cell x t=>do loadVar t (←asAddr (a.tmps.getD x undef))).run P w=.ok v w
section
variable{P:Program}{E:Env}{Γ aI:List aj}
theorem qt.tmp{t v}(h:lk E t=some v):qt P E Γ (.tmp t) v:=fun _ w a _ hf _=>by
 have:=hf.look t v h
 simp[this]
theorem qt.L7{x t b o n}{cs:List Value}(hn:iM P t)(lu:TS P t n)(h:lk E x=some (.pointer (some ⟨b,o,none⟩)))(hl:cs.length=n)(k:af Γ (aL b o cs)):qt P E Γ (.cell x t) (.agg cs.toArray):=fun A w a _ hf hs=>by
 have h1:=hf.look x _ h
 have h2:=(k A w hs).1
 have hr:=run_loadCells_list (P:=P) w ⟨b,o,none⟩ cs (fun j v hv=>by rw[cA];exact h2 j v hv)
 subst hl
 simp[h1,asAddr,loadVar,hn.run,lu.run,hr]
theorem qt.yy{x t b e n}{cs:List Value}(hn:iM P t)(hs:TS P t n)(h:lk E x=some (.pointer (some ⟨b,0,none⟩)))(p:bD (an b cs e) Γ aI)(hl:cs.length=n):qt P E Γ (.cell x t) (.agg cs.toArray):=.L7 hn hs h hl (.an p)
inductive e7 (P:Program) (E:Env) (Γ:List aj):List ResultVar→List Value→Prop
 |nil:e7 P E Γ [] []
 |cons {r v rs vs}:qt P E Γ r v→e7 P E Γ rs vs→e7 P E Γ (r::rs) (v::vs)
theorem oN{fn A a w}{N:Nat}(hf:Fr N E a)(hs:Sat A w Γ){vs:List Value}(h:e7 P E Γ fn.results.toList vs):(results fn a.tmps).run P w=.ok (cZ vs) w:=by
 have key:∀(rs:List ResultVar) vs,e7 P E Γ rs vs→
   (rs.mapM (m:=Sem) fun|.tmp t=>(Pure.pure (a.tmps.getD t undef):Sem Value)|.cell x t=>do loadVar t (←asAddr (a.tmps.getD x undef))).run P w=.ok vs w:=by
  intro rs vs h
  induction h with
  |nil=>rfl
  |cons h1 _ ih=>
   rw[List.mapM_cons]
   simp only[Sem.run_bind]
   erw [h1 A w a N hf hs]
   simp only[Result.andThen_ok]
   erw [ih]
   rfl
 have h2:=key fn.results.toList vs h
 have h3:fn.results=fn.results.toList.toArray:=rfl
 unfold results
 rw[h3,List.mapM_toArray]
 simp only[Sem.run_bind,Sem.run_map]
 erw [h2]
 match vs with
 |[]=>rfl
 |[v]=>rfl
 |u::v::vs=>simp only[cZ];rfl
theorem bH.aG{C:Cx}{k:List Item}{Q:Value→List aj→Prop}{vs:List Value}{Δ:List aj}(C2:C.P.funcs[C.f]?=some C.fn)
  (h:e7 C.P E Γ C.fn.results.toList vs) (p:az aI Γ Δ) (q:Q (cZ vs) aI):bH C (.code .ret::k) E Γ Q:=by
 intro A F w a hf hs b cs hb hk
 refine⟨cZ vs,w,{b.at a (.code .ret::k)with mode:=.returning},⟨aI,q,?_⟩,.one step_ret,hb,rfl,hf.defers,hk,C.fn,?_,oN hf hs.left h⟩
 ·
  obtain⟨am,h,f,t⟩:=hs
  obtain⟨h1,h2,ok,l1,l2,s1,s2⟩:=((p.app F).bh t).split
  obtain⟨_,k2,_,_,m2,_,s⟩:=s2.split
  exact⟨am,h,f,bh.join ok l1 l2 s1 (s.mono m2)⟩
 ·
  show C.P.funcs[b.fn]?=_
  rw[hb];exact C2
theorem bH.sD{C:Cx}{Q:Value→List aj→Prop}{vs:List Value}{Δ:List aj}(C2:C.P.funcs[C.f]?=some C.fn)
  (h:e7 C.P E Γ C.fn.results.toList vs) (p:az aI Γ Δ) (q:Q (cZ vs) aI):bH C [] E Γ Q:=by
 intro A F w a hf hs b cs hb hk
 refine⟨cZ vs,w,{b.at a []with mode:=.returning},⟨aI,q,?_⟩,.one step_end,hb,rfl,hf.defers,hk,C.fn,?_,oN hf hs.left h⟩
 ·
  obtain⟨am,h,f,t⟩:=hs
  obtain⟨h1,h2,ok,l1,l2,s1,s2⟩:=((p.app F).bh t).split
  obtain⟨_,k2,_,_,m2,_,s⟩:=s2.split
  exact⟨am,h,f,bh.join ok l1 l2 s1 (s.mono m2)⟩
 ·
  show C.P.funcs[b.fn]?=_
  rw[hb];exact C2
end
def Cn(P:Program)(f:FuncId)(args:List Value)(φ:World→Prop)(mj:List aj)(Q:Value→List aj→Prop):Prop:=
 ∀R:aj,af [R] φ→Gt P f args (mj++[R]) fun v aI=>∃fC,Q v fC∧aI=fC++[R]
theorem Cn.mono{P f args φ mj}{Q Q':Value→List aj→Prop}(h:Cn P f args φ mj Q)(hq:∀v fC,Q v fC→Q' v fC):Cn P f args φ mj Q':=
 fun R k=>(h R k).mono fun v _ ⟨fC,q,e⟩=>⟨fC,hq v fC q,e⟩
theorem Cn.enter{P:Program}{f:FuncId}{fn:Func}{c:Code}{args:List Value}{φ:World→Prop}{mj:List aj}{Q:Value→List aj→Prop}(hf:P.funcs[f]?=some fn)(hb:fn.body=some c)
  (hn:(fn.name== "runtime.NumGoroutine")=false) (hl:Nat.ble args.length fn.ntmps=true)
  (h:∀R,af [R] φ→bH ⟨P,f,fn⟩ [.code c] (j9 0 args) (mj++[R]) fun v aI=>∃fC,Q v fC∧aI=fC++[R]):Cn P f args φ mj Q:=
 fun R k=>.enter hf hb hn hl (h R k)
theorem bh.fold{Γ:List aj}{F h}(s:Sp.bh (Γ++F) h):Sp.bh (Sp.bh Γ::F) h:=by
 obtain⟨h1,h2,ok,l1,l2,s1,s2⟩:=s.split
 exact⟨h1,h2,ok,l1,l2,s1,s2⟩
theorem bh.unfold{Γ:List aj}{F h}(s:Sp.bh (Sp.bh Γ::F) h):Sp.bh (Γ++F) h:=by
 obtain⟨h1,h2,ok,l1,l2,s1,s2⟩:=s
 exact bh.join ok l1 l2 s1 s2
theorem bh.sQ{Γ Δ Qd:List aj}{h}(H:∀h,Sp.bh Δ h→Sp.bh Qd h)(s:Sp.bh (Γ++Δ) h):Sp.bh (Γ++Qd) h:=by
 obtain⟨h1,h2,ok,l1,l2,s1,s2⟩:=s.split
 exact bh.join ok l1 l2 s1 (H _ s2)
theorem af.fold{Γ φ}(k:af Γ φ):af [Sp.bh Γ] φ:=fun A w s=>k A w (s.map fun _ t=>by
 have:=bh.unfold (F:=[]) t
 simpa using this)
theorem Cn.ret{P f args φ mj}{Q:Value→List aj→Prop}(h:Cn P f args φ mj Q){Γ aI:List aj}(p:az mj Γ aI)(k:af aI φ):Gt P f args Γ fun v cz=>∃fC,Q v fC∧cz=fC++aI:=by
 have h1:=h (bh aI) k.fold
 refine⟨h1.sA,fun A F w s=>?_⟩
 have s1:Sat A w ((mj++[bh aI])++F):=by
  have:=s.mw p
  rw[List.append_assoc]
  exact this.map fun _=>bh.sQ fun _=>bh.fold
 refine(h1.runs A F w s1).mono ?_
 rintro e w' ⟨v,_,he,⟨fC,hq,rfl⟩,s'⟩
 refine⟨v,fC++aI,he,⟨fC,hq,rfl⟩,?_⟩
 rw[List.append_assoc]at s'⊢
 exact s'.map fun _=>bh.sQ fun _=>bh.unfold
section
variable{P:Program}{N:Nat}{E:Env}{Γ aI:List aj}{ty:TypeId}{pos:String}{after:Array Edge}{dst:Option Tmp}{guard:Option (Nat×Bool)}
variable{ops:Array Oper}{rest os:List Oper}{K:Env→List aj→Prop}
theorem dU.fn{fo:Operand}{args:Array Operand}{ts:Array TypeId}{f:FuncId}{vs:List Value}{φ:World→Prop}{mj:List aj}{Q:Value→List aj→Prop}(GA:ev E fo=some (.func (.func f) #[] #[]))
  (ha:yq E args.toList=some vs) (p:az mj Γ aI) (k:af aI φ) (h:Cn P f vs φ mj Q):
  dU P N E Γ ⟨dst,.call ⟨.value fo,args,ts⟩,ty,pos,after,guard⟩ fun v cz=>∃fC,Q v fC∧cz=fC++aI:=by
 have h1:Gt P f ((#[]:Array Value).toList++(vs++(#[]:Array Value).toList)) Γ fun v cz=>∃fC,Q v fC∧cz=fC++aI:=by simpa using h.ret p k
 refine(dU.call GA ha (az.self Γ) h1).mono ?_
 rintro v _ ⟨_,⟨fC,hq,rfl⟩,rfl⟩
 exact⟨fC,hq,by simp⟩
theorem aZ.fn{d}{fo:Operand}{args:Array Operand}{ts:Array TypeId}{f:FuncId}{vs:List Value}{φ:World→Prop}{mj:List aj}{Q:Value→List aj→Prop}(GA:ev E fo=some (.func (.func f) #[] #[]))
  (ha:yq E args.toList=some vs) (p:az mj Γ aI) (k:af aI φ) (h:Cn P f vs φ mj Q) (next:∀v fC,Q v fC→aZ P N ops rest ((d,v)::E) (fC++aI) K)
  (hd:Nat.blt d N=true:=by rfl):aZ P N ops (⟨some d,.call ⟨.value fo,args,ts⟩,ty,pos,after,none⟩::rest) E Γ K:=by
 refine aZ.ef (dU.fn GA ha p k h) ?_ hd
 rintro v _ ⟨fC,hq,rfl⟩
 exact next v fC hq
end
def BC(P:Program)(k:Nat)(t:TypeId)(x y:Value)(b:Bool):Prop:=∀d w,(Op.equalIn (d+k) t x y).run P w=.ok b w
section
variable{P:Program}
theorem JJ(a b:ByteArray):(a==b)=decide (a=b):=by
 rw[beq_toListBytes,Bool.eq_iff_iff];simp[toList_inj]
theorem BC.int{t}{k:IntKind}{a b:Int}(hu:P.underlying t=some (.int k)):BC P 1 t (.int k a) (.int k b) (decide (a=b)):=fun d w=>by
 rw[vL hu d w];congr 1
theorem BC.string{t}{a b:ByteArray}(hu:P.underlying t=some .string):BC P 1 t (.string a) (.string b) (decide (a=b)):=fun d w=>by
 rw[qh hu d w,JJ]
def Ln(P:Program)(k:Nat)(xs ys:Array Value)(fs:List Field)(b:Bool):Prop:=∀d w,(Op.eqFields (d+k) xs ys fs).run P w=.ok b w
theorem Ln.nil{k xs ys}:Ln P k xs ys [] true:=fun _ _=>rfl
theorem Ln.cons{k xs ys}{f:Field}{fs:List Field}{a c:Value}{r s:Bool}(hn:f.name≠ "_")(h1:∀w,(part f.type xs f.offset).run P w=.ok a w)(h2:∀w,(part f.type ys f.offset).run P w=.ok c w)
  (h:BC P k f.type a c r) (hs:Ln P k xs ys fs s):Ln P k xs ys (f::fs) (r&&s):=fun d w=>by
 simp only[Op.eqFields,if_pos hn,Sem.run_bind,h1,h2,h d w,Result.andThen_ok]
 cases r with
 |false=>simp
 |true=>simpa using hs d w
theorem iN{t off v}{cs:Array Value}(hn:cn P t)(hv:cs[off]?=some v)(w:World):(part t cs off).run P w=.ok v w:=by
 simp[part,hn.run,hv]
theorem BC.struct{k t xs ys b}{fs:Array Field}(hu:P.underlying t=some (.struct fs))(hp:P.stoodInHeld t=false)(h:Ln P k xs ys fs.toList b):BC P (k+1) t (.agg xs) (.agg ys) b:=fun d w=>by
 have hf:P.fieldsOf t=fs:=by simp[Program.fieldsOf,hu]
 have:=run_equalIn_struct (P:=P) w (d+k) t xs ys (by rw[hf];exact hu) hp
 rw[show d+(k+1)=(d+k)+1 from by omega,this,hf]
 exact h d w
section
variable{N:Nat}{E:Env}{Γ:List aj}{dst:Option Tmp}{ty:TypeId}{pos:String}{after:Array Edge}{guard:Option (Nat×Bool)}
theorem Reads.Rx{k t x y t'}{xs ys:Array Value}{b:Bool}(hg:P.eqGuardType P.depth t=false)(hk:Nat.ble k 10000=true)(h:BC P k t (.agg xs) (.agg ys) b)(hx:ev E x=some (.agg xs))(hy:ev E y=some (.agg ys)):
  Reads P N E Γ ⟨dst,.binOp .eql t x y t',ty,pos,after,guard⟩ (.bool b):=
 .bin hx hy (fun w=>run_eqGuard_agg w .eql t x y xs ys hg) fun w=>by
  have Gs:=Nat.le_of_ble_eq_true hk
  have:=h (10000-k) w
  rw[show 10000-k+k=10000 from by omega]at this
  rw[run_eql_struct,this];rfl
theorem Reads.Ry{k t x y t'}{xs ys:Array Value}{b:Bool}(hg:P.eqGuardType P.depth t=false)(hk:Nat.ble k 10000=true)(h:BC P k t (.agg xs) (.agg ys) b)(hx:ev E x=some (.agg xs))(hy:ev E y=some (.agg ys)):
  Reads P N E Γ ⟨dst,.binOp .neq t x y t',ty,pos,after,guard⟩ (.bool (!b)):=
 .bin hx hy (fun w=>run_eqGuard_agg w .neq t x y xs ys hg) fun w=>by
  have Gs:=Nat.le_of_ble_eq_true hk
  have:=h (10000-k) w
  rw[show 10000-k+k=10000 from by omega]at this
  rw[run_neq_struct,this];rfl
end
def Rz(P:Program)(k:Nat)(t:TypeId)(v:Value):Prop:=∀em n w,(Instr.checkKey em (n+k) t v).run P w=.ok () w
inductive Ou (P:Program) (k:Nat) (xs:Array Value):List Field→Prop
 |nil:Ou P k xs []
 |cons {f fs a}:f.name≠ "_" →(∀w,(part f.type xs f.offset).run P w=.ok a w)→Rz P k f.type a→Ou P k xs fs→Ou P k xs (f::fs)
structure KL(P:Program)(k:TypeId){κ:Type}[DecidableEq κ](enc:κ→Value):Prop where
 inj:∀x y,enc x=enc y→x=y
 check:∀em x w,(Instr.checkKey em 10000 k (enc x)).run P w=.ok () w
 find:∀x (es:List MapEntry) (ks:List κ),es.map (·.key)=ks.map enc→∀w,(Instr.findKey k (enc x) es).run P w=.ok ((ks.findIdx? fun y=>decide (x=y)).bind fun i=>(es[i]?).map fun e=>(i,e.val)) w
 stays:∀x w,(Instr.keyThatStays (enc x) (enc x)).run P w=.ok (enc x) w
theorem findNow_spec{κ:Type}[DecidableEq κ]{enc:κ→Value}{kd:TypeDesc}(h:∀x y,Instr.sameNow kd (enc x) (enc y)=some (decide (x=y)))(x:κ):∀(es:List MapEntry) (ks:List κ) (i:Nat),es.map (·.key)=ks.map enc→
  Instr.findNow kd (enc x) es i=some ((ks.findIdx? fun y=>decide (x=y)).bind fun j=>(es[j]?).map fun e=>(i+j,e.val))
 |[],[],_,_=>rfl
 |[],_::_,_,e=>by simp at e
 |_::_,[],_,e=>by simp at e
 |e::es,y::ks,i,h0=>by
  simp only[List.map_cons,List.cons.injEq]at h0
  obtain⟨h1,h2⟩:=h0
  simp only[Instr.findNow,h1,h x y]
  by_cases Je:x=y
  ·
   subst Je;simp[List.findIdx?_cons]
  ·
   simp only[Je,decide_false,List.findIdx?_cons,Bool.false_eq_true,if_false]
   rw[findNow_spec h x es ks (i+1) h2]
   cases List.findIdx? (fun y=>decide (x=y)) ks with
   |none=>rfl
   |some j=>simp[Nat.add_assoc,Nat.add_comm 1 j]
theorem pb{κ:Type}[DecidableEq κ]{enc:κ→Value}{k:TypeId}(h:∀x y w,(Op.equal k (enc x) (enc y)).run P w=.ok (decide (x=y)) w)(x:κ)(w:World):∀(es:List MapEntry) (ks:List κ) (i:Nat),es.map (·.key)=ks.map enc→
  (Instr.findAsking k (enc x) es i).run P w=.ok ((ks.findIdx? fun y=>decide (x=y)).bind fun j=>(es[j]?).map fun e=>(i+j,e.val)) w
 |[],[],_,_=>rfl
 |[],_::_,_,e=>by simp at e
 |_::_,[],_,e=>by simp at e
 |e::es,y::ks,i,h0=>by
  simp only[List.map_cons,List.cons.injEq]at h0
  obtain⟨h1,h2⟩:=h0
  simp only[Instr.findAsking,h1,Sem.run_bind,h x y w,Result.andThen_ok]
  by_cases Je:x=y
  ·
   subst Je;simp[List.findIdx?_cons]
  ·
   simp only[Je,decide_false,List.findIdx?_cons,Bool.false_eq_true,if_false]
   rw[pb h x w es ks (i+1) h2]
   cases List.findIdx? (fun y=>decide (x=y)) ks with
   |none=>rfl
   |some j=>simp[Nat.add_assoc,Nat.add_comm 1 j]
theorem mD{κ:Type}[DecidableEq κ]{enc:κ→Value}{k:TypeId}{kd:TypeDesc}(hu:P.underlying k=some kd)(h:∀x y,Instr.sameNow kd (enc x) (enc y)=some (decide (x=y)))(x:κ)(es:List MapEntry)(ks:List κ)(hk:es.map (·.key)=ks.map enc)(w:World):
  (Instr.findKey k (enc x) es).run P w=.ok ((ks.findIdx? fun y=>decide (x=y)).bind fun i=>(es[i]?).map fun e=>(i,e.val)) w:=by
 simp only[Instr.findKey,underlying,Sem.run_bind,run_program,Result.andThen_ok,hu,Sem.run_pure,findNow_spec h x es ks 0 hk]
 simp
theorem KL.int{k:TypeId}{q:IntKind}(hu:P.underlying k=some (.int q)):KL P k (fun n:Int=>.int q n) where
 inj _ _ e:=by simpa using e
 check em x w:=by
  have:∀n,(Instr.checkKey em (n+1) k (.int q x)).run P w=.ok () w:=fun n=>by simp[Instr.checkKey,underlying,hu]
  exact this 9999
 find:=mD hu fun x y=>by simp only[Instr.sameNow,if_true];congr 1
 stays x w:=by simp[Instr.keyThatStays,Instr.sameBits]
theorem KL.string{k:TypeId}(hu:P.underlying k=some .string):KL P k (fun s:ByteArray=>.string s) where
 inj _ _ e:=by simpa using e
 check em x w:=by
  have:∀n,(Instr.checkKey em (n+1) k (.string x)).run P w=.ok () w:=fun n=>by simp[Instr.checkKey,underlying,hu]
  exact this 9999
 find:=mD hu fun x y=>by simp only[Instr.sameNow,JJ]
 stays x w:=by simp[Instr.keyThatStays,Instr.sameBits,JJ]
def mp{κ ν:Type}[DecidableEq κ](enc:κ→Value)(bQ:ν→Value)(b:Nat)(l:List (κ×ν)):aj:=fun h=>
 ∃es clock,h b=some (false,.map es clock)∧es.toList.map (fun e=>(e.key,e.val))=l.map (fun p=>(enc p.1,bQ p.2))∧(l.map (·.1)).Nodup∧
  (es.toList.map (·.born)).Nodup∧∀e∈es.toList,e.born<clock
section
variable{κ ν:Type}[DecidableEq κ]{enc:κ→Value}{bQ:ν→Value}
def bK(l:List (κ×ν))(x:κ):Option ν:=(l.find? fun p=>decide (x=p.1)).map (·.2)
def bT(l:List (κ×ν))(x:κ)(v:ν):List (κ×ν):=if l.any (fun p=>decide (x=p.1))then l.map (fun p=>if x=p.1 then(p.1,v)else p)else l++[(x,v)]
def cQ(l:List (κ×ν))(x:κ):List (κ×ν):=l.filter fun p=>!decide (x=p.1)
theorem mE(x:κ):bK ([]:List (κ×ν)) x=none:=rfl
theorem bu(p:κ×ν)(l:List (κ×ν))(x:κ):bK (p::l) x=if x=p.1 then some p.2 else bK l x:=by
 unfold bK
 by_cases h:x=p.1<;>simp[h]
theorem vS(l l':List (κ×ν))(x:κ):bK (l++l') x=(bK l x).or (bK l' x):=by
 induction l with
 |nil=>simp[mE]
 |cons p l ih=>rw[List.cons_append,bu,bu,ih];by_cases h:x=p.1<;>simp[h]
theorem fV{l:List (κ×ν)}{x:κ}:bK l x=none↔l.any (fun p=>decide (x=p.1))=false:=by
 induction l with
 |nil=>simp[mE]
 |cons p l ih=>rw[bu];by_cases h:x=p.1<;>simp[h,ih]
theorem nL(l:List (κ×ν))(x y:κ)(v:ν):bK (bT l x v) y=if y=x then some v else bK l y:=by
 unfold bT
 split
 ·
  rename_i h
  induction l with
  |nil=>simp at h
  |cons p l ih=>
   rw[List.map_cons,bu,bu]
   by_cases hp:x=p.1
   ·
    subst hp
    by_cases hy:y=p.1
    ·
     simp[hy]
    ·
     simp only[if_true,hy,if_false]
     by_cases h2:l.any (fun q=>decide (p.1=q.1))=true
     ·
      rw[ih h2];simp[hy]
     ·
      have:l.map (fun q=>if p.1=q.1 then(q.1,v)else q)=l:=by
       refine(List.map_congr_left (g:=id) fun q hq=>?_).trans (List.map_id _)
       have:¬p.1=q.1:=fun e=>h2 (List.any_eq_true.2 ⟨q,hq,by simp[e]⟩)
       simp[this]
      rw[this]
   ·
    simp only[hp,if_false]
    have h2:l.any (fun q=>decide (x=q.1))=true:=by simpa[hp]using h
    rw[ih h2]
    by_cases hy:y=p.1
    ·
     have:y≠x:=fun e=>hp (e▸hy)
     simp[hy,Ne.symm hp]
    ·
     simp[hy]
 ·
  rename_i h
  rw[vS,bu,mE]
  by_cases hy:y=x
  ·
   subst hy
   have:bK l y=none:=fV.2 (Bool.eq_false_iff.2 h)
   simp[this]
  ·
   simp[hy]
theorem BD(l:List (κ×ν))(x y:κ):bK (cQ l x) y=if y=x then none else bK l y:=by
 unfold cQ
 induction l with
 |nil=>simp[mE]
 |cons p l ih=>
  rw[List.filter_cons]
  by_cases hp:x=p.1
  ·
   subst hp
   simp only[decide_true,Bool.not_true,Bool.false_eq_true,if_false]
   rw[ih,bu]
   by_cases hy:y=p.1<;>simp[hy]
  ·
   simp only[hp,decide_false,Bool.not_false,if_true]
   rw[bu,bu,ih]
   by_cases hy:y=p.1
   ·
    have:y≠x:=fun e=>hp (e▸hy)
    simp[hy,Ne.symm hp]
   ·
    simp[hy]
theorem nM(l:List (κ×ν))(x:κ)(v:ν):(bT l x v).map (·.1)=if l.any (fun p=>decide (x=p.1))then l.map (·.1)else l.map (·.1)++[x]:=by
 unfold bT
 split
 ·
  rw[List.map_map]
  refine List.map_congr_left fun p _=>?_
  simp only[Function.comp]
  split<;>rfl
 ·
  simp
theorem fb{l:List (κ×ν)}(h:(l.map (·.1)).Nodup)(x:κ)(v:ν):((bT l x v).map (·.1)).Nodup:=by
 rw[nM]
 split
 ·
  exact h
 ·
  rename_i hn
  rw[List.nodup_append]
  refine⟨h,by simp,fun a ha b hb e=>?_⟩
  simp at hb
  subst hb e
  obtain⟨p,hp,L8⟩:=List.mem_map.1 ha
  exact hn (List.any_eq_true.2 ⟨p,hp,by simp[L8]⟩)
theorem iz{l:List (κ×ν)}(h:(l.map (·.1)).Nodup)(x:κ):((cQ l x).map (·.1)).Nodup:=by
 unfold cQ
 exact h.sublist ((List.filter_sublist).map _)
theorem Sat.kp{A w b Γ}{l:List (κ×ν)}(s:Sat A w (Sp.mp enc bQ b l::Γ)):∃es clock,w.heap[b]?=some (.map es clock)∧es.toList.map (fun e=>(e.key,e.val))=l.map (fun p=>(enc p.1,bQ p.2))∧(l.map (·.1)).Nodup∧
  (es.toList.map (·.born)).Nodup∧(∀e∈es.toList,e.born<clock)∧Sat A w (Sp.own b (.map es clock)::Γ):=by
 obtain⟨a,h,f,h1,h2,ok,l1,l2,⟨es,clock,e0,e1,e2,e3,e4⟩,t⟩:=s
 exact⟨es,clock,f b _ (l1 b _ e0),e1,e2,e3,e4,a,h,f,h1,h2,ok,l1,l2,e0,t⟩
theorem Sat.vT{A w b Γ}{l:List (κ×ν)}{es:Array MapEntry}{clock:Nat}(s:Sat A w (Sp.own b (.map es clock)::Γ))(e1:es.toList.map (fun e=>(e.key,e.val))=l.map (fun p=>(enc p.1,bQ p.2)))(e2:(l.map (·.1)).Nodup)
  (e3:(es.toList.map (·.born)).Nodup) (e4:∀e∈es.toList,e.born<clock):Sat A w (Sp.mp enc bQ b l::Γ):=by
 obtain⟨a,h,f,h1,h2,ok,l1,l2,e0,t⟩:=s
 exact⟨a,h,f,h1,h2,ok,l1,l2,⟨es,clock,e0,e1,e2,e3,e4⟩,t⟩
theorem kP{L9 Qe:Type}{Ma:L9→Value}{Mb:Qe→Value}{es:List MapEntry}{l:List (L9×Qe)}(e:es.map (fun e=>(e.key,e.val))=l.map (fun p=>(Ma p.1,Mb p.2))):es.map (·.key)=(l.map (·.1)).map Ma:=by
 have:=congrArg (List.map Prod.fst) e
 simpa[List.map_map,Function.comp_def]using this
theorem mF{es:List MapEntry}{l:List (κ×ν)}(e:es.map (fun e=>(e.key,e.val))=l.map (fun p=>(enc p.1,bQ p.2)))(x:κ):
  (((l.map (·.1)).findIdx? fun y=>decide (x=y)).bind fun i=>(es[i]?).map fun e=>(i,e.val))=((l.map (·.1)).findIdx? fun y=>decide (x=y)).bind fun i=>(l[i]?).map fun p=>(i,bQ p.2):=by
 cases hh:(l.map (·.1)).findIdx? fun y=>decide (x=y)with
 |none=>rfl
 |some i=>
  simp only[Option.bind_some]
  have:=congrArg (fun l=>l[i]?) e
  simp only[List.getElem?_map]at this
  cases e1:es[i]? with
  |none=>cases e2:l[i]? with
   |none=>rfl
   |some p=>simp[e1,e2]at this
  |some en=>cases e2:l[i]? with
   |none=>simp[e1,e2]at this
   |some p=>simp[e1,e2]at this⊢;exact this.2
theorem gP(l:List (κ×ν))(x:κ):(((l.map (·.1)).findIdx? fun y=>decide (x=y)).bind fun i=>(l[i]?).map (·.2))=bK l x:=by
 induction l with
 |nil=>rfl
 |cons p l ih=>
  rw[bu,List.map_cons,List.findIdx?_cons]
  by_cases h:x=p.1
  ·
   simp[h]
  ·
   simp only[h,decide_false,Bool.false_eq_true,if_false,←ih]
   cases List.findIdx? (fun y=>decide (x=y)) (l.map (·.1))<;>simp
variable{N:Nat}{E:Env}{Γ aI:List aj}{dst:Option Tmp}{ty:TypeId}{pos:String}{after:Array Edge}{guard:Option (Nat×Bool)}
theorem Reads.lookup{t k e x ix b z}{l:List (κ×ν)}{q:κ}(K:KL P k enc)(hu:P.underlying t=some (.map k e))(hz:∀w,(zeroValue e).run P w=.ok z w)(hx:ev E x=some (.map (some b)))(hi:ev E ix=some (enc q))(p:bD (mp enc bQ b l) Γ aI):
  Reads P N E Γ ⟨dst,.lookup t x ix false,ty,pos,after,guard⟩ (((bK l q).map bQ).getD z):=fun A w a hf hs=>by
 obtain⟨es,clock,hh,e1,e2,e3,e4,_⟩:=(hs.map fun _=>p.bh).kp
 have ja:=K.find q es.toList (l.map (·.1)) (kP e1) w
 rw[mF e1]at ja
 have hg:(getObj b).run P w=.ok (.map es clock) w:=by simp[getObj,Sem.run,hh]
 have h2:=gP l q
 simp only[execOp,hf.eval hx,hf.eval hi,Instr.lookup,Sem.run_bind,underlying,run_program,Result.andThen_ok,hu,Sem.run_pure,hg,K.check,ja]
 cases hj:(l.map (·.1)).findIdx? fun y=>decide (q=y)with
 |none=>simp[hj]at h2⊢;rw[hz];simp[←h2]
 |some i=>
  simp only[hj,Option.bind_some]at h2⊢
  cases hp:l[i]? with
  |none=>
   have cO:=(List.findIdx?_eq_some_iff_findIdx_eq.1 hj).1
   have:l.length≤i:=List.getElem?_eq_none_iff.1 hp
   simp at cO;omega
  |some pr=>simp[hp]at h2⊢;simp[←h2]
theorem Reads.kq{t k e x ix b z}{l:List (κ×ν)}{q:κ}(K:KL P k enc)(hu:P.underlying t=some (.map k e))(hz:∀w,(zeroValue e).run P w=.ok z w)(hx:ev E x=some (.map (some b)))(hi:ev E ix=some (enc q))(p:bD (mp enc bQ b l) Γ aI):
  Reads P N E Γ ⟨dst,.lookup t x ix true,ty,pos,after,guard⟩ (.tuple #[((bK l q).map bQ).getD z,.bool (bK l q).isSome]):=fun A w a hf hs=>by
 obtain⟨es,clock,hh,e1,e2,e3,e4,_⟩:=(hs.map fun _=>p.bh).kp
 have ja:=K.find q es.toList (l.map (·.1)) (kP e1) w
 rw[mF e1]at ja
 have hg:(getObj b).run P w=.ok (.map es clock) w:=by simp[getObj,Sem.run,hh]
 have h2:=gP l q
 simp only[execOp,hf.eval hx,hf.eval hi,Instr.lookup,Sem.run_bind,underlying,run_program,Result.andThen_ok,hu,Sem.run_pure,hg,K.check,ja]
 cases hj:(l.map (·.1)).findIdx? fun y=>decide (q=y)with
 |none=>simp[hj]at h2⊢;rw[hz];simp[←h2]
 |some i=>
  simp only[hj,Option.bind_some]at h2⊢
  cases hp:l[i]? with
  |none=>
   have cO:=(List.findIdx?_eq_some_iff_findIdx_eq.1 hj).1
   have:l.length≤i:=List.getElem?_eq_none_iff.1 hp
   simp at cO;omega
  |some pr=>simp[hp]at h2⊢;simp[←h2]
theorem Sat.setObj{A w b o o' Γ}(s:Sat A w (Sp.own b o::Γ))(ho:∀c e f,o≠Obj.cells c e f):(Go.setObj b o').run P w=.ok () {w with heap:=w.heap.setIfInBounds b o'}∧Sat A {w with heap:=w.heap.setIfInBounds b o'} (Sp.own b o'::Γ):=by
 have hh:=s.own
 have cO:b<w.heap.size:=(Array.getElem?_eq_some_iff.1 hh).1
 refine⟨?_,s.update ?_ ?_ rfl⟩
 ·
  cases o<;>first|exact absurd rfl (ho _ _ _)|simp[Go.setObj,Sem.run,hh]
 ·
  show(w.heap.setIfInBounds b o')[b]?=_
  simp[cO]
 ·
  intro c hc
  show(w.heap.setIfInBounds b o')[c]?=_
  rw[Array.getElem?_setIfInBounds_ne (Ne.symm hc)]
theorem jA{l:List (κ×ν)}{q:κ}{v:ν}{i:Nat}(hn:(l.map (·.1)).Nodup)(h:((l.map (·.1)).findIdx? fun y=>decide (q=y))=some i):i<l.length∧(l[i]?).map (·.1)=some q∧bT l q v=l.set i (q,v):=by
 obtain⟨cO,h2⟩:=List.findIdx?_eq_some_iff_findIdx_eq.1 h
 have BE:i<l.length:=by simpa using cO
 obtain⟨hq,_⟩:=(List.findIdx?_eq_some_iff_getElem.1 h).2
 simp at hq
 refine⟨BE,by simp[BE,hq],?_⟩
 unfold bT
 rw[if_pos (List.any_eq_true.2 ⟨l[i],List.getElem_mem BE,by simp[hq]⟩)]
 apply List.ext_getElem?
 intro j
 rw[List.getElem?_map,List.getElem?_set]
 by_cases hj:i=j
 ·
  subst hj;simp[BE,hq]
 ·
  simp only[hj,if_false]
  by_cases BF:j<l.length
  ·
   have dx:q≠l[j].1:=by
    intro e
    have:=List.pairwise_iff_getElem.1 hn
    rcases Nat.lt_or_ge i j with qo|qo
    ·
     exact this i j (by simpa using BE) (by simpa using BF) qo (by simp[←hq,e])
    ·
     exact this j i (by simpa using BF) (by simpa using BE) (by omega) (by simp[←hq,e])
   simp[BF,dx]
  ·
   simp[BF]
theorem Dl{l:List (κ×ν)}{q:κ}{v:ν}(h:((l.map (·.1)).findIdx? fun y=>decide (q=y))=none):bT l q v=l++[(q,v)]:=by
 unfold bT
 rw[if_neg]
 intro h1
 obtain⟨p,hp,hq⟩:=List.any_eq_true.1 h1
 have:=List.findIdx?_eq_none_iff.1 h p.1 (List.mem_map_of_mem hp)
 simp at this hq
 exact this hq
theorem dU.mapUpdate{t k e x ix y b}{l:List (κ×ν)}{q:κ}{u:ν}(K:KL P k enc)(hu:P.underlying t=some (.map k e))(hx:ev E x=some (.map (some b)))(hi:ev E ix=some (enc q))(hy:ev E y=some (bQ u))(p:bD (mp enc bQ b l) Γ aI):
  dU P N E Γ ⟨dst,.mapUpdate t x ix y,ty,pos,after,guard⟩ fun _ cz=>cz=mp enc bQ b (bT l q u)::aI:=by
 intro A F w a nx Z hf cv hn
 obtain⟨es,clock,hh,e1,e2,e3,e4,hs⟩:=(cv.map fun _=>(p.app F).bh).kp
 have ja:=K.find q es.toList (l.map (·.1)) (kP e1) w
 have hg:(getObj b).run P w=.ok (.map es clock) w:=by simp[getObj,Sem.run,hh]
 have hlen:es.toList.length=l.length:=by simpa using congrArg List.length e1
 unfold Oper.wp
 cases hj:(l.map (·.1)).findIdx? fun y=>decide (q=y)with
 |none=>
  obtain⟨r1,s1⟩:=Sat.setObj (P:=P) (o':=.map (es.push {key:=enc q,val:=bQ u,born:=clock}) (clock+1)) hs (by simp)
  simp only[hj,Option.bind_none]at ja
  simp[execOp,hf.eval hx,hf.eval hi,hf.eval hy,Instr.mapUpdate,underlying,hu,hg,K.check,ja,r1,Oper.upon]
  refine hn _ _ _ rfl (Sat.vT s1 ?_ (fb e2 _ _) ?_ ?_)
  ·
   rw[Dl hj];simp[e1]
  ·
   simp only[Array.toList_push,List.map_append,List.map_cons,List.map_nil]
   rw[List.nodup_append]
   refine⟨e3,by simp,fun x hx y hy e=>?_⟩
   simp at hy;subst hy e
   obtain⟨en,jT,he⟩:=List.mem_map.1 hx
   have:=e4 en jT
   omega
  ·
   intro en jT
   simp at jT
   rcases jT with jT|rfl
   ·
    have:=e4 en (by simpa using jT);omega
   ·
    simp
 |some i=>
  obtain⟨cO,hq,BG⟩:=jA (v:=u) e2 hj
  have uf:i<es.toList.length:=by omega
  have BH:(es[i]?).map (·.key)=some (enc q):=by
   have h0:es.toList[i]?=es[i]?:=Array.getElem?_toList
   have:=congrArg (fun l=>(l[i]?).map Prod.fst) e1
   simp only[List.getElem?_map,Option.map_map]at this
   rw[←h0]
   cases hl:l[i]? with
   |none=>simp[hl]at hq
   |some pr=>simp[hl]at hq this;rw[hq]at this;simpa[Function.comp_def]using this
  have vU:∃en,es[i]?=some en:=by
   cases h:es[i]? with
   |none=>simp[h]at BH
   |some en=>exact⟨en,rfl⟩
  obtain⟨en,jT⟩:=vU
  simp only[hj,Option.bind_some,Array.getElem?_toList,jT,Option.map_some]at ja
  have JK:en.key=enc q:=by simpa[jT]using BH
  obtain⟨r1,s1⟩:=Sat.setObj (P:=P) (o':=.map (es.modify i fun e=>{e with key:=enc q,val:=bQ u}) clock) hs (by simp)
  simp[execOp,hf.eval hx,hf.eval hi,hf.eval hy,Instr.mapUpdate,underlying,hu,hg,K.check,ja,jT,JK,K.stays,r1,Oper.upon]
  have uq:(es.modify i fun e=>{e with key:=enc q,val:=bQ u}).toList=es.toList.set i {en with key:=enc q,val:=bQ u}:=by
   apply List.ext_getElem?
   intro j
   rw[Array.getElem?_toList,Array.getElem?_modify,List.getElem?_set]
   by_cases fU:i=j
   ·
    subst fU;simp[jT];simpa using uf
   ·
    simp[fU]
  refine hn _ _ _ rfl (Sat.vT s1 ?_ (fb e2 _ _) ?_ ?_)
  ·
   rw[BG,uq,List.map_set,List.map_set,e1]
  ·
   rw[uq,List.map_set]
   have:(es.toList.map (·.born)).set i en.born=es.toList.map (·.born):=by
    apply List.ext_getElem?
    intro j
    rw[List.getElem?_set]
    by_cases fU:i=j
    ·
     subst fU
     have h0:es.toList[i]?=some en:=by rw[Array.getElem?_toList];exact jT
     simp[h0]
     simpa using uf
    ·
     simp[fU]
   simp only[this];exact e3
  ·
   intro x hx
   rw[uq]at hx
   rcases List.mem_or_eq_of_mem_set hx with hx|rfl
   ·
    exact e4 x hx
   ·
    exact e4 en (by rw[Array.mem_toList_iff];exact Array.mem_of_getElem? jT)
theorem da{α β:Type}(f:α→β):∀(l:List α) (j:Nat),(l.eraseIdx j).map f=(l.map f).eraseIdx j
 |[],_=>by simp
 |_::_,0=>by simp
 |x::l,j+1=>by simp[da f l j]
theorem dU.BI{args:Array Operand}{ts:Array TypeId}{t tk k e x ix b}{l:List (κ×ν)}{q:κ}(K:KL P k enc)(ha:args=#[x,ix])(o6:ts=#[t,tk])(hu:P.underlying t=some (.map k e))(hx:ev E x=some (.map (some b)))(hi:ev E ix=some (enc q))(p:bD (mp enc bQ b l) Γ aI):
  dU P N E Γ ⟨dst,.call ⟨.builtin .delete,args,ts⟩,ty,pos,after,guard⟩ fun _ cz=>cz=mp enc bQ b (cQ l q)::aI:=by
 subst ha o6
 intro A F w a nx Z hf cv hn
 obtain⟨es,clock,hh,e1,e2,e3,e4,hs⟩:=(cv.map fun _=>(p.app F).bh).kp
 have ja:=K.find q es.toList (l.map (·.1)) (kP e1) w
 have hg:(getObj b).run P w=.ok (.map es clock) w:=by simp[getObj,Sem.run,hh]
 have hlen:es.toList.length=l.length:=by simpa using congrArg List.length e1
 unfold Oper.wp
 cases hj:(l.map (·.1)).findIdx? fun y=>decide (q=y)with
 |none=>
  obtain⟨r1,s1⟩:=Sat.setObj (P:=P) (o':=.map es clock) hs (by simp)
  simp only[hj,Option.bind_none]at ja
  simp[execOp,resolve,invoke,builtin,hf.eval hx,hf.eval hi,Builtin.delete_,underlying,hu,hg,K.check,ja,r1,Oper.upon]
  refine hn _ _ _ rfl (Sat.vT s1 ?_ (iz e2 _) e3 e4)
  have:cQ l q=l:=by
   unfold cQ
   rw[List.filter_eq_self]
   intro pr yz
   have:=List.findIdx?_eq_none_iff.1 hj pr.1 (List.mem_map_of_mem yz)
   simpa using this
  rw[this];exact e1
 |some i=>
  obtain⟨cO,hq,_⟩:=jA (v:=(l[i]'(by simpa using(List.findIdx?_eq_some_iff_findIdx_eq.1 hj).1)).2) e2 hj
  have uf:i<es.toList.length:=by omega
  have vU:∃en,es[i]?=some en:=⟨es.toList[i],by rw[←Array.getElem?_toList];simp⟩
  obtain⟨en,jT⟩:=vU
  simp only[hj,Option.bind_some,Array.getElem?_toList,jT,Option.map_some]at ja
  obtain⟨r1,s1⟩:=Sat.setObj (P:=P) (o':=.map (es.eraseIdxIfInBounds i) clock) hs (by simp)
  simp[execOp,resolve,invoke,builtin,hf.eval hx,hf.eval hi,Builtin.delete_,underlying,hu,hg,K.check,ja,r1,Oper.upon]
  have GG:(es.eraseIdxIfInBounds i).toList=es.toList.eraseIdx i:=by
   have Qf:i<es.size:=by simpa using uf
   simp[Array.eraseIdxIfInBounds,Qf]
  have GH:cQ l q=l.eraseIdx i:=by
   unfold cQ
   have Ov:l[i].1=q:=by simpa[cO]using hq
   obtain⟨A',x,B',rfl,hA⟩:∃A' x B',l=A'++x::B'∧A'.length=i:=⟨l.take i,l[i],l.drop (i+1),by simp,by simp;omega⟩
   subst hA
   have sE:x.1=q:=by simpa using Ov
   simp only[List.map_append,List.map_cons,List.nodup_append,List.nodup_cons]at e2
   obtain⟨_,⟨n2,_⟩,n3⟩:=e2
   rw[List.eraseIdx_append_of_length_le (Nat.le_refl _)]
   simp only[Nat.sub_self,List.eraseIdx_cons_zero,List.filter_append,List.filter_cons]
   have f1:A'.filter (fun p=>!decide (q=p.1))=A':=List.filter_eq_self.2 fun p hp=>by
    have:=n3 p.1 (List.mem_map_of_mem hp) x.1 (by simp)
    simp;intro e;exact this (by rw[sE];exact e.symm)
   have f2:B'.filter (fun p=>!decide (q=p.1))=B':=List.filter_eq_self.2 fun p hp=>by
    simp;intro e;apply n2;rw[sE,e];exact List.mem_map_of_mem hp
   simp[f1,f2,sE]
  refine hn _ _ _ rfl (Sat.vT s1 ?_ (iz e2 _) ?_ ?_)
  ·
   rw[GH,GG,da,da,e1]
  ·
   rw[GG,da];exact e3.sublist (List.eraseIdx_sublist _ _)
  ·
   intro x hx
   rw[GG]at hx
   exact e4 x (List.mem_of_mem_eraseIdx hx)
theorem dU.makeMap{t:TypeId}:dU P N E Γ ⟨dst,.makeMap t none,ty,pos,after,guard⟩ fun v cz=>∃b,v=.map (some b)∧cz=mp enc bQ b []::Γ:=by
 intro A F w a nx Z hf cv hn
 unfold Oper.wp
 simp[execOp,Instr.makeMap,Oper.upon]
 refine hn _ _ _ ⟨w.heap.size,rfl,rfl⟩ ?_
 exact Sat.vT (cv.alloc (.map #[] 0)) rfl (by simp) (by simp) (by simp)
theorem Reads.Mc{args:Array Operand}{ts:Array TypeId}{x t k e b}{l:List (κ×ν)}(ha:args=#[x])(o6:ts=#[t])(hu:P.underlying t=some (.map k e))(hx:ev E x=some (.map (some b)))(p:bD (mp enc bQ b l) Γ aI):
  Reads P N E Γ ⟨dst,.call ⟨.builtin .len,args,ts⟩,ty,pos,after,guard⟩ (.int .i64 l.length):=fun A w a hf hs=>by
 subst ha o6
 obtain⟨es,clock,hh,e1,e2,e3,e4,_⟩:=(hs.map fun _=>p.bh).kp
 have hg:(getObj b).run P w=.ok (.map es clock) w:=by simp[getObj,Sem.run,hh]
 have hlen:es.toList.length=l.length:=by simpa using congrArg List.length e1
 simp[execOp,resolve,invoke,builtin,Builtin.len_,hf.eval hx,underlying,hu,hg,goInt]
 simp at hlen;omega
end
end
theorem au{α:Type}{f:α→List Value}{w:Nat}(hw:∀x,(f x).length=w)(l:List α):(l.flatMap f).length=l.length*w:=by
 induction l with
 |nil=>simp
 |cons x l ih=>simp[List.flatMap_cons,hw,ih,Nat.succ_mul,Nat.add_comm]
theorem mG{α:Type}{f:α→List Value}{w:Nat}(hw:∀x,(f x).length=w):∀(l:List α) (i:Nat) (x:α),l[i]?=some x→∀j v,(f x)[j]?=some v→(l.flatMap f)[i*w+j]?=some v
 |[],_,_,h=>by simp at h
 |y::l,0,x,h=>fun j v hv=>by
  simp at h;subst h
  have:j<(f y).length:=(List.getElem?_eq_some_iff.1 hv).1
  rw[List.flatMap_cons,Nat.zero_mul,Nat.zero_add,List.getElem?_append_left this];exact hv
 |y::l,i+1,x,h=>fun j v hv=>by
  rw[List.flatMap_cons,List.getElem?_append_right (by rw[hw,Nat.succ_mul];omega)]
  have:=mG hw l i x (by simpa using h) j v hv
  rwa[hw,show(i+1)*w+j-w=i*w+j from by rw[Nat.succ_mul];omega]
theorem iq{α:Type}{f:α→List Value}{w:Nat}(hw:∀x,(f x).length=w):∀(l:List α) (i:Nat),(l.flatMap f).take (i*w)=(l.take i).flatMap f
 |[],i=>by simp
 |y::l,0=>by simp
 |y::l,i+1=>by
  rw[List.flatMap_cons,List.take_succ_cons,List.flatMap_cons,List.take_append,hw,←iq hw l i,List.take_of_length_le (by rw[hw,Nat.succ_mul];omega)]
  congr 2
  rw[Nat.succ_mul];omega
theorem ir{α:Type}{f:α→List Value}{w:Nat}(hw:∀x,(f x).length=w):∀(l:List α) (i:Nat),(l.flatMap f).drop (i*w)=(l.drop i).flatMap f
 |[],i=>by simp
 |y::l,0=>by simp
 |y::l,i+1=>by
  rw[List.flatMap_cons,List.drop_succ_cons,List.drop_append,hw,←ir hw l i,List.drop_eq_nil_of_le (by rw[hw,Nat.succ_mul];omega),List.nil_append]
  congr 1
  rw[Nat.succ_mul];omega
theorem vV{α:Type}{f:α→List Value}{w:Nat}(hw:∀x,(f x).length=w):∀(l:List α) (i:Nat) (x x':α),l[i]?=some x→∀j v,j<w→(f x).set j v=f x'→(l.flatMap f).set (i*w+j) v=(l.set i x').flatMap f
 |[],_,_,_,h=>by simp at h
 |y::l,0,x,x',h=>fun j v hj e=>by
  simp at h;subst h
  rw[List.flatMap_cons,Nat.zero_mul,Nat.zero_add,List.set_append_left _ _ (by rw[hw];exact hj),e];rfl
 |y::l,i+1,x,x',h=>fun j v hj e=>by
  rw[List.flatMap_cons,List.set_append_right _ _ (by rw[hw,Nat.succ_mul];omega),List.set_cons_succ,List.flatMap_cons]
  congr 1
  have:=vV hw l i x x' (by simpa using h) j v hj e
  rw[←this,hw];congr 1
  rw[Nat.succ_mul];omega
theorem Ab{pre cs post:List Value}{k:Nat}{v:Value}(hk:k<cs.length):(pre++(cs++post)).set (pre.length+k) v=pre++(cs.set k v++post):=by
 rw[List.set_append_right _ _ (by omega),List.set_append_left _ _ (by omega)];congr 3;omega
theorem Dm{pre cs post:List Value}{k:Nat}{v:Value}(h:cs[k]?=some v):(pre++(cs++post))[pre.length+k]?=some v:=by
 have hk:k<cs.length:=(List.getElem?_eq_some_iff.1 h).1
 rw[List.getElem?_append_right (by omega),List.getElem?_append_left (by omega)];rw[←h];congr 1;omega
theorem aD.elem{α:Type}{f:α→List Value}{wd:Nat}(hw:∀x,(f x).length=wd)(hp:0<wd){l:List α}{b o:Nat}{w:World}(h:aD (some ⟨b,o,none⟩) (l.flatMap f) w){i:Nat}{x:α}(hx:l[i]?=some x):aL b (o+i*wd) (f x) w:=by
 have hi:i<l.length:=(List.getElem?_eq_some_iff.1 hx).1
 rcases h with h|⟨b',o',he,h⟩
 ·
  have:=au hw l
  rw[h]at this
  have:0<l.length*wd:=Nat.mul_pos (by omega) hp
  simp at*;omega
 ·
  cases he
  refine⟨fun j v hv=>?_,fun v hv=>?_⟩
  ·
   rw[Nat.add_assoc];exact h.1 _ v (mG hw l i x hx j v hv)
  ·
   obtain⟨j,hj,rfl⟩:=List.mem_iff_getElem.1 hv
   exact h.2 _ (List.mem_of_getElem? (mG hw l i x hx j _ (List.getElem?_eq_getElem hj)))
theorem aD.addr{a:Option Addr}{cs:List Value}{w:World}(h:aD a cs w)(hn:0<cs.length):∃b o,a=some ⟨b,o,none⟩:=by
 rcases h with rfl|⟨b,o,he,_⟩
 ·
  simp at hn
 ·
  exact⟨b,o,he⟩
theorem af.elem{α:Type}{f:α→List Value}{wd:Nat}(hw:∀x,(f x).length=wd)(hp:0<wd){Γ:List aj}{l:List α}{b o:Nat}(k:af Γ (aD (some ⟨b,o,none⟩) (l.flatMap f))){i:Nat}{x:α}(hx:l[i]?=some x):af Γ (aL b (o+i*wd) (f x)):=
 k.mono fun _ h=>h.elem hw hp hx
theorem af.one{Γ:List aj}{b o:Nat}{cs:List Value}(k:af Γ (aL b o cs)){i:Nat}{v:Value}(h:cs[i]?=some v):af Γ (aL b (o+i) [v]):=k.mono fun _ x=>x.one h
section
variable{P:Program}{N:Nat}{E:Env}{Γ aI:List aj}{dst:Option Tmp}{ty:TypeId}{pos:String}{after:Array Edge}{guard:Option (Nat×Bool)}
theorem af.nN{s t e a m c ys}(k:af Γ (aD a ys))(hu:P.underlying t=some (.slice e))(hl:ys.length=m*s)(hs:0<s):af Γ (mA P s t (.slice a m c) m ys):=k.mono fun w h=>.row hu hl h fun ha=>by
 subst ha
 rcases h with rfl|⟨_,_,he,_⟩
 ·
  rcases Nat.mul_eq_zero.1 (hl.symm.trans (by simp):m*s=0)with h|h<;>omega
 ·
  cases he
theorem af.dM{s t e e' m c}{b:Nat}{ys:List Value}(p:bD (Sp.an b ys e') Γ aI)(hu:P.underlying t=some (.slice e))(hl:ys.length=m*s)(hs:0<s):af Γ (mA P s t (.slice (some ⟨b,0,none⟩) m c) m ys):=
 .nN ((af.an p).mono fun _ h=>.inr ⟨b,0,rfl,h⟩) hu hl hs
theorem af.JL{t}{s:ByteArray}(hu:P.underlying t=some .string):af Γ (mA P 1 t (.string s) s.size (byteCells s)):=fun _ _ _=>.string hu
theorem dU.clear{args:Array Operand}{ts:Array TypeId}{x t e s o7 z b o}{n cap:Nat}{l:List Value}(ha:args=#[x])(o6:ts=#[t])(hu:P.underlying t=some (.slice e))(hi:TI P e s o7 z)(hz:z.cells.size=s)(Gz:aB z.cells.toList)
  (hx:ev E x=some (.slice (some ⟨b,o,none⟩) n cap)) (p:bD (an b l e) Γ aI) (RA:o+n*s≤l.length):
  dU P N E Γ ⟨dst,.call ⟨.builtin .clear,args,ts⟩,ty,pos,after,guard⟩ fun _ cz=>cz=an b (splice l o (Builtin.zeroCells z.cells n).toList) e::aI:=by
 subst ha o6
 intro A F w ac nx Z hf cv ki
 have jR:Sat A w (an b l e::(aI++F)):=cv.map fun _=>(p.app F).bh
 have hlen:(Builtin.zeroCells z.cells n).toList.length=n*s:=by simp[Builtin.zeroCells,hz]
 obtain⟨w',hr,lu⟩:=lz (P:=P) (o:=o) jR (vs:=(Builtin.zeroCells z.cells n).toList) (by omega) (fD Gz n)
 unfold Oper.wp
 cases n with
 |zero=>
  have e0:(Builtin.zeroCells z.cells 0).toList=[]:=by simp[Builtin.zeroCells,Array.range_zero']
  simp[execOp,resolve,invoke,builtin,hf.eval hx,Builtin.clear_,underlying,hu,Oper.upon]
  refine ki _ _ w rfl ?_
  rw[e0]
  simpa[splice]using jR
 |succ n=>
  simp[execOp,resolve,invoke,builtin,hf.eval hx,Builtin.clear_,underlying,hu,hi.zero,hr,Oper.upon]
  exact ki _ _ w' rfl lu
theorem Sat.nothing{A w}{Γ:List aj}(h:Sat A w Γ):Sat A w (Sp.bh []::Γ):=by
 obtain⟨a,k,f,t⟩:=h
 exact⟨a,k,f,fun _=>none,k,fun _=>.inl rfl,fun _ _ e=>by simp at e,.refl _,trivial,t⟩
theorem bH.nothing{C:Cx}{k Q E}{Γ:List aj}(n:bH C k E (bh []::Γ) Q):bH C k E Γ Q:=fun A F w a hf hs=>n A F w a hf hs.nothing
theorem arr.iy{e s a cap cs h}(dx:0<cap)(H:arr e s a cap cs h):∃x:Nat×List Value×List Value,(a=some ⟨x.1,x.2.1.length,none⟩∧cs.length+x.2.2.length=cap*s)∧bh [an x.1 (x.2.1++(cs++x.2.2)) e] h:=by
 rcases H with⟨h1,h2⟩|⟨b,pre,post,h1,h2,h3⟩
 ·
  omega
 ·
  exact⟨(b,pre,post),⟨h1,h2⟩,h,fun _=>none,fun _=>.inr (.inl rfl),.refl _,fun _ _ e=>by simp at e,h3,trivial⟩
end
section
variable{P:Program}{N:Nat}{E:Env}{Γ aI:List aj}{dst:Option Tmp}{ty:TypeId}{pos:String}{after:Array Edge}{guard:Option (Nat×Bool)}
variable{ops:Array Oper}{rest os:List Oper}{K:Env→List aj→Prop}
theorem dU.sR{fo:Operand}{args:Array Operand}{ts:Array TypeId}{f:FuncId}{first cap:Array Value}{vs:List Value}{φ:World→Prop}{mj:List aj}{Q:Value→List aj→Prop}(GA:ev E fo=some (.func (.func f) first cap))
  (ha:yq E args.toList=some vs) (p:az mj Γ aI) (k:af aI φ) (h:Cn P f (first.toList++(vs++cap.toList)) φ mj Q):
  dU P N E Γ ⟨dst,.call ⟨.value fo,args,ts⟩,ty,pos,after,guard⟩ fun v cz=>∃fC,Q v fC∧cz=fC++aI:=by
 refine(dU.call GA ha (az.self Γ) (h.ret p k)).mono ?_
 rintro v _ ⟨_,⟨fC,hq,rfl⟩,rfl⟩
 exact⟨fC,hq,by simp⟩
theorem aZ.sR{d}{fo:Operand}{args:Array Operand}{ts:Array TypeId}{f:FuncId}{first cap:Array Value}{vs:List Value}{φ:World→Prop}{mj:List aj}{Q:Value→List aj→Prop}(GA:ev E fo=some (.func (.func f) first cap))
  (ha:yq E args.toList=some vs) (p:az mj Γ aI) (k:af aI φ) (h:Cn P f (first.toList++(vs++cap.toList)) φ mj Q) (next:∀v fC,Q v fC→aZ P N ops rest ((d,v)::E) (fC++aI) K)
  (hd:Nat.blt d N=true:=by rfl):aZ P N ops (⟨some d,.call ⟨.value fo,args,ts⟩,ty,pos,after,none⟩::rest) E Γ K:=by
 refine aZ.ef (dU.sR GA ha p k h) ?_ hd
 rintro v _ ⟨fC,hq,rfl⟩
 exact next v fC hq
theorem bH.cast{C:Cx}{k Q}{X X':aj}(h:X=X')(n:bH C k E (X'::Γ) Q):bH C k E (X::Γ) Q:=h▸n
theorem aZ.cast{X X':aj}(h:X=X')(n:aZ P N ops os E (X'::Γ) K):aZ P N ops os E (X::Γ) K:=h▸n
def bF(φ:World→Prop):aj:=fun h=>∃k:Hp,Hp.le k h∧(∀b x,k b=some x→x.1=true)∧∀w:World,Hp.fits k w→φ w
theorem af.bF{φ:World→Prop}(p:bD (Sp.bF φ) Γ aI):af Γ φ:=fun A w s=>by
 obtain⟨_,h,f,h1,h2,_,l,_,⟨k,kl,_,e⟩,_⟩:=(s.map fun _=>p.bh)
 exact e w fun b x hx=>f b x (l b x (kl b x hx))
theorem bh.Dn{φ Γ h}(s:bh (bF φ::Γ) h):bh (bF φ::bF φ::Γ) h:=by
 obtain⟨h1,h2,ok,l1,l2,⟨k,kl,kr,e⟩,t⟩:=s
 refine⟨k,h,?_,kl.trans l1,.refl _,⟨k,.refl _,kr,e⟩,h1,h2,ok,l1,l2,⟨k,kl,kr,e⟩,t⟩
 intro b
 cases hb:k b with
 |none=>exact .inl rfl
 |some x=>
  have:=kr b x hb
  exact .inr (.inr ⟨by rw[l1 b x (kl b x hb)],x.2,by rw[←this]⟩)
theorem bh.sS{φ ψ:World→Prop}(H:∀w,φ w→ψ w){h}(s:bh [bF φ] h):bF ψ h:=by
 obtain⟨h1,h2,ok,l1,l2,⟨k,kl,kr,e⟩,t⟩:=s
 exact⟨k,kl.trans l1,kr,fun w f=>H w (e w f)⟩
theorem bh.Dp{φ ψ:World→Prop}{h}(s:bh [bF φ,bF ψ] h):bF (fun w=>φ w∧ψ w) h:=by
 obtain⟨h1,h2,ok,l1,l2,⟨k,kl,kr,e⟩,h3,h4,RC,m1,m2,⟨j,jl,jr,e2⟩,_⟩:=s
 have LK:Hp.ok k j:=ok.mono kl (jl.trans m1)
 refine⟨Hp.un k j,Hp.zZ (kl.trans l1) (jl.trans (m1.trans l2)),fun b x hb=>?_,fun w f=>⟨e w fun b x hx=>f b x (Hp.dX _ _ b x hx),e2 w fun b x hx=>f b x (Hp.iL LK b x hx)⟩⟩
 cases h5:k b with
 |none=>simp[Hp.un,h5]at hb;exact jr b x hb
 |some y=>simp[Hp.un,h5]at hb;subst hb;exact kr b y h5
def gm(X:aj)(φ:World→Prop):Prop:=∀A w Γ,Sat A w (X::Γ)→Sat A w (bF φ::Γ)
theorem bh.Ac{b o φ h}(H:∀w:World,w.heap[b]?=some o→φ w)(s:ro b o h):bF φ h:=by
 refine⟨fun c=>if c=b then some (true,o)else none,fun c x hx=>?_,fun c x hx=>?_,fun w f=>H w (f b (true,o) (by simp))⟩
 ·
  by_cases hc:c=b
  ·
   subst hc;simp at hx;subst hx;exact s
  ·
   simp[hc]at hx
 ·
  by_cases hc:c=b
  ·
   subst hc;simp at hx;subst hx;rfl
  ·
   simp[hc]at hx
theorem gm.an{b l e}:gm (Sp.an b l e) (aL b 0 l):=fun A w Γ h=>by
 obtain⟨ho,fz,ul,hh,h2⟩:=h.an
 have h3:=Sat.I6 h2
 have h4:Sat A w ([ro b (.cells l.toArray e fz)]++Γ):=h3
 refine Sat.close (fun h s=>?_) h4
 obtain⟨k1,_,_,l1,_,s1,_⟩:=s
 have:=bh.Ac (φ:=aL b 0 l) (fun w' hw=>⟨fun i v hi=>by rw[cell_of hw];simpa using hi,ho⟩) s1
 obtain⟨k,kl,kr,e⟩:=this
 exact⟨k,kl.trans l1,kr,e⟩
theorem gm.arr{e s a cap cs}:gm (Sp.arr e s a cap cs) (aD a cs):=fun A w Γ h=>by
 by_cases hc:0<cap
 ·
  obtain⟨x,⟨sE,NM⟩,h1⟩:=Sat.open_ (X:=Sp.arr e s a cap cs) (fun h s=>arr.iy hc s) h
  have h2:=gm.an A w Γ (by simpa using h1)
  have h3:Sat A w ([bF (aL x.1 0 (x.2.1++(cs++x.2.2)))]++Γ):=h2
  refine Sat.close (fun h s=>bh.sS (fun w' hw=>?_) s) h3
  refine .inr ⟨x.1,x.2.1.length,sE,fun i v hi=>?_,hw.2.right.left⟩
  have:=hw.1 (x.2.1.length+i) v (Dm hi)
  simpa using this
 ·
  have h1:=h.um
  have iA:cap=0:=by omega
  have Da:cs=[]:=by
   have:=h.jz.1
   subst iA
   simp at this;exact this
  subst Da
  have h2:=h.drop.nothing
  have h3:Sat A w ([bh []]++Γ):=h2
  exact Sat.close (fun h _=>⟨fun _=>none,fun _ _ e=>by simp at e,fun _ _ e=>by simp at e,fun _ _=>.inl rfl⟩) h3
theorem bH.settle{C:Cx}{k Q}{X:aj}{φ:World→Prop}(p:bD X Γ aI)(s:gm X φ)(n:bH C k E (bF φ::aI) Q):bH C k E Γ Q:=fun A F w a hf hs=>
 n A F w a hf (s A w _ (hs.map fun _=>(p.app F).bh))
theorem aZ.settle{X:aj}{φ:World→Prop}(p:bD X Γ aI)(s:gm X φ)(n:aZ P N ops os E (bF φ::aI) K):aZ P N ops os E Γ K:=fun A F w a Z hf hs hz=>
 n A F w a Z hf (s A w _ (hs.map fun _=>(p.app F).bh)) hz
theorem bH.dup{C:Cx}{k Q}{φ:World→Prop}(p:bD (bF φ) Γ aI)(n:bH C k E (bF φ::bF φ::aI) Q):bH C k E Γ Q:=fun A F w a hf hs=>
 n A F w a hf ((hs.map fun _=>(p.app F).bh).map fun _=>bh.Dn)
theorem bh.BJ{W:World}{φ:World→Prop}(H:∀w:World,(∀(b:Nat) (o:Obj),W.heap[b]?=some o→w.heap[b]?=some o)→φ w){h}(s:base W h):bF φ h:=by
 refine⟨fun c=>(W.heap[c]?).map fun o=>(true,o),fun c x hx=>?_,fun c x hx=>?_,fun w f=>H w fun b o hb=>f b (true,o) (by simp[hb])⟩
 ·
  cases hc:W.heap[c]? with
  |none=>simp[hc]at hx
  |some o=>simp[hc]at hx;subst hx;exact s c o hc
 ·
  cases hc:W.heap[c]? with
  |none=>simp[hc]at hx
  |some o=>simp[hc]at hx;subst hx;rfl
theorem yA{pre cs post ys:List Value}{k:Nat}(hk:k+ys.length≤cs.length):splice (pre++(cs++post)) (pre.length+k) ys=pre++(splice cs k ys++post):=by
 unfold splice
 rw[List.take_append,List.take_of_length_le (by omega),Nat.add_sub_cancel_left,List.take_append_of_le_length (by omega),List.drop_append,List.drop_eq_nil_of_le (by omega),
  show pre.length+k+ys.length-pre.length=k+ys.length by omega,List.drop_append_of_le_length (by omega)]
 simp[List.append_assoc]
theorem af.RD{α:Type}{f:α→List Value}{wd:Nat}(hw:∀x,(f x).length=wd){b:Nat}{pre post:List Value}{l:List α}{e:TypeId}(p:bD (Sp.an b (pre++(l.flatMap f++post)) e) Γ aI){j:Nat}{x:α}(hx:l[j]?=some x):
  af Γ (aL b (pre.length+j*wd) (f x)):=
 .Jc p fun i v hv=>by
  rw[Nat.add_assoc]
  exact Dm (mG hw l j x hx i v hv)
end
section
variable{P:Program}{N:Nat}{E:Env}{Γ aI:List aj}{dst:Option Tmp}{ty:TypeId}{pos:String}{after:Array Edge}{guard:Option (Nat×Bool)}
theorem dU.Dq{t x y v}{b o k s cap:Nat}{cs:List Value}{e:TypeId}(hs:TS P t 1)(hx:ev E x=some (.pointer (some ⟨b,o+k,none⟩)))(hy:ev E y=some v)(p:bD (arr e s (some ⟨b,o,none⟩) cap cs) Γ aI)
  (hk:k<cs.length) (hv:v.oneCell'=true:=by rfl):
  dU P N E Γ ⟨dst,.store t x y,ty,pos,after,guard⟩ fun _ cz=>cz=arr e s (some ⟨b,o,none⟩) cap (cs.set k v)::aI:=by
 intro A F w a nx Z hf cv hn
 have h1:Sat A w (arr e s (some ⟨b,o,none⟩) cap cs::(aI++F)):=cv.map fun _=>(p.app F).bh
 obtain⟨⟨pre,post⟩,⟨rfl,h3⟩,h4⟩:=Sat.open_ (fun h=>bh.C9 (.inr (by omega))) h1
 dsimp only at h3
 have h5:Sat A w ((an b (pre++(cs++post)) e::aI)++F):=h4
 refine dU.store hs hx hy .head hv (by simp;omega) A F w a nx Z hf h5 ?_
 rintro u _ w' rfl h6
 refine hn u _ w' rfl ?_
 rw[Ab hk]at h6
 have h7:Sat A w' ([an b (pre++(cs.set k v++post)) e]++(aI++F)):=h6
 exact Sat.close (fun h s=>bh.ik (by simpa using h3) s) h7
end
def Up(k:IntKind):Prop:=k.signed=false
theorem yB{k:IntKind}(hk:k.signed=false)(v:BitVec k.bits):k.wrap (v.toNat:Int)=v.toNat:=by
 unfold IntKind.wrap
 have h:((v.toNat:Int))%(2^k.bits:Int)=v.toNat:=by
  rw[Int.emod_eq_of_lt (by omega)]
  have:=v.isLt
  exact_mod_cast this
 simp[hk,h]
theorem Ad{k:IntKind}(hk:k.signed=false)(n:Int):k.wrap n=((BitVec.ofInt k.bits n).toNat:Int):=by
 unfold IntKind.wrap
 simp only[hk,Bool.false_and,Bool.false_eq_true,if_false]
 rw[BitVec.toNat_ofInt]
 have:0≤n%(2^k.bits:Int):=Int.emod_nonneg _ (by have:(0:Int)<2^k.bits:=Int.pow_pos (by omega);omega)
 rw[Int.toNat_of_nonneg]
 ·
  norm_cast
 ·
  norm_cast
theorem gu{w:Nat}(v:BitVec w):BitVec.ofInt w (v.toNat:Int)=v:=by
 apply BitVec.eq_of_toNat_eq;simp
section
variable{P:Program}{N:Nat}{E:Env}{Γ aI:List aj}{dst:Option Tmp}{ty:TypeId}{pos:String}{after:Array Edge}{guard:Option (Nat×Bool)}
theorem Reads.Md{t x y t'}{k:IntKind}{a b:BitVec k.bits}(hk:k.signed=false)(hx:ev E x=some (.int k (a.toNat:Int)))(hy:ev E y=some (.int k (b.toNat:Int))):
  Reads P N E Γ ⟨dst,.binOp .xor t x y t',ty,pos,after,guard⟩ (.int k ((a^^^b).toNat:Int)):=by
 have:=Reads.xor (P:=P) (N:=N) (Γ:=Γ) (dst:=dst) (t:=t) (t':=t') (ty:=ty) (pos:=pos) (after:=after) (guard:=guard) hx hy
 rwa[gu,gu,yB hk]at this
theorem Reads.Me{t x y t'}{k:IntKind}{a b:BitVec k.bits}(hk:k.signed=false)(hx:ev E x=some (.int k (a.toNat:Int)))(hy:ev E y=some (.int k (b.toNat:Int))):
  Reads P N E Γ ⟨dst,.binOp .and t x y t',ty,pos,after,guard⟩ (.int k ((a&&&b).toNat:Int)):=by
 have:=Reads.and (P:=P) (N:=N) (Γ:=Γ) (dst:=dst) (t:=t) (t':=t') (ty:=ty) (pos:=pos) (after:=after) (guard:=guard) hx hy
 rwa[gu,gu,yB hk]at this
theorem Reads.Ow{t x}{k:IntKind}{a:BitVec k.bits}(hk:k.signed=false)(hx:ev E x=some (.int k (a.toNat:Int))):
  Reads P N E Γ ⟨dst,.unOp .neg t x,ty,pos,after,guard⟩ (.int k ((-a).toNat:Int)):=by
 have:=Reads.C3 (P:=P) (N:=N) (Γ:=Γ) (dst:=dst) (t:=t) (ty:=ty) (pos:=pos) (after:=after) (guard:=guard) hx
 rwa[Ad hk,BitVec.ofInt_neg,gu]at this
theorem Reads.Ox{t x y t'}{k j:IntKind}{a:BitVec k.bits}{n:Nat}(hn:n≤k.bits)(hx:ev E x=some (.int k (a.toNat:Int)))(hy:ev E y=some (.int j (n:Int))):
  Reads P N E Γ ⟨dst,.binOp .shr t x y t',ty,pos,after,guard⟩ (.int k ((a>>>n).toNat:Int)):=by
 have:=Reads.shr (P:=P) (N:=N) (Γ:=Γ) (dst:=dst) (t:=t) (t':=t') (ty:=ty) (pos:=pos) (after:=after) (guard:=guard) hx hy
 rw[Nat.min_eq_left hn]at this
 have e:(a.toNat:Int).fdiv (2^n)=((a>>>n).toNat:Int):=by
  rw[BitVec.toNat_ushiftRight,Nat.shiftRight_eq_div_pow,Int.fdiv_eq_ediv_of_nonneg _ (by have:(0:Int)<2^n:=Int.pow_pos (by omega);omega)]
  norm_cast
 rwa[e]at this
theorem Reads.Oy{t x}{k:IntKind}{a:BitVec k.bits}(hk:k.signed=false)(hx:ev E x=some (.int k (a.toNat:Int))):
  Reads P N E Γ ⟨dst,.unOp .xor t x,ty,pos,after,guard⟩ (.int k ((~~~a).toNat:Int)):=fun _ w ac hf _=>by
 have hm:BitVec.ofInt k.bits k.max=BitVec.allOnes k.bits:=by cases k<;>first|rfl|cases hk
 simp[execOp,hf.eval hx,Op.unary,hk,Op.intBits,-BitVec.toNat_xor,-BitVec.toNat_not,-BitVec.toNat_ofInt]
 rw[hm,BitVec.allOnes_xor]
 exact yB hk _
end
def str(l:List UInt8):ByteArray:=⟨l.toArray⟩
def fA(l:List UInt8):List Value:=l.map fun b=>.int .u8 (b.toNat:Int)
theorem cT(l:List UInt8):(str l).size=l.length:=by simp[str,ByteArray.size]
theorem str_inj{l m:List UInt8}:str l=str m↔l=m:=by
 constructor
 ·
  intro h
  have:=congrArg (fun s:ByteArray=>s.data.toList) h
  simpa[str]using this
 ·
  rintro rfl;rfl
theorem yC(l m:List UInt8):str l++str m=str (l++m):=by
 apply ByteArray.ext
 simp[str,ByteArray.data_append]
theorem vW(l:List UInt8)(a b:Nat):(str l).extract a b=str ((l.drop a).take (b-a)):=by
 apply ByteArray.ext
 simp[str,ByteArray.data_extract,List.extract_eq_take_drop]
theorem ew(l:List UInt8):(fA l).length=l.length:=by simp[fA]
theorem Dr(l:List UInt8):aB (fA l):=aB.map l fun _=>rfl
theorem dY(l m:List UInt8):fA (l++m)=fA l++fA m:=by simp[fA]
theorem sF(l:List UInt8):byteCells (str l)=fA l:=by simp[byteCells,str,fA]
section
variable{P:Program}{N:Nat}{E:Env}{Γ aI:List aj}{dst:Option Tmp}{ty:TypeId}{pos:String}{after:Array Edge}{guard:Option (Nat×Bool)}
theorem Reads.ey{args:Array Operand}{x t ts}{l:List UInt8}(ha:args=#[x])(o6:ts=#[t])(hu:P.underlying t=some .string)(hx:ev E x=some (.string (str l))):
  Reads P N E Γ ⟨dst,.call ⟨.builtin .len,args,ts⟩,ty,pos,after,guard⟩ (.int .i64 l.length):=by
 have:=Reads.Oi (P:=P) (N:=N) (Γ:=Γ) (dst:=dst) (ty:=ty) (pos:=pos) (after:=after) (guard:=guard) ha o6 hu hx
 rwa[cT]at this
theorem Reads.fW{t x i}{l:List UInt8}{k:IntKind}{n:Int}{b:UInt8}(hu:P.underlying t=some .string)(hx:ev E x=some (.string (str l)))(hi:ev E i=some (.int k n))(h0:0≤n)
  (hb:l[n.toNat]?=some b):Reads P N E Γ ⟨dst,.index t x i,ty,pos,after,guard⟩ (.int .u8 b.toNat):=.JA hu hx hi h0 (by simpa[str]using hb)
theorem Reads.cH{t x}{l:List UInt8}{lo hi:Option Operand}{a h:Nat}(hu:P.underlying t=some .string)(hx:ev E x=some (.string (str l)))
  (yf:match lo with|none=>a=0|some o=>∃k,ev E o=some (.int k (a:Int))) (vG:match hi with|none=>h=l.length|some o=>∃k,ev E o=some (.int k (h:Int)))
  (h1:a≤h) (h2:h≤l.length):Reads P N E Γ ⟨dst,.slice t x lo hi none,ty,pos,after,guard⟩ (.string (str ((l.drop a).take (h-a)))):=by
 have:=Reads.JB (P:=P) (N:=N) (Γ:=Γ) (dst:=dst) (ty:=ty) (pos:=pos) (after:=after) (guard:=guard) hu hx yf (by rw[cT];exact vG) h1 (by rw[cT];exact h2)
 rwa[vW]at this
theorem Reads.dZ{t x y t'}{l m:List UInt8}(hx:ev E x=some (.string (str l)))(hy:ev E y=some (.string (str m)))(hl:l.length+m.length≤9223372036854775807):
  Reads P N E Γ ⟨dst,.binOp .add t x y t',ty,pos,after,guard⟩ (.string (str (l++m))):=by
 have:=Reads.cat (P:=P) (N:=N) (Γ:=Γ) (dst:=dst) (t:=t) (t':=t') (ty:=ty) (pos:=pos) (after:=after) (guard:=guard) hx hy (by rw[cT,cT];exact hl)
 rwa[yC]at this
theorem Reads.NN{t x y t'}{l m:List UInt8}(hx:ev E x=some (.string (str l)))(hy:ev E y=some (.string (str m))):
  Reads P N E Γ ⟨dst,.binOp .eql t x y t',ty,pos,after,guard⟩ (.bool (decide (l=m))):=by
 have:=Reads.Rq (P:=P) (N:=N) (Γ:=Γ) (dst:=dst) (t:=t) (t':=t') (ty:=ty) (pos:=pos) (after:=after) (guard:=guard) hx hy
 rwa[decide_eq_decide.2 str_inj]at this
theorem Reads.Ds{t x y t'}{l m:List UInt8}(hx:ev E x=some (.string (str l)))(hy:ev E y=some (.string (str m))):
  Reads P N E Γ ⟨dst,.binOp .neq t x y t',ty,pos,after,guard⟩ (.bool (!decide (l=m))):=by
 have:=Reads.Rr (P:=P) (N:=N) (Γ:=Γ) (dst:=dst) (t:=t) (t':=t') (ty:=ty) (pos:=pos) (after:=after) (guard:=guard) hx hy
 rwa[decide_eq_decide.2 str_inj]at this
theorem Reads.fc{s d e x}{a:Option Addr}{n c:Nat}{l:List UInt8}(hs:P.underlying s=some (.slice e))(he:P.underlying e=some (.int .u8))(hd:P.underlying d=some .string)
  (hx:ev E x=some (.slice a n c)) (hn:n=l.length) (k:af Γ (aD a (fA l))):Reads P N E Γ ⟨dst,.convert s d x,ty,pos,after,guard⟩ (.string (str l)):=fun A w ac hf cv=>by
 subst hn
 have hr:=k A w cv
 have key:(convert s d (.slice a l.length c)).run P w=.ok (.string (str l)) w:=by
  rcases hr with h|⟨b,o,rfl,h⟩
  ·
   have:l=[]:=by simpa[fA]using h
   subst this
   cases a with
   |none=>exact run_convert_bytes_nil w s e hs he _ _ d hd
   |some q=>exact run_convert_bytes_back w s d e q c [] hs he hd (fun j hj=>by cases hj)
  ·
   refine run_convert_bytes_back w s d e _ c l hs he hd fun j hj=>?_
   rw[cA]
   exact h.1 j _ (by simp[fA,List.getElem?_eq_getElem hj])
 simp[execOp,hf.eval hx,key]
theorem af.JM{t}{l:List UInt8}(hu:P.underlying t=some .string):af Γ (mA P 1 t (.string (str l)) l.length (fA l)):=by
 have:=af.JL (P:=P) (Γ:=Γ) (s:=str l) hu
 rwa[cT,sF]at this
end
theorem Le.skip{A B:Env}{d:Nat}{v:Value}(h:lk A d=none)(l:Le A B):Le A ((d,v)::B):=fun t u e=>by
 have hd:t≠d:=fun e'=>by subst e';rw[h]at e;cases e
 show(bif Nat.beq t d then some v else lk B t)=some u
 rw[Bool.eq_false_iff.2 fun h=>hd (Nat.eq_of_beq_eq_true h)];exact l t u e
section
variable{P:Program}{N:Nat}{ops:Array Oper}{rest:List Oper}{E:Env}{Γ:List aj}{K:Env→List aj→Prop}{ty:TypeId}{pos:String}{after:Array Edge}
theorem Ae{dst op}{g:Nat}{b:Bool}{Q:Exit→Act→World→Prop}{a:Act}{w:World}(hy:yielded ops a.tmps g≠some b)(h:ud P ops Q rest (a.put dst undef) w):
  ud P ops Q (⟨dst,op,ty,pos,after,some (g,b)⟩::rest) a w:=by
 have hw:Region.wanted ⟨dst,op,ty,pos,after,some (g,b)⟩ (yielded ops a.tmps)=false:=by
  simp only[Region.wanted]
  exact beq_eq_false_iff_ne.2 hy
 simp only[ud,hw,Bool.false_eq_true,if_false]
 exact h
theorem aZ.mH{d op}{g:Nat}{b c:Bool}{t:Nat}(hg:fS ops g=some t)(he:lk E t=some (.bool c))(dx:(c==b)=false)(hd:Nat.blt d N=true)
  (next:aZ P N ops rest ((d,undef)::E) Γ K):aZ P N ops (⟨some d,op,ty,pos,after,some (g,b)⟩::rest) E Γ K:=by
 intro A F w a Z hf hs hz
 have hy:=eZ hg hf he
 exact Ae (by rw[hy];intro e;cases e;simp at dx) (next A F w _ Z (hf.put hd undef) hs hz)
theorem aZ.bL{d op}{g:Nat}{b:Bool}{t:Nat}(hg:fS ops g=some t)(he:lk E t=some undef)(hd:Nat.blt d N=true)
  (next:aZ P N ops rest ((d,undef)::E) Γ K):aZ P N ops (⟨some d,op,ty,pos,after,some (g,b)⟩::rest) E Γ K:=by
 intro A F w a Z hf hs hz
 have hy:yielded ops a.tmps g≠some b:=by
  unfold fS at hg
  simp[yielded,hg,hf.look t _ he,undef]
 exact Ae hy (next A F w _ Z (hf.put hd undef) hs hz)
end
section
variable{P:Program}{N:Nat}{E:Env}{Γ aI:List aj}{dst:Option Tmp}{ty:TypeId}{pos:String}{after:Array Edge}{guard:Option (Nat×Bool)}
theorem sG(l:List UInt8)(c:Nat):bytesRow (str l) c=(fA l++List.replicate (c-l.length) (Value.int .u8 0)).toArray:=by
 apply Array.ext'
 simp[bytesRow,str,fA,ByteArray.size]
theorem dU.yD{s d e x}{l:List UInt8}(hs:P.underlying s=some .string)(hd:P.underlying d=some (.slice e))(he:P.underlying e=some (.int .u8))(hx:ev E x=some (.string (str l))):
  dU P N E Γ ⟨dst,.convert s d x,ty,pos,after,guard⟩ fun v cz=>∃b c,v=.slice (some ⟨b,0,none⟩) l.length c∧cz=arr e 1 (some ⟨b,0,none⟩) c (fA l)::Γ:=by
 intro A F w a nx Z hf cv hn
 have hr:=run_bytes_of_string (P:=P) w s d e (str l) hs hd he
 unfold Oper.wp
 simp only[execOp,hf.eval hx,Sem.run_bind,hr,Result.andThen_ok,Sem.run_pure,Oper.upon]
 rw[cT]at hr⊢
 have yg:=grownCap_ge w l.length 0 e
 rw[sG]
 refine hn _ _ _ ⟨w.heap.size,_,rfl,rfl⟩ ?_
 have hl:(fA l++List.replicate (grownCap w l.length 0 e-l.length) (Value.int .u8 0)).length=grownCap w l.length 0 e:=by
  rw[List.length_append,ew,List.length_replicate];omega
 have ho:aB (fA l++List.replicate (grownCap w l.length 0 e-l.length) (Value.int .u8 0)):=(Dr l).append fun v hv=>by
  rw[(List.mem_replicate.1 hv).2];rfl
 have s4:=Sat.iy ((cv.drew (w:=w)).alloc (.cells (fA l++List.replicate (grownCap w l.length 0 e-l.length) (Value.int .u8 0)).toArray e ((fA l++List.replicate (grownCap w l.length 0 e-l.length) (Value.int .u8 0)).toArray.size,(fA l++List.replicate (grownCap w l.length 0 e-l.length) (Value.int .u8 0)).toArray.size+1))) ho (.inr (by simp))
 refine Sat.close (Γ:=Γ++F) (B:=[an w.heap.size ([]++(fA l++List.replicate (grownCap w l.length 0 e-l.length) (Value.int .u8 0))) e]) (fun h' H=>?_) (by rw[List.nil_append];exact s4)
 exact bh.ik (pre:=[]) (by rw[←List.length_append,hl,Nat.mul_one]) H
end
section
variable{P:Program}{N:Nat}{ops:Array Oper}{E:Env}{Γ cG:List aj}{K:Env→List aj→Prop}{be:Nat}{listed:Array Bool}{L:List Nat}
end
def Uq{κ ν:Type}[DecidableEq κ](enc:κ→Value)(bQ:ν→Value)(b:Nat)(l:List (κ×ν))(q:κ)(s:Nat):aj:=fun h=>
 ∃es clock,h b=some (false,.map es clock)∧es.toList.map (fun e=>(e.key,e.val))=l.map (fun p=>(enc p.1,bQ p.2))∧(l.map (·.1)).Nodup∧
  (es.toList.map (·.born)).Nodup∧(∀e∈es.toList,e.born<clock)∧∃i:Nat,(es.toList.map (·.born))[i]?=some s∧(l.map (·.1))[i]?=some q
section
variable{κ ν:Type}[DecidableEq κ]{enc:κ→Value}{bQ:ν→Value}
theorem Jf{es:Array MapEntry}{i:Nat}{en:MapEntry}(f:MapEntry→MapEntry)(jT:es[i]?=some en):(es.modify i f).toList=es.toList.set i (f en):=by
 have uf:i<es.toList.length:=by
  have:=(Array.getElem?_eq_some_iff.1 jT).1
  simpa using this
 apply List.ext_getElem?
 intro j
 rw[Array.getElem?_toList,Array.getElem?_modify,List.getElem?_set]
 by_cases fU:i=j
 ·
  subst fU;simp[jT];simpa using uf
 ·
  simp[fU]
theorem Mf{α:Type}{l:List α}{i:Nat}{x:α}(h:l[i]?=some x):l.set i x=l:=by
 apply List.ext_getElem?
 intro j
 rw[List.getElem?_set]
 by_cases fU:i=j
 ·
  subst fU
  obtain⟨cO,h2⟩:=List.getElem?_eq_some_iff.1 h
  simp[cO,h2]
 ·
  simp[fU]
theorem sH{q:κ}:∀{ks:List κ} {i:Nat},ks.Nodup→ks[i]?=some q→(ks.findIdx? fun y=>decide (q=y))=some i
 |[],_,_,h=>by simp at h
 |k::ks,0,_,h=>by simp at h;subst h;simp[List.findIdx?_cons]
 |k::ks,i+1,hn,h=>by
  simp only[List.nodup_cons]at hn
  simp only[List.getElem?_cons_succ]at h
  have dx:q≠k:=fun e=>hn.1 (e▸List.mem_of_getElem? h)
  rw[List.findIdx?_cons]
  simp[dx,sH hn.2 h]
variable{P:Program}{N:Nat}{E:Env}{Γ aI:List aj}{dst:Option Tmp}{ty:TypeId}{pos:String}{after:Array Edge}{guard:Option (Nat×Bool)}
end
section
variable{P:Program}
theorem KL.Mg{k:TypeId}{κ L9:Type}[DecidableEq κ][DecidableEq L9]{enc:κ→Value}(f:L9→κ)(hf:∀x y,f x=f y→x=y)(K:KL P k enc):KL P k (fun x=>enc (f x)) where
 inj x y e:=hf _ _ (K.inj _ _ e)
 check em x w:=K.check em (f x) w
 find x es ks hk w:=by
  have:=K.find (f x) es (ks.map f) (by rw[hk,List.map_map];rfl) w
  rw[this]
  congr 2
  rw[List.findIdx?_map]
  congr 1
  funext y
  exact decide_eq_decide.2 ⟨fun h=>hf _ _ h,fun h=>by rw[h]⟩
 stays x w:=K.stays (f x) w
def vX(x:Int×Int×Int):Array Value:=#[.int .i64 x.1,.int .i64 x.2.1,.int .i64 x.2.2]
theorem Mh(x y:Int×Int×Int)(h:vX x=vX y):x=y:=by
 obtain⟨a,b,c⟩:=x;obtain⟨d,e,f⟩:=y
 simp[vX]at h⊢
 exact h
theorem Dt{e:TypeId}(hn:cn P e)(x:Int×Int×Int){i:Nat}{v:Value}(h:(vX x)[i]?=some v)(w:World):(part e (vX x) i).run P w=.ok v w:=iN hn h w
theorem Oz{e:TypeId}(hn:cn P e)(x:Int×Int×Int)(w:World):(part e (vX x) (0*1)).run P w=.ok (.int .i64 x.1) w∧(part e (vX x) (1*1)).run P w=.ok (.int .i64 x.2.1) w∧(part e (vX x) (2*1)).run P w=.ok (.int .i64 x.2.2) w:=
 ⟨Dt hn x rfl w,Dt hn x rfl w,Dt hn x rfl w⟩
end
def cD{α:Type}(f:α→aj)(l:List α):aj:=fun h=>bh (l.map f) h
theorem bh.one{Γ:List aj}{h:Hp}(s:bh Γ h):bh [fun k=>bh Γ k] h:=
 ⟨h,fun _=>none,fun _=>.inr (.inl rfl),.refl _,fun _ _ e=>by simp at e,s,trivial⟩
theorem bh.perm{As Bs:List aj}(p:As.Perm Bs):∀{h},bh As h→bh Bs h:=by
 induction p with
 |nil=>exact fun s=>s
 |cons x _ ih=>exact fun s=>bh.cons (fun _=>ih) s
 |swap x y l=>exact fun s=>s.swap
 |trans _ _ i1 i2=>exact fun s=>i2 (i1 s)
theorem cD.nil{α:Type}{f:α→aj}{h:Hp}:cD f [] h:=trivial
theorem cD.perm{α:Type}{f:α→aj}{l m:List α}(p:l.Perm m){h:Hp}(s:cD f l h):cD f m h:=bh.perm (p.map f) s
theorem cD.take{α:Type}{f:α→aj}{l m:List α}{x:α}(p:l.Perm (x::m)){h:Hp}(s:cD f l h):bh [f x,cD f m] h:=by
 have:=cD.perm p s
 exact bh.cons (fun _ s=>bh.one s) this
theorem cD.put{α:Type}{f:α→aj}{l m:List α}{x:α}(p:(x::m).Perm l){h:Hp}(s:bh [f x,cD f m] h):cD f l h:=by
 refine cD.perm p ?_
 obtain⟨h1,h2,ok,l1,l2,hx,hb⟩:=s
 obtain⟨k1,_,_,m1,_,vF,_⟩:=hb
 exact⟨h1,h2,ok,l1,l2,hx,bh.mono m1 vF⟩
section
variable{P:Program}{N:Nat}{ops:Array Oper}{os:List Oper}{E:Env}{Γ aI:List aj}{K:Env→List aj→Prop}{C:Cx}{k:List Item}{Q:Value→List aj→Prop}
theorem bH.mI{α:Type}{f:α→aj}{l m:List α}{x:α}(p:bD (cD f l) Γ aI)(hp:l.Perm (x::m))(next:bH C k E (f x::cD f m::aI) Q):bH C k E Γ Q:=
 bH.open_ (σ:=Unit) (φ:=fun _=>True) (B:=fun _=>[f x,cD f m]) p (fun _ h=>⟨(),trivial,cD.take hp h⟩) fun _ _=>next
theorem af.cD{α:Type}{f:α→aj}{l:List α}{x:α}(p:bD (Sp.cD f l) Γ aI)(hx:x∈l){φ:World→Prop}(hk:af [f x] φ):af Γ φ:=fun A w s=>by
 obtain⟨m,hm⟩:∃m,l.Perm (x::m):=by
  obtain⟨a,b,rfl⟩:=List.append_of_mem hx
  exact⟨a++b,List.perm_middle⟩
 have h1:=s.map fun _=>p.bh
 have h2:=Sat.open_ (σ:=Unit) (φ:=fun _=>True) (B:=fun _=>[f x,Sp.cD f m]) (fun _ h=>⟨(),trivial,cD.take hm h⟩) h1
 obtain⟨_,_,h3⟩:=h2
 exact hk A w (Sat.left (Γ:=[f x]) h3)
end
section
variable{P:Program}{N:Nat}{ops:Array Oper}{E:Env}{Γ cG:List aj}{K:Env→List aj→Prop}{be:Nat}{listed:Array Bool}{L:List Nat}
theorem bp.mono{K1:Env→List aj→Prop}(h:bp P N ops L cG be listed E Γ K1)(hk:∀E' aI,K1 E' aI→K E' aI):bp P N ops L cG be listed E Γ K:=
 fun A F w a Z hZ hf hs hz=>h A F w a Z hZ hf hs fun E' aI w' a' k=>hz E' aI w' a' (hk E' aI k)
theorem bH.yE{C:Cx}{k:List Item}{c:Code}{Q:Value→List aj→Prop}{E':Env}{aI:List aj}(tail:bH C k E' aI Q)
  (next:(∀{E1:Env} {fC Δ:List aj},Le E' E1→az aI fC Δ→bH C k E1 fC Q)→bH C (.code c::k) E Γ Q):bH C (.code c::k) E Γ Q:=
 next fun l p=>tail.to l p
theorem bH.sU{C:Cx}{k id}{Q:Value→List aj→Prop}(L:List Nat)(cG:List aj)(t:Nat)(b:Bool)(hm:C.P.follows .mixedOrders=true)
  (h:bp C.P C.fn.ntmps ops L cG ops.size (Array.replicate ops.size false) E Γ fun E' aI=>aI=Γ∧lk E' t=some (.bool b)∧Le E E')
  (n:bH C k ((t,.bool b)::E) Γ Q):bH C (.code (.region id ops true)::k) E Γ Q:=
 bH.Di L cG hm (h.mono fun E' aI ⟨e,hl,le⟩=>by subst e;exact n.C1 (Le.cons hl le))
end
section
variable{P:Program}{N:Nat}{E:Env}{Γ aI:List aj}{dst:Option Tmp}{ty:TypeId}{pos:String}{after:Array Edge}{guard:Option (Nat×Bool)}
theorem Du{w:World}{b:Nat}{l:List Value}{e:TypeId}{fz:Nat×Nat}(h:w.heap[b]?=some (.cells l.toArray e fz)):w.shape? b=some (e,l.length):=by
 simp[World.shape?,h]
theorem Reads.BK{args:Array Operand}{ts:Array TypeId}{x:Operand}{a:Option Addr}{n c:Nat}(ha:args=#[x])(hx:ev E x=some (.slice a n c))(h:a=none∨c≠0):
  Reads P N E Γ ⟨dst,.call ⟨.builtin .unsafeSliceData,args,ts⟩,ty,pos,after,guard⟩ (.pointer a):=fun A w ac hf _=>by
 subst ha
 have:(Builtin.unsafeSliceData_ ts ty #[.slice a n c]).run P w=.ok (.pointer a) w:=by
  cases a with
  |none=>exact Go.Lib.run_unsafeSliceData_nil w ts ty n c
  |some q=>exact Go.Lib.run_unsafeSliceData_row w ts ty q n c (by rcases h with h|h;cases h;exact h)
 simp[execOp,resolve,invoke,builtin,hf.eval hx,this]
theorem BM{e:TypeId}(hc:P.cellsOf e=1)(count off n:Nat)(hn:off+n≤count):liesAt P P.depth e count off e n=true:=by
 have hd:P.depth=(2*(P.types.size+Made.depth)+1)+1:=rfl
 rw[hd]
 simp only[liesAt,Bool.or_eq_true]
 left
 rw[hd]
 simp[rowAt,hc,hn,sameLayout,Nat.mod_one]
theorem OA{l:List UInt8}{j:Nat}{x:UInt8}(h:l[j]?=some x):(fA l)[j]?=some (.int .u8 x.toNat):=by
 unfold fA;rw[List.getElem?_map,h];rfl
end
theorem bH.lM{C:Cx}{k:List Item}{c:Code}{Q:Value→List aj→Prop}{E:Env}{Γ:List aj}{σ:Type}{φ:σ→Prop}{E':σ→Env}{aI:σ→List aj}(tail:∀s,φ s→bH C k (E' s) (aI s) Q)
  (next:(∀s,φ s→∀{E1:Env} {fC Δ:List aj},Le (E' s) E1→az (aI s) fC Δ→bH C k E1 fC Q)→bH C (.code c::k) E Γ Q):bH C (.code c::k) E Γ Q:=
 next fun s hs _ _ _ l p=>(tail s hs).to l p
theorem Sat.lB{A w Γ}{φ:World→Prop}(H:∀w,φ w)(s:Sat A w Γ):Sat A w (bF φ::Γ):=by
 obtain⟨a,h,f,t⟩:=s
 exact⟨a,h,f,fun _=>none,h,fun _=>.inl rfl,fun _ _ e=>by simp at e,.refl _,⟨fun _=>none,.refl _,fun _ _ e=>by simp at e,fun w _=>H w⟩,t⟩
section
variable{C:Cx}{k:List Item}{E:Env}{Γ aI:List aj}{Q:Value→List aj→Prop}{P:Program}{N:Nat}{ops:Array Oper}{os:List Oper}{K:Env→List aj→Prop}
theorem bH.lB(φ:World→Prop)(H:∀w,φ w)(n:bH C k E (bF φ::Γ) Q):bH C k E Γ Q:=fun A F w a hf hs=>n A F w a hf (Sat.lB H hs)
theorem aZ.lB(φ:World→Prop)(H:∀w,φ w)(n:aZ P N ops os E (bF φ::Γ) K):aZ P N ops os E Γ K:=fun A F w a Z hf hs hz=>n A F w a Z hf (Sat.lB H hs) hz
theorem bH.ur{φ ψ:World→Prop}(χ:World→Prop)(p:az [bF φ,bF ψ] Γ aI)(H:∀w,φ w→ψ w→χ w)(n:bH C k E (bF χ::aI) Q):bH C k E Γ Q:=
 .close p (fun _ s=>by
  obtain⟨j,jl,jr,e⟩:=bh.Dp s
  exact⟨j,jl,jr,fun w f=>H w (e w f).1 (e w f).2⟩) n
theorem bH.qu{φ:World→Prop}(χ:World→Prop)(p:bD (bF φ) Γ aI)(H:∀w,φ w→χ w)(n:bH C k E (bF χ::aI) Q):bH C k E Γ Q:=
 .close (.cons p .nil) (fun _ s=>bh.sS H s) n
end
def RE(b:Nat)(l:List Value)(e:TypeId):aj:=fun h=>aB l∧h b=some (false,.cells l.toArray e (0,0))
def Clean(b:Nat)(w:World):Prop:=∃cs e,w.heap[b]?=some (.cells cs e (0,0))
section
variable{P:Program}{N:Nat}{E:Env}{Γ aI:List aj}{dst:Option Tmp}{ty:TypeId}{pos:String}{after:Array Edge}{guard:Option (Nat×Bool)}
end
def pk(L:List aj):aj:=fun h=>bh L h
section
variable{P:Program}{N:Nat}{ops:Array Oper}{os:List Oper}{E:Env}{Γ aI L:List aj}{K:Env→List aj→Prop}{C:Cx}{k:List Item}{Q:Value→List aj→Prop}
theorem bH.unpack(p:bD (pk L) Γ aI)(n:bH C k E (L++aI) Q):bH C k E Γ Q:=.open_ (σ:=Unit) (φ:=fun _=>True) (B:=fun _=>L) p (fun _ h=>⟨(),trivial,h⟩) fun _ _=>n
theorem bH.pack(p:az L Γ aI)(n:bH C k E (pk L::aI) Q):bH C k E Γ Q:=.close p (fun _ s=>s) n
theorem aZ.pack(p:az L Γ aI)(n:aZ P N ops os E (pk L::aI) K):aZ P N ops os E Γ K:=.close p (fun _ s=>s) n
theorem bH.Af{id}(L1:List Nat)(cG:List aj)(E2:Env)(LM:List aj)(hm:C.P.follows .mixedOrders=true)
  (h:bp C.P C.fn.ntmps ops L1 cG ops.size (Array.replicate ops.size false) E Γ fun E' aI=>Le E2 E'∧∃Δ,az LM aI Δ) (n:bH C k E2 LM Q):bH C (.code (.region id ops true)::k) E Γ Q:=
 bH.Di L1 cG hm (h.mono fun _ _ ⟨l,_,p⟩=>n.to l p)
end
section
variable{P:Program}{N:Nat}{ops:Array Oper}{E:Env}{Γ cG:List aj}{K:Env→List aj→Prop}{be:Nat}{listed:Array Bool}{L:List Nat}
theorem bp.cast{X X':aj}(h:X=X')(n:bp P N ops L cG be listed E (X'::Γ) K):bp P N ops L cG be listed E (X::Γ) K:=by subst h;exact n
end
open Go Go.RowKit
theorem Sat.nO{A w w' Γ}(s:Sat A w Γ)(b:Below w.heap.size w w'):Sat A w' Γ:=by
 obtain⟨ha,h,hf,hs⟩:=s
 refine⟨?_,h,fun k x hk=>?_,hs⟩
 ·
  rw[←ha];unfold ye;rw[b.os,b.tape,b.output]
 ·
  have h1:=hf k x hk
  rw[b.block k (by have:=(Array.getElem?_eq_some_iff.1 h1).1;exact this)];exact h1
theorem Cn.calls{P f}{args:List Value}{φ:World→Prop}{q:Value→Prop}(sA:j3 P f)(h:∀w,φ w→Calls P f args.toArray w fun e w'=>∃v,e=.returned v∧q v∧Below w.heap.size w w'):Cn P f args φ [] fun v G=>q v∧G=[]:=fun R kR=>by
 refine⟨sA,fun A F w s=>?_⟩
 have s1:Sat A w ([R]++F):=s
 refine(h w (kR A w s1.left)).mono fun e w' ⟨v,he,hq,hb⟩=>⟨v,[R],he,⟨[],⟨hq,rfl⟩,rfl⟩,s1.nO hb⟩
section
variable{P:Program}{N:Nat}{E:Env}{Γ:List aj}{dst:Option Tmp}{ty:TypeId}{pos:String}{after:Array Edge}{guard:Option (Nat×Bool)}
def notNil:Value→Bool
 |.nilIface=>false
 |_=>true
end
open Go Go.RowKit
theorem Sat.Mi{A w w' Γ g o}(s:Sat A w Γ)(b:Below w.heap.size w w')(hg:w.heap.size≤g)(ho:w'.heap[g]?=some o):Sat A w' (Sp.own g o::Γ):=by
 obtain⟨a,h,f,t⟩:=s.nO b
 obtain⟨_,h0,f0,t0⟩:=s
 have cO:∀b x,h0 b=some x→b<w.heap.size:=fun b x e=>(Array.getElem?_eq_some_iff.1 (f0 b x e)).1
 have hn:h0 g=none:=by
  cases e:h0 g with
  |none=>rfl
  |some x=>exact absurd (cO _ _ e) (by omega)
 have f1:Hp.fits h0 w':=fun c x ex=>by rw[b.block c (cO c x ex)];exact f0 c x ex
 refine⟨a,Hp.un (fun c=>if c=g then some (false,o)else none) h0,?_,(fun c=>if c=g then some (false,o)else none),h0,?_,Hp.dX _ _,?_,?_,t0⟩
 ·
  intro c x ex
  by_cases hc:c=g
  ·
   subst hc;simp[Hp.un]at ex;subst ex;exact ho
  ·
   simp[Hp.un,hc]at ex;exact f1 c x ex
 ·
  intro c
  by_cases hc:c=g
  ·
   subst hc;exact .inr (.inl hn)
  ·
   exact .inl (by simp[hc])
 ·
  intro c x ex
  by_cases hc:c=g
  ·
   subst hc;rw[hn]at ex;cases ex
  ·
   simp[Hp.un,hc,ex]
 ·
  simp[Sp.own]
theorem Cn.sV{P f}{args:List Value}{φ:World→Prop}{e:TypeId}{n:Nat}{xs:List Value}(sA:j3 P f)(ho:aB xs)(h:∀w,φ w→Calls P f args.toArray w fun x w'=>∃v,x=.returned v∧w'.ownsRow w.heap.size e 1 v n xs∧Below w.heap.size w w'):
  Cn P f args φ [] fun v G=>∃a c,v=.slice a n c∧G=[bF (aD a xs)]:=fun R kR=>by
 refine⟨sA,fun A F w s=>?_⟩
 have s1:Sat A w ([R]++F):=s
 refine(h w (kR A w s1.left)).mono fun x w' ⟨v,he,hr,hb⟩=>?_
 obtain⟨hl,⟨rfl,rfl⟩|⟨g,cap,ai,rfl,hg,hc,hn,iA,jS,hx⟩⟩:=hr
 ·
  have:xs=[]:=List.eq_nil_of_length_eq_zero (by omega)
  subst this
  exact⟨_,[bF (aD none []),R],he,⟨[_],⟨none,0,rfl,rfl⟩,rfl⟩,Sat.lB (φ:=aD none []) (fun w=>.inl rfl) (s1.nO hb)⟩
 ·
  have s2:=Sat.I6 (s1.Mi hb hg hc)
  refine⟨_,[bF (aD (some ⟨g,0,none⟩) xs),R],he,⟨[_],⟨_,_,rfl,rfl⟩,rfl⟩,?_⟩
  refine Sat.map (Γ:=Sp.ro g (.cells ai e (0,0))::([R]++F)) (fun k hk=>?_) s2
  obtain⟨h1,h2,ok,l1,l2,e1,t⟩:=hk
  refine⟨h1,h2,ok,l1,l2,bh.Ac (b:=g) (o:=.cells ai e (0,0)) (fun w0 RF=>.inr ⟨g,0,rfl,fun i v hv=>?_,ho⟩) e1,t⟩
  rw[←hx,List.getElem?_take]at hv
  split at hv
  ·
   obtain⟨l⟩:=ai
   rw[cell_of (l:=l) RF,Nat.zero_add];exact hv
  ·
   cases hv
open Go Go.RowKit
def JN(e:TypeId)(a:Option Addr)(cs:List Value):aj:=fun h=>∃b o ai fz,a=some ⟨b,o,none⟩∧aB ai∧o+cs.length≤ai.length∧(∀i v,cs[i]?=some v→ai[o+i]?=some v)∧h b=some (false,.cells ai.toArray e fz)
theorem yF{e a c cs}{h:Hp}(dx:cs≠[])(H:arr e 1 a c cs h):JN e a cs h:=by
 rcases H with⟨_,h2⟩|⟨b,pre,post,e1,e2,ho,fz,_,e3⟩
 ·
  exact absurd h2 dx
 ·
  refine⟨b,pre.length,_,fz,e1,ho,by simp,fun i v hv=>?_,e3⟩
  have hl:=(List.getElem?_eq_some_iff.1 hv).1
  rw[List.getElem?_append_right (by omega),Nat.add_sub_cancel_left,List.getElem?_append_left hl];exact hv
theorem qv{e s:Nat}{a:Option Addr}{c:Nat}{cs:List Value}{h k:Hp}(hl:Hp.le h k)(H:arr e s a c cs h):arr e s a c cs k:=by
 rcases H with h1|⟨b,pre,post,e1,e2,e3⟩
 ·
  exact .inl h1
 ·
  exact .inr ⟨b,pre,post,e1,e2,kg hl e3⟩
theorem Sat.GI{A w e a cs Γ}(s:Sat A w (Sp.JN e a cs::Γ)):∃b o ai fz,a=some ⟨b,o,none⟩∧aB ai∧o+cs.length≤ai.length∧(∀i v,cs[i]?=some v→ai[o+i]?=some v)∧Sat A w (Sp.own b (.cells ai.toArray e fz)::Γ):=by
 obtain⟨am,h,f,h1,h2,ok,l1,l2,⟨b,o,ai,fz,e1,e2,e3,e4,e5⟩,t⟩:=s
 exact⟨b,o,ai,fz,e1,e2,e3,e4,am,h,f,h1,h2,ok,l1,l2,e5,t⟩
theorem Sat.yF{A w e b o cs Γ}{ai:List Value}{fz:Nat×Nat}(h2:aB ai)(h3:o+cs.length≤ai.length)(h4:∀i v,cs[i]?=some v→ai[o+i]?=some v)(s:Sat A w (Sp.own b (.cells ai.toArray e fz)::Γ)):Sat A w (Sp.JN e (some ⟨b,o,none⟩) cs::Γ):=by
 obtain⟨am,h,f,h1,k2,ok,l1,l2,ho,t⟩:=s
 exact⟨am,h,f,h1,k2,ok,l1,l2,⟨b,o,ai,fz,rfl,h2,h3,h4,ho⟩,t⟩
theorem qw(a:Option Addr)(h m s:Nat):Value.slice (if m=0 then a else a.map (·.add (0*s))) (h-0) (m-0)=.slice a h m:=by
 cases a with
 |none=>simp
 |some p=>by_cases hm:m=0<;>simp[hm,Addr.add]
theorem aD.left{a:Option Addr}{xs ys:List Value}{w:World}(h:aD a (xs++ys) w):aD a xs w:=by
 rcases h with h|⟨b,o,e,h⟩
 ·
  exact .inl (List.append_eq_nil_iff.1 h).1
 ·
  refine .inr ⟨b,o,e,fun i v hv=>h.1 i v ?_,fun v hv=>h.2 v (List.mem_append_left _ hv)⟩
  rw[List.getElem?_append_left (List.getElem?_eq_some_iff.1 hv).1];exact hv
theorem aD.Mj{α:Type}{f:α→List Value}{a:Option Addr}{l:List α}{w:World}(n:Nat)(h:aD a (l.flatMap f) w):aD a ((l.take n).flatMap f) w:=by
 rw[←List.take_append_drop n l,List.flatMap_append]at h;exact h.left
theorem aD.Mk{α:Type}{f:α→List Value}{k:Nat}(hk:∀x,(f x).length=k){b o:Nat}{l:List α}{w:World}(n:Nat)(hn:n≤l.length)(h:aD (some ⟨b,o,none⟩) (l.flatMap f) w):aD (some ⟨b,o+n*k,none⟩) ((l.drop n).flatMap f) w:=by
 rw[←List.take_append_drop n l,List.flatMap_append]at h
 rcases h with h|⟨b',o',e,h⟩
 ·
  exact .inl (List.append_eq_nil_iff.1 h).2
 ·
  cases e
  have hl:((l.take n).flatMap f).length=n*k:=by rw[au hk,List.length_take,Nat.min_eq_left hn]
  refine .inr ⟨b,o+n*k,rfl,fun i v hv=>?_,fun v hv=>h.2 v (List.mem_append_right _ hv)⟩
  have:=h.1 (n*k+i) v (by rw[List.getElem?_append_right (by omega),hl,Nat.add_sub_cancel_left];exact hv)
  rwa[←Nat.add_assoc]at this
theorem aD.Ag{α:Type}{f:α→List Value}{k:Nat}(hk:∀x,(f x).length=k)(h0:0<k){a:Option Addr}{c:Nat}{l:List α}{w:World}(n:Nat)(hn:n≤l.length)(hc:l.length≤c)(h:aD a (l.flatMap f) w):aD (if c=n then a else a.map (·.add (n*k))) ((l.drop n).flatMap f) w:=by
 by_cases hx:n=l.length
 ·
  subst hx;rw[List.drop_length];exact .inl rfl
 ·
  have hp:0<(l.flatMap f).length:=by rw[au hk];exact Nat.mul_pos (by omega) h0
  obtain⟨b,o,rfl⟩:=h.addr hp
  rw[if_neg (by omega)]
  show aD (some ((⟨b,o,none⟩:Addr).add (n*k))) _ w
  rw[cA];exact h.Mk hk n hn
theorem af.cap{Γ aI:List aj}{e s:Nat}{a:Option Addr}{c:Nat}{cs:List Value}(p:bD (Sp.arr e s a c cs) Γ aI):af Γ fun _=>cs.length≤c*s:=fun _ _ h=>(h.map fun _=>p.bh).jz.1
section
variable{P:Program}{N:Nat}{E:Env}{Γ aI:List aj}{dst:Option Tmp}{ty:TypeId}{pos:String}{after:Array Edge}{guard:Option (Nat×Bool)}
theorem Reads.Ml{args:Array Operand}{x t e ts}{p:Option Addr}{n c:Nat}(ha:args=#[x])(o6:ts=#[t])(hu:P.underlying t=some (.slice e))(hx:ev E x=some (.slice p n c)):
  Reads P N E Γ ⟨dst,.call ⟨.builtin .cap,args,ts⟩,ty,pos,after,guard⟩ (.int .i64 c):=fun _ w a hf _=>by
 subst ha o6
 simp[execOp,resolve,invoke,builtin,Builtin.cap_,hf.eval hx,underlying,hu,goInt]
theorem yG{e:TypeId}(hc:P.cellsOf e=1)(count o n:Nat)(hn:o+n≤count):liesAt P P.depth e count o e n=true:=by
 have hd:P.depth=(2*(P.types.size+Made.depth)+1)+1:=rfl
 rw[hd]
 simp only[liesAt,Bool.or_eq_true]
 left
 rw[hd]
 simp[rowAt,hc,hn,sameLayout,Nat.mod_one]
theorem dU.yH{args:Array Operand}{ts:Array TypeId}{pt it e x y}{p:Option Addr}{l:List UInt8}(ha:args=#[x,y])(o6:ts=#[pt,it])(hp:P.underlying pt=some (.pointer e))(hc:P.cellsOf e=1)(h0:l≠[])(hl:l.length≤1000000000000)(hx:ev E x=some (.pointer p))(hy:ev E y=some (.int .i64 (l.length:Int)))(pk:bD (JN e p (fA l)) Γ aI):
  dU P N E Γ ⟨dst,.call ⟨.builtin .unsafeString,args,ts⟩,ty,pos,after,guard⟩ fun v cz=>v=.string (str l)∧cz=JN e p (fA l)::aI:=by
 subst ha o6
 intro A F w a nx Z hf cv hn
 obtain⟨b,o,ai,fz,rfl,h2,h3,h4,hs⟩:=(cv.map fun _=>(pk.app F).bh).GI
 have hb:=hs.own
 have hlen:(fA l).length=l.length:=ew l
 have Jg:=yG (P:=P) hc (ai.length/P.cellsOf e) o l.length (by rw[hc,Nat.div_one];omega)
 have RG:=Lib.run_loadBytes (P:=P) w l ⟨b,o,none⟩ .empty (fun j x hj=>by
  rw[cA,cell_of hb]
  exact h4 j _ (by simp[fA,hj]))
 have Mm:l.length≠0:=by simpa using h0
 have Om:¬(9223372036854775807:Int)<(l.length:Int):=by omega
 have OB:IntKind.i64.max=9223372036854775807:=rfl
 have hr:(Builtin.unsafeString_ #[pt,it] ty #[.pointer (some ⟨b,o,none⟩),.int .i64 (l.length:Int)]).run P w=.ok (.string (str l)) (w.freeze ⟨b,o,none⟩ l.length):=by
  have OC:Builtin.unsafeString_ #[pt,it] ty #[.pointer (some ⟨b,o,none⟩),.int .i64 l.length]=
   (do
    let n←asInt (.int .i64 l.length)
    if n<0 then runtimePanic (.error "unsafe.String: len out of range")
    if n>IntKind.i64.max then unsupported (.unsafePointer "String: a length above the largest int")
    if n=0 then pure (.string .empty)
    else if←variablesAt ⟨b,o,none⟩ (←elemOf pt) n.toNat then do
     let s←loadBytes ⟨b,o,none⟩ .empty n.toNat
     freeze ⟨b,o,none⟩ n.toNat
     pure (.string s)
    else unsupported (.unsafePointer "String: not so many bytes at ptr")):=rfl
  rw[OC]
  simp only[asInt,asIntOf]
  have OD:¬(l.length:Int)<0:=by omega
  simp[OB,Om,OD,h0,variablesAt,Du hb,elemOf,underlying,hp,RG,str]
  rw[hc,Nat.div_one]at Jg⊢
  simpa using Jg
 unfold Oper.wp
 simp[execOp,resolve,invoke,builtin,hf.eval hx,hf.eval hy,hr,Oper.upon]
 have ul:(w.freeze ⟨b,o,none⟩ l.length).heap[b]?=some (.cells ai.toArray e (if fz.1==fz.2 then(o,o+l.length)else(min fz.1 o,max fz.2 (o+l.length)))):=by
  unfold World.freeze
  rw[if_neg Mm]
  simp[Array.getElem?_modify,hb]
 exact hn _ _ _ ⟨rfl,rfl⟩ (Sat.yF h2 h3 h4 (hs.update ul (fun c OE=>by unfold World.freeze;rw[if_neg Mm];simp[Array.getElem?_modify,Ne.symm OE]) (by unfold World.freeze;rw[if_neg Mm];rfl)))
theorem dU.GJ{args:Array Operand}{ts:Array TypeId}{x y t tn e s o7 z n k kn}(ha:args=#[x,y])(o6:ts=#[t,tn])(hu:P.underlying t=some (.slice e))(JI:P.underlying tn=some (.int kn))(hi:TI P e s o7 z)(hz:z.cells.size=s)(Gz:aB z.cells.toList)(z7:0<s)
  (h0:0<n) (hb:n*o7≤140737488355328) (Ur:n≤1000000000000) (hx:ev E x=some (.slice none 0 0)) (hy:ev E y=some (.int k (n:Nat))):
  dU P N E Γ ⟨dst,.call ⟨.builtin .append,args,ts⟩,ty,pos,after,guard⟩ fun u cz=>∃b c,u=.slice (some ⟨b,0,none⟩) n c∧n≤c∧cz=arr e s (some ⟨b,0,none⟩) c []::Γ:=by
 subst ha o6
 intro A F w ac nx Z hf cv ki
 obtain⟨i,uo,jS,JC,LZ⟩:=hi
 subst jS JC
 have hr:=Lib.run_append_nil_zeros (P:=P) w t tn ty e i z k kn hu JI uo LZ n h0 z7 (by omega) (by omega)
 have yg:=grownCap_ge w n 0 e
 unfold Oper.wp
 simp only[execOp,resolve,invoke,builtin,List.map_toArray,List.map_cons,List.map_nil,hf.eval hx,hf.eval hy,Sem.run_bind,Sem.run_pure,Result.andThen_ok,hr,Oper.upon]
 refine ki _ _ _ ⟨_,_,rfl,yg,rfl⟩ ?_
 have e5:(Builtin.zeroCells z.cells n++Builtin.zeroCells z.cells (grownCap w n 0 e-n))=((Builtin.zeroCells z.cells n).toList++(Builtin.zeroCells z.cells (grownCap w n 0 e-n)).toList).toArray:=by
  apply Array.ext';simp
 rw[e5]
 have s4:=Sat.iy (fz:=(0,0)) ((cv.drew (w:=w)).alloc (.cells ((Builtin.zeroCells z.cells n).toList++(Builtin.zeroCells z.cells (grownCap w n 0 e-n)).toList).toArray e)) ((fD Gz _).append (fD Gz _)) (.inl rfl)
 show Sat A _ (_::(Γ++F))
 refine Sat.close (Γ:=Γ++F) (B:=[an w.heap.size ([]++([]++((Builtin.zeroCells z.cells n).toList++(Builtin.zeroCells z.cells (grownCap w n 0 e-n)).toList))) e]) (fun h' H=>?_) (by rw[List.nil_append,List.nil_append];exact s4)
 refine bh.ik (pre:=[]) ?_ H
 simp[size_zeroCells,hz]
 rw[←Nat.add_mul];congr 1;omega
end
theorem Cn.Dv{P f}{args:List Value}{b i:Nat}{l:List Value}{e:TypeId}{u r:Value}(sA:j3 P f)(hi:i<l.length)(hu:u.oneCell'=true)(h:∀w fz,(fz.1=fz.2∨l.length≤fz.1)→w.heap[b]?=some (.cells l.toArray e fz)→Calls P f args.toArray w fun x w'=>x=.returned r∧w'=w.setCell ⟨b,i,none⟩ u):
  Cn P f args (fun _=>True) [an b l e] fun v G=>v=r∧G=[an b (l.set i u) e]:=fun R kR=>by
 refine⟨sA,fun A F w s=>?_⟩
 have s1:Sat A w (an b l e::([R]++F)):=s
 obtain⟨ho,fz,ul,hb,s2⟩:=s1.an
 refine(h w fz ul hb).mono fun x w' ⟨he,hw⟩=>?_
 subst hw
 refine⟨r,[an b (l.set i u) e,R],he,⟨[_],⟨rfl,rfl⟩,rfl⟩,?_⟩
 obtain⟨a1,a2⟩:=gl b [u] i w l e fz hb (by simp;omega)
 have s4:=Sat.iy (s2.update a1 a2 (gO b [u] i w)) (kf ho (fun v hv=>by rw[List.mem_singleton.1 hv];exact hu) _) (by
  rcases ul with h|h
  ·
   exact .inl h
  ·
   right;rw[length_splice _ _ _ (by simp;omega)];exact h)
 rw[qm hi]at s4
 exact s4
theorem af.pk{L Γ aI:List aj}{φ:World→Prop}(p:bD (Sp.pk L) Γ aI)(k:af L φ):af Γ φ:=fun A w h=>
 have h1:∃_:Unit,True∧Sat A w (L++aI):=Sat.open_ (σ:=Unit) (φ:=fun _=>True) (B:=fun _=>L) (fun _ h=>⟨(),trivial,h⟩) (h.map fun _=>p.bh)
 h1.elim fun _ h=>k A w (Sat.left h.2)
theorem Cn.ex{P f}{args:List Value}{ψ:World→Prop}{Q:Value→List aj→Prop}{X:aj}{σ:Type}{φ:σ→Prop}{B:σ→List aj}(sA:j3 P f)(hX:∀h,X h→∃s,φ s∧bh (B s) h)(h:∀s,φ s→Cn P f args ψ (B s) Q):Cn P f args ψ [X] Q:=fun R kR=>by
 refine⟨sA,fun A F w s=>?_⟩
 have s1:Sat A w (X::([R]++F)):=s
 obtain⟨u,hu,s2⟩:=Sat.open_ (σ:=σ) (φ:=φ) (B:=B) hX s1
 exact(h u hu R kR).2 A F w (by rw[List.append_assoc];exact s2)
open Go.ChangeMaps (setBlock)
structure MI{κ ν:Type}[DecidableEq κ](enc:κ→Value)(bQ:ν→Value)(l:List (κ×ν))(D:List κ)(es:Array MapEntry)(clock since:Nat)(seen:Array Nat)(c0:Nat):Prop where
 vY:es.toList.map (fun e=>(e.key,e.val))=l.map (fun p=>(enc p.1,bQ p.2))
 nodup:(l.map (·.1)).Nodup
 born:(es.toList.map (·.born)).Nodup
 lt:∀e∈es.toList,e.born<clock
 JO:∀e∈es.toList,e.born<since
 c0:since≤c0
 cl:since≤clock
 done:∀(i:Nat) (e:MapEntry) (p:κ×ν),es.toList[i]?=some e→l[i]?=some p→(seen.contains e.born=true↔p.1∈D)
section
variable{κ ν:Type}[DecidableEq κ]{enc:κ→Value}{bQ:ν→Value}
def yh(enc:κ→Value)(bQ:ν→Value)(b r:Nat)(l:List (κ×ν))(D:List κ):aj:=fun h=>∃(es:Array MapEntry) (clock since:Nat) (seen:Array Nat) (c0:Nat),MI enc bQ l D es clock since seen c0∧bh [own b (.map es clock),own r (.mapIter (some b) since seen c0)] h
def Lo(enc:κ→Value)(bQ:ν→Value)(b r:Nat)(l:List (κ×ν))(D:List κ)(q:κ):aj:=fun h=>∃(es:Array MapEntry) (clock since:Nat) (seen:Array Nat) (i:Nat) (e:MapEntry),MI enc bQ l D es clock since (seen.push e.born) clock∧es.toList[i]?=some e∧(l[i]?).map (·.1)=some q∧bh [own b (.map es clock),own r (.mapIter (some b) since (seen.push e.born) clock)] h
theorem bh.Mn{X Y:aj}{Γ:List aj}{Z:aj}(hZ:∀h,bh [X,Y] h→Z h){h:Hp}(s:bh (X::Y::Γ) h):bh (Z::Γ) h:=by
 obtain⟨h1,h2,ok,l1,l2,s1,s2⟩:=(show bh ([X,Y]++Γ) h from s).split
 exact⟨h1,h2,ok,l1,l2,hZ h1 s1,s2⟩
theorem Sat.uu{A w b r Γ}{l:List (κ×ν)}{D:List κ}(s:Sat A w (Sp.yh enc bQ b r l D::Γ)):∃(es:Array MapEntry) (clock since:Nat) (seen:Array Nat) (c0:Nat),MI enc bQ l D es clock since seen c0∧Sat A w (Sp.own b (.map es clock)::Sp.own r (.mapIter (some b) since seen c0)::Γ):=by
 obtain⟨a,h,f,h1,h2,ok,l1,l2,⟨es,clock,since,seen,c0,hm,hs⟩,t⟩:=s
 exact⟨es,clock,since,seen,c0,hm,a,h,f,bh.join (Γ:=[_,_]) ok l1 l2 hs t⟩
theorem Sat.uv{A w b r Γ}{l:List (κ×ν)}{D:List κ}{es:Array MapEntry}{clock since:Nat}{seen:Array Nat}{c0:Nat}(hm:MI enc bQ l D es clock since seen c0)(s:Sat A w (Sp.own b (.map es clock)::Sp.own r (.mapIter (some b) since seen c0)::Γ)):Sat A w (Sp.yh enc bQ b r l D::Γ):=
 s.map fun _ t=>bh.Mn (fun h hs=>⟨es,clock,since,seen,c0,hm,hs⟩) t
theorem Sat.GK{A w b r Γ}{l:List (κ×ν)}{D:List κ}{q:κ}(s:Sat A w (Sp.Lo enc bQ b r l D q::Γ)):∃(es:Array MapEntry) (clock since:Nat) (seen:Array Nat) (i:Nat) (e:MapEntry),MI enc bQ l D es clock since (seen.push e.born) clock∧es.toList[i]?=some e∧(l[i]?).map (·.1)=some q∧Sat A w (Sp.own b (.map es clock)::Sp.own r (.mapIter (some b) since (seen.push e.born) clock)::Γ):=by
 obtain⟨a,h,f,h1,h2,ok,l1,l2,⟨es,clock,since,seen,i,e,hm,he,hq,hs⟩,t⟩:=s
 exact⟨es,clock,since,seen,i,e,hm,he,hq,a,h,f,bh.join (Γ:=[_,_]) ok l1 l2 hs t⟩
theorem Sat.JP{A w b r Γ}{l:List (κ×ν)}{D:List κ}{q:κ}{es:Array MapEntry}{clock since:Nat}{seen:Array Nat}{i:Nat}{e:MapEntry}(hm:MI enc bQ l D es clock since (seen.push e.born) clock)(he:es.toList[i]?=some e)(hq:(l[i]?).map (·.1)=some q)(s:Sat A w (Sp.own b (.map es clock)::Sp.own r (.mapIter (some b) since (seen.push e.born) clock)::Γ)):Sat A w (Sp.Lo enc bQ b r l D q::Γ):=
 s.map fun _ t=>bh.Mn (fun h hs=>⟨es,clock,since,seen,i,e,hm,he,hq,hs⟩) t
theorem GL{b r:Nat}{l:List (κ×ν)}{D:List κ}{q:κ}{h:Hp}(s:Lo enc bQ b r l D q h):yh enc bQ b r l D h:=by
 obtain⟨es,clock,since,seen,i,e,hm,_,_,hs⟩:=s
 exact⟨es,clock,since,_,clock,hm,hs⟩
theorem vZ{b r:Nat}{l:List (κ×ν)}{D:List κ}{q:κ}{h:Hp}(s:Lo enc bQ b r l D q h):∃_:Unit,True∧bh [yh enc bQ b r l D] h:=
 ⟨(),trivial,h,fun _=>none,fun _=>.inr (.inl rfl),.refl _,fun _ _ e=>by simp at e,GL s,trivial⟩
theorem Dw{b r:Nat}{l:List (κ×ν)}{D:List κ}{h:Hp}(s:bh [yh enc bQ b r l D] h):mp enc bQ b l h:=by
 obtain⟨h1,_,_,l1,_,⟨es,clock,since,seen,c0,hm,k1,_,_,m1,_,ho,_⟩,_⟩:=s
 exact⟨es,clock,l1 b _ (m1 b _ ho),hm.vY,hm.nodup,hm.born,hm.lt⟩
variable{P:Program}{N:Nat}{E:Env}{Γ aI:List aj}{dst:Option Tmp}{ty:TypeId}{pos:String}{after:Array Edge}{guard:Option (Nat×Bool)}
theorem dU.Dx{t k e x b}{l:List (κ×ν)}(hu:P.underlying t=some (.map k e))(hx:ev E x=some (.map (some b)))(p:bD (mp enc bQ b l) Γ aI):
  dU P N E Γ ⟨dst,.range t x,ty,pos,after,guard⟩ fun v cz=>∃r,v=.pointer (some ⟨r,0,none⟩)∧cz=yh enc bQ b r l []::aI:=by
 intro A F w a nx Z hf cv hn
 obtain⟨es,clock,hh,e1,e2,e3,e4,hs⟩:=(cv.map fun _=>(p.app F).bh).kp
 have hg:(getObj b).run P w=.ok (.map es clock) w:=by simp[getObj,Sem.run,hh]
 unfold Oper.wp
 simp[execOp,hf.eval hx,Instr.range,underlying,hu,hg,newObj,Oper.upon]
 refine hn _ _ _ ⟨w.heap.size,rfl,rfl⟩ (Sat.uv (c0:=clock) (seen:=#[]) (since:=clock) ⟨e1,e2,e3,e4,e4,Nat.le_refl _,Nat.le_refl _,fun i e p _ _=>by simp⟩ ?_)
 exact((hs.alloc (.mapIter (some b) clock #[] clock)).map fun _ t=>bh.swap t)
theorem kQ:∀{l:List (κ×ν)} {i:Nat} {p:κ×ν},(l.map (·.1)).Nodup→l[i]?=some p→bK l p.1=some p.2
 |x::l,0,p,_,h=>by cases h;rw[bu,if_pos rfl]
 |x::l,i+1,p,hn,h=>by
  rw[List.map_cons,List.nodup_cons]at hn
  have hp:p.1≠x.1:=fun e=>hn.1 (by rw[←e];exact List.mem_map_of_mem (List.mem_of_getElem? h))
  rw[bu,if_neg hp]
  exact kQ hn.2 h
theorem we{α:Type}{l:List α}(h:l.Nodup){i j:Nat}{x:α}(hi:l[i]?=some x)(hj:l[j]?=some x):i=j:=by
 obtain⟨a1,a2⟩:=List.getElem?_eq_some_iff.1 hi
 obtain⟨b1,b2⟩:=List.getElem?_eq_some_iff.1 hj
 rcases Nat.lt_trichotomy i j with hl|hl|hl
 ·
  exact absurd (a2.trans b2.symm) (List.pairwise_iff_getElem.1 h i j a1 b1 hl)
 ·
  exact hl
 ·
  exact absurd (b2.trans a2.symm) (List.pairwise_iff_getElem.1 h j i b1 a1 hl)
theorem MI.pair{l:List (κ×ν)}{D:List κ}{es:Array MapEntry}{clock since:Nat}{seen:Array Nat}{c0:Nat}(h:MI enc bQ l D es clock since seen c0){i:Nat}{e:MapEntry}(he:es.toList[i]?=some e):∃p,l[i]?=some p∧e.key=enc p.1∧e.val=bQ p.2:=by
 have h1:=congrArg (fun l=>l[i]?) h.vY
 simp only[List.getElem?_map,he,Option.map_some]at h1
 obtain⟨p,hp,e1⟩:=Option.map_eq_some_iff.1 h1.symm
 exact⟨p,hp,(congrArg (·.1) e1).symm,(congrArg (·.2) e1).symm⟩
theorem MI.len{l:List (κ×ν)}{D:List κ}{es:Array MapEntry}{clock since:Nat}{seen:Array Nat}{c0:Nat}(h:MI enc bQ l D es clock since seen c0):es.toList.length=l.length:=by simpa using congrArg List.length h.vY
theorem dU.Jh{x b r}{l:List (κ×ν)}{D:List κ}(hx:ev E x=some (.pointer (some ⟨r,0,none⟩)))(p:bD (yh enc bQ b r l D) Γ aI):
  dU P N E Γ ⟨dst,.next x false,ty,pos,after,guard⟩ fun v cz=>(v=.tuple #[.bool false]∧(∀q∈l.map (·.1),q∈D)∧cz=yh enc bQ b r l D::aI)∨∃q u,bK l q=some u∧q∉D∧v=.tuple #[.bool true,enc q,bQ u]∧cz=Lo enc bQ b r l (q::D) q::aI:=by
 intro A F w a nx Z hf cv hn
 obtain⟨es,clock,since,seen,c0,hm,hs⟩:=(cv.map fun _=>(p.app F).bh).uu
 have hb:=hs.own
 have Mo:Sat A w (Sp.own r (.mapIter (some b) since seen c0)::Sp.own b (.map es clock)::(aI++F)):=hs.map fun _ t=>bh.swap t
 have hr:=Mo.own
 unfold Oper.wp
 rcases run_next_at (P:=P) w ty r b since c0 seen es clock hr hb hm.JO hm.c0 with⟨h0,Db⟩|⟨e,he,w1,RH,Db⟩
 ·
  simp[execOp,hf.eval hx,Db,Oper.upon]
  refine hn _ _ _ (.inl ⟨rfl,fun q hq=>?_,rfl⟩) (Sat.uv hm hs)
  obtain⟨pr,yz,rfl⟩:=List.mem_map.1 hq
  obtain⟨i,hi⟩:=List.getElem?_of_mem yz
  have mm:=(List.getElem?_eq_some_iff.1 hi).1
  obtain⟨en,jT⟩:∃en,es.toList[i]?=some en:=⟨_,List.getElem?_eq_getElem (by rw[hm.len];exact mm)⟩
  refine(hm.done i en pr jT hi).1 ?_
  cases hc:seen.contains en.born with
  |true=>rfl
  |false=>
   have jB:en∈(leftOf es seen).toList:=by
    unfold leftOf
    rw[Array.toList_filter]
    exact List.mem_filter.2 ⟨List.mem_of_getElem? jT,by rw[hc];rfl⟩
   have:(leftOf es seen).toList.length=0:=by rw[Array.length_toList];exact h0
   rw[List.eq_nil_of_length_eq_zero this]at jB;cases jB
 ·
  simp[execOp,hf.eval hx,Db,Oper.upon]
  have vH:e∈es.toList∧seen.contains e.born=false:=by
   unfold leftOf at he
   rw[Array.toList_filter]at he
   obtain⟨k1,k2⟩:=List.mem_filter.1 he
   exact⟨k1,by simpa using k2⟩
  obtain⟨i,hi⟩:=List.getElem?_of_mem vH.1
  obtain⟨pr,yz,hk,hv⟩:=hm.pair hi
  have mo:pr.1∉D:=fun hD=>by
   have:=(hm.done i e pr hi yz).2 hD
   rw[vH.2]at this;cases this
  have Lp:Sat A (setBlock w1 r (.mapIter (some b) since (seen.push e.born) clock)) (Sp.own r (.mapIter (some b) since (seen.push e.born) clock)::Sp.own b (.map es clock)::(aI++F)):=by
   have jS:r<w.heap.size:=by
    cases cO:decide (r<w.heap.size)with
    |true=>exact of_decide_eq_true cO
    |false=>rw[Array.getElem?_eq_none (by have:=of_decide_eq_false cO;omega)]at hr;cases hr
   have hw:w1.heap=w.heap∧ye w1=ye w:=by rcases RH with rfl|rfl<;>exact⟨rfl,rfl⟩
   refine Mo.update ?_ (fun c hc=>?_) ?_
   ·
    show(w1.heap.setIfInBounds r _)[r]?=_
    rw[hw.1];simp[jS]
   ·
    show(w1.heap.setIfInBounds r _)[c]?=_
    rw[hw.1,Array.getElem?_setIfInBounds_ne (Ne.symm hc)]
   ·
    exact hw.2
  refine hn _ _ _ (.inr ⟨pr.1,pr.2,kQ hm.nodup yz,mo,by rw[hk,hv],rfl⟩) (Sat.JP (i:=i) ⟨hm.vY,hm.nodup,hm.born,hm.lt,hm.JO,hm.cl,hm.cl,fun j en p2 hj Lq=>?_⟩ hi (by rw[yz];rfl) (Lp.map fun _ t=>bh.swap t))
  ·
   by_cases qo:j=i
   ·
    subst qo
    rw[hi]at hj;cases hj
    rw[yz]at Lq;cases Lq
    simp
   ·
    have OF:en.born≠e.born:=fun NO=>qo (we hm.born (x:=e.born) (by rw[List.getElem?_map,hj];exact congrArg some NO) (by rw[List.getElem?_map,hi];rfl))
    have OG:p2.1≠pr.1:=fun RI=>qo (we hm.nodup (x:=pr.1) (by rw[List.getElem?_map,Lq];exact congrArg some RI) (by rw[List.getElem?_map,yz];rfl))
    have hd:=hm.done j en p2 hj Lq
    rw[List.mem_cons]
    constructor
    ·
     intro hc
     refine .inr (hd.1 ?_)
     simpa[OF]using hc
    ·
     rintro(hc|hc)
     ·
      exact absurd hc OG
     ·
      have:=hd.2 hc
      simp at this⊢
      exact .inl this
theorem Reads.Dy{x b r}{l:List (κ×ν)}{D:List κ}{q:κ}{u:ν}(hx:ev E x=some (.pointer (some ⟨r,0,none⟩)))(p:bD (Lo enc bQ b r l D q) Γ aI)(hq:bK l q=some u):
  Reads P N E Γ ⟨dst,.entry x,ty,pos,after,guard⟩ (.tuple #[enc q,bQ u]):=fun A w a hf cv=>by
 obtain⟨es,clock,since,seen,i,e,hm,he,hk,hs⟩:=(cv.map fun _=>p.bh).GK
 have hb:=hs.own
 have hr:=(hs.map fun _ t=>bh.swap t).own
 obtain⟨pr,yz,h1,h2⟩:=hm.pair he
 rw[yz]at hk
 have Qg:pr.1=q:=Option.some.inj hk
 have hu:=kQ hm.nodup yz
 rw[Qg,hq]at hu
 have RJ:u=pr.2:=Option.some.inj hu
 have:=run_entry_at (P:=P) w r b since seen es clock e hr hb (List.mem_of_getElem? he) hm.born
 simp[execOp,hf.eval hx,this,h1,h2,Qg,RJ]
theorem MI.update{l:List (κ×ν)}{D:List κ}{es:Array MapEntry}{clock since:Nat}{seen:Array Nat}{c0:Nat}(h:MI enc bQ l D es clock since seen c0){i:Nat}{q:κ}{u:ν}{en:MapEntry}(hl:(l[i]?).map (·.1)=some q)(BG:bT l q u=l.set i (q,u))(jT:es[i]?=some en):MI enc bQ (bT l q u) D (es.modify i fun e=>{e with key:=enc q,val:=bQ u}) clock since seen c0:=by
 have uf:i<es.toList.length:=by
  have:es.toList[i]?=some en:=by rw[Array.getElem?_toList];exact jT
  exact(List.getElem?_eq_some_iff.1 this).1
 have uw:es.toList[i]?=some en:=by rw[Array.getElem?_toList];exact jT
 have uq:(es.modify i fun e=>{e with key:=enc q,val:=bQ u}).toList=es.toList.set i {en with key:=enc q,val:=bQ u}:=by
  apply List.ext_getElem?
  intro j
  rw[Array.getElem?_toList,Array.getElem?_modify,List.getElem?_set]
  by_cases fU:i=j
  ·
   subst fU;simp[jT];simpa using uf
  ·
   simp[fU]
 have Mp:(es.toList.set i {en with key:=enc q,val:=bQ u}).map (·.born)=es.toList.map (·.born):=by
  rw[List.map_set]
  apply List.ext_getElem?
  intro j
  rw[List.getElem?_set]
  by_cases fU:i=j
  ·
   subst fU
   simp[uw]
   simpa using uf
  ·
   simp[fU]
 refine⟨by rw[BG,uq,List.map_set,List.map_set,h.vY],fb h.nodup _ _,by rw[uq,Mp];exact h.born,fun x hx=>?_,fun x hx=>?_,h.c0,h.cl,fun j e p he hp=>?_⟩
 ·
  rw[uq]at hx
  rcases List.mem_or_eq_of_mem_set hx with hx|rfl
  ·
   exact h.lt x hx
  ·
   exact h.lt en (List.mem_of_getElem? uw)
 ·
  rw[uq]at hx
  rcases List.mem_or_eq_of_mem_set hx with hx|rfl
  ·
   exact h.JO x hx
  ·
   exact h.JO en (List.mem_of_getElem? uw)
 ·
  rw[uq]at he
  rw[BG]at hp
  rw[List.getElem?_set]at he hp
  by_cases fU:i=j
  ·
   subst fU
   obtain⟨p0,mq,h0⟩:=Option.map_eq_some_iff.1 hl
   have mm:=(List.getElem?_eq_some_iff.1 mq).1
   rw[if_pos rfl,if_pos uf]at he
   rw[if_pos rfl,if_pos mm]at hp
   cases he;cases hp
   have:=h.done i en p0 uw mq
   rw[h0]at this
   exact this
  ·
   rw[if_neg fU]at he hp
   exact h.done j e p he hp
theorem yI{l:List (κ×ν)}{i:Nat}{q:κ}(e2:(l.map (·.1)).Nodup)(cO:i<l.length)(hq:(l[i]?).map (·.1)=some q):cQ l q=l.eraseIdx i:=by
 unfold cQ
 have Ov:l[i].1=q:=by simpa[cO]using hq
 obtain⟨A',x,B',rfl,hA⟩:∃A' x B',l=A'++x::B'∧A'.length=i:=⟨l.take i,l[i],l.drop (i+1),by simp,by simp;omega⟩
 subst hA
 have sE:x.1=q:=by simpa using Ov
 simp only[List.map_append,List.map_cons,List.nodup_append,List.nodup_cons]at e2
 obtain⟨_,⟨n2,_⟩,n3⟩:=e2
 rw[List.eraseIdx_append_of_length_le (Nat.le_refl _)]
 simp only[Nat.sub_self,List.eraseIdx_cons_zero,List.filter_append,List.filter_cons]
 have f1:A'.filter (fun p=>!decide (q=p.1))=A':=List.filter_eq_self.2 fun p hp=>by
  have:=n3 p.1 (List.mem_map_of_mem hp) x.1 (by simp)
  simp;intro e;exact this (by rw[sE];exact e.symm)
 have f2:B'.filter (fun p=>!decide (q=p.1))=B':=List.filter_eq_self.2 fun p hp=>by
  simp;intro e;apply n2;rw[sE,e];exact List.mem_map_of_mem hp
 simp[f1,f2,sE]
theorem MI.delete{l:List (κ×ν)}{D:List κ}{es:Array MapEntry}{clock since:Nat}{seen:Array Nat}{c0:Nat}(h:MI enc bQ l D es clock since seen c0){i:Nat}{q:κ}(GH:cQ l q=l.eraseIdx i)(hi:i<es.size):MI enc bQ (cQ l q) D (es.eraseIdxIfInBounds i) clock since seen c0:=by
 have GG:(es.eraseIdxIfInBounds i).toList=es.toList.eraseIdx i:=by simp[Array.eraseIdxIfInBounds,hi]
 refine⟨by rw[GH,GG,da,da,h.vY],iz h.nodup _,by rw[GG,da];exact h.born.sublist (List.eraseIdx_sublist _ _),fun x hx=>h.lt x (by rw[GG]at hx;exact List.mem_of_mem_eraseIdx hx),fun x hx=>h.JO x (by rw[GG]at hx;exact List.mem_of_mem_eraseIdx hx),h.c0,h.cl,fun j e p he hp=>?_⟩
 rw[GG]at he
 rw[GH]at hp
 rw[List.getElem?_eraseIdx]at he hp
 by_cases fU:j<i
 ·
  rw[if_pos fU]at he hp
  exact h.done j e p he hp
 ·
  rw[if_neg fU]at he hp
  exact h.done (j+1) e p he hp
theorem dU.Ah{t k e x ix y b r}{l:List (κ×ν)}{D:List κ}{q:κ}{u:ν}(K:KL P k enc)(hu:P.underlying t=some (.map k e))(hx:ev E x=some (.map (some b)))(hi:ev E ix=some (enc q))(hy:ev E y=some (bQ u))(hq:(bK l q).isSome=true)(p:bD (yh enc bQ b r l D) Γ aI):
  dU P N E Γ ⟨dst,.mapUpdate t x ix y,ty,pos,after,guard⟩ fun _ cz=>cz=yh enc bQ b r (bT l q u) D::aI:=by
 intro A F w a nx Z hf cv hn
 obtain⟨es,clock,since,seen,c0,hm,hs⟩:=(cv.map fun _=>(p.app F).bh).uu
 have hh:=hs.own
 have ja:=K.find q es.toList (l.map (·.1)) (kP hm.vY) w
 have hg:(getObj b).run P w=.ok (.map es clock) w:=by simp[getObj,Sem.run,hh]
 unfold Oper.wp
 cases hj:(l.map (·.1)).findIdx? fun y=>decide (q=y)with
 |none=>
  exfalso
  have:=gP l q
  rw[hj]at this
  rw[←this]at hq;cases hq
 |some i=>
  obtain⟨cO,Dz,BG⟩:=jA (v:=u) hm.nodup hj
  have uf:i<es.toList.length:=by rw[hm.len];exact cO
  obtain⟨en,uw⟩:∃en,es.toList[i]?=some en:=⟨_,List.getElem?_eq_getElem uf⟩
  have jT:es[i]?=some en:=by rw[←Array.getElem?_toList];exact uw
  obtain⟨pr,yz,NP,_⟩:=hm.pair uw
  rw[yz]at Dz
  have JK:en.key=enc q:=by rw[NP];exact congrArg enc (Option.some.inj Dz)
  simp only[hj,Option.bind_some,Array.getElem?_toList,jT,Option.map_some]at ja
  obtain⟨r1,s1⟩:=Sat.setObj (P:=P) (o':=.map (es.modify i fun e=>{e with key:=enc q,val:=bQ u}) clock) hs (by simp)
  simp[execOp,hf.eval hx,hf.eval hi,hf.eval hy,Instr.mapUpdate,underlying,hu,hg,K.check,ja,jT,JK,K.stays,r1,Oper.upon]
  exact hn _ _ _ rfl (Sat.uv (hm.update (by rw[yz];exact Dz) BG jT) s1)
theorem dU.GM{args:Array Operand}{ts:Array TypeId}{t tk k e x ix b r}{l:List (κ×ν)}{D:List κ}{q:κ}(K:KL P k enc)(ha:args=#[x,ix])(o6:ts=#[t,tk])(hu:P.underlying t=some (.map k e))(hx:ev E x=some (.map (some b)))(hi:ev E ix=some (enc q))(hq:(bK l q).isSome=true)(p:bD (yh enc bQ b r l D) Γ aI):
  dU P N E Γ ⟨dst,.call ⟨.builtin .delete,args,ts⟩,ty,pos,after,guard⟩ fun _ cz=>cz=yh enc bQ b r (cQ l q) D::aI:=by
 subst ha o6
 intro A F w a nx Z hf cv hn
 obtain⟨es,clock,since,seen,c0,hm,hs⟩:=(cv.map fun _=>(p.app F).bh).uu
 have hh:=hs.own
 have ja:=K.find q es.toList (l.map (·.1)) (kP hm.vY) w
 have hg:(getObj b).run P w=.ok (.map es clock) w:=by simp[getObj,Sem.run,hh]
 unfold Oper.wp
 cases hj:(l.map (·.1)).findIdx? fun y=>decide (q=y)with
 |none=>
  exfalso
  have:=gP l q
  rw[hj]at this
  rw[←this]at hq;cases hq
 |some i=>
  obtain⟨cO,Dz,_⟩:=jA (v:=(l[i]'(by simpa using(List.findIdx?_eq_some_iff_findIdx_eq.1 hj).1)).2) hm.nodup hj
  have uf:i<es.toList.length:=by rw[hm.len];exact cO
  obtain⟨en,uw⟩:∃en,es.toList[i]?=some en:=⟨_,List.getElem?_eq_getElem uf⟩
  have jT:es[i]?=some en:=by rw[←Array.getElem?_toList];exact uw
  simp only[hj,Option.bind_some,Array.getElem?_toList,jT,Option.map_some]at ja
  obtain⟨r1,s1⟩:=Sat.setObj (P:=P) (o':=.map (es.eraseIdxIfInBounds i) clock) hs (by simp)
  simp[execOp,resolve,invoke,builtin,hf.eval hx,hf.eval hi,Builtin.delete_,underlying,hu,hg,K.check,ja,r1,Oper.upon]
  exact hn _ _ _ rfl (Sat.uv (hm.delete (yI hm.nodup cO Dz) (by simpa using uf)) s1)
end
variable{P:Program}{N:Nat}{E:Env}{Γ:List aj}{dst:Option Tmp}{ty:TypeId}{pos:String}{after:Array Edge}{guard:Option (Nat×Bool)}
def FO(P:Program)(s f off:Nat):Prop:=∃fs fd,P.underlying s=some (.struct fs)∧fs[f]?=some fd∧fd.offset=off∧cn P fd.type
theorem FO.of{s f off:Nat}{t:TypeId}{fs:Array Field}(hu:P.underlying s=some (.struct fs))(h1:(fs[f]?).map (fun d=>(d.offset,d.type))=some (off,t))(hn:cn P t):FO P s f off:=by
 cases e:fs[f]? with
 |none=>simp[e]at h1
 |some d=>
  simp[e]at h1
  obtain⟨h2,rfl⟩:=h1
  exact⟨fs,d,hu,e,h2,hn⟩
theorem Reads.field{s x f off v}{cs:Array Value}(hd:FO P s f off)(hx:ev E x=some (.agg cs))(hv:cs[off]?=some v):Reads P N E Γ ⟨dst,.field s x f,ty,pos,after,guard⟩ v:=fun _ w a hf _=>by
 obtain⟨fs,fd,h1,h2,h3,h4⟩:=hd
 have:=iN (P:=P) (cs:=cs) (off:=fd.offset) (v:=v) h4 (by rw[h3];exact hv) w
 simp[execOp,hf.eval hx,Instr.field,underlying,h1,h2,asAgg,this]
theorem Reads.yJ{t x t' ms}(hu:P.underlying t=some (.interface ms))(hx:ev E x=some .nilIface):
  Reads P N E Γ ⟨dst,.binOp .eql t x (.const .nilIface) t',ty,pos,after,guard⟩ (.bool true):=by
 refine .bin hx rfl (fun w=>by unfold eqGuard;simp) fun w=>?_
 refine binOp_eql (b:=true) (fun _=>rfl) w ?_
 rw[Op.equalIn.eq_def];simp[underlying,hu]
open Go Go.ChangeShapes Go.WideShapes Go.ChangeAt Go.RowKit
section
variable{H:Type}{enc:TypeId×Value→H}{P:Program}{W:World}{spare:Nat→Bool}{held:Bool}
def Fits(P:Program)(t:TypeId)(d:DataW H):Prop:=∀n∈d.weights P t,n≤140737488351232
def Rd{α:Type}(enc:TypeId×Value→H)(P:Program)(W:World)(spare:Nat→Bool)(held:Bool)(t:TypeId)(cells:α→List Value)(aT:α→Prop):Prop:=
 ∀(n:Nat) (cs:List Value) (x:DataW H×List MemPlace),DataW.trod enc P W 0 spare held n t cs=some x→Fits P t x.1→∃a,cs=cells a∧aT a
theorem Rd.int{t}{k:IntKind}(ht:P.underlying t=some (.int k)):Rd enc P W spare held t (fun n:Int=>[.int k n]) (fun n=>(Lit.int k n).wf=true):=fun n cs x h _=>by
 obtain⟨m,rfl,_,hw⟩:=DataW.trod_int ht h
 exact⟨m,rfl,hw⟩
theorem qx{e:TypeId}{l:List (DataW H)}{d:DataW H}(hd:d∈l){n:Nat}(hn:n∈d.weights P e):n∈DataW.weightsAll P e l:=by
 induction l with
 |nil=>cases hd
 |cons y l ih=>
  rw[DataW.weightsAll,List.mem_append]
  rcases List.mem_cons.1 hd with rfl|h
  ·
   exact .inl hn
  ·
   exact .inr (ih h)
theorem gF{n:Nat}{t:TypeId}{d:DataW H}(hn:n∈d.weights P t):∀{ts:List TypeId} {l:List (DataW H)} {i:Nat},ts[i]?=some t→l[i]?=some d→n∈DataW.weightsEach P ts l
 |[],_,_,h,_=>by simp at h
 |_::_,[],_,_,h=>by simp at h
 |u::ts,y::l,0,h,k=>by
  simp at h k;subst h k
  rw[DataW.weightsEach.eq_def];simp only[List.mem_append];exact .inl hn
 |u::ts,y::l,i+1,h,k=>by
  rw[DataW.weightsEach.eq_def];simp only[List.mem_append]
  exact .inr (gF hn (ts:=ts) (l:=l) (i:=i) (by simpa using h) (by simpa using k))
theorem Rd.field{α:Type}{t ft:TypeId}{cells:α→List Value}{aT:α→Prop}{fs:Array Field}{n:Nat}{cs:List Value}{x:DataW H×List MemPlace}(ht:P.underlying t=some (.struct fs))
  (h:DataW.trod enc P W 0 spare held n t cs=some x) (hf:Fits P t x.1) (i off sz:Nat) (hi:(fs[i]?).map (fun d=>(d.type,d.offset))=some (ft,off)) (hc:P.cellsOf ft=sz) (r:Rd enc P W spare held ft cells aT):
  ∃a,(cs.drop off).take sz=cells a∧aT a:=by
 obtain⟨xs,m,rfl,rfl,hl,hx,cy⟩:=DataW.trod_struct ht h
 cases Mq:fs[i]? with
 |none=>simp[Mq]at hi
 |some f=>
  simp[Mq]at hi
  obtain⟨rfl,rfl⟩:=hi
  have h1:=cy i f Mq
  rw[hc]at h1
  have cO:i<xs.length:=by rw[hx];exact(Array.getElem?_eq_some_iff.1 Mq).1
  have h2:xs[i]?=some xs[i]:=List.getElem?_eq_getElem cO
  rw[h2]at h1
  refine r m _ _ h1 fun w hw=>hf w ?_
  rw[DataW.weights.eq_def]
  simp only[ht]
  exact gF hw (i:=i) (by simp[Mq]) (by simp[h2])
theorem Rd.BN{t:TypeId}{fs:Array Field}{n:Nat}{cs:List Value}{x:DataW H×List MemPlace}(ht:P.underlying t=some (.struct fs))(h:DataW.trod enc P W 0 spare held n t cs=some x):cs.length=P.cellsOf t:=by
 obtain⟨xs,m,rfl,rfl,hl,hx,cy⟩:=DataW.trod_struct ht h
 exact hl
theorem eb{l:List Value}{n:Nat}(h:l.length=n+1):∃a t,l=a::t∧t.length=n:=by
 cases l with
 |nil=>simp at h
 |cons a t=>exact⟨a,t,rfl,by simpa using h⟩
theorem Rd.slice{α:Type}{t e:TypeId}{s o7:Nat}{cells:α→List Value}{aT:α→Prop}(ht:P.underlying t=some (.slice e))(hs:P.cellsOf e=s)(z7:0<s)(JC:P.bytesOf e=o7)(hlen:∀a,(cells a).length=s)(Dd:∀a,aB (cells a))
  (r:Rd enc P W spare held e cells aT):
  Rd enc P W spare held t (fun y:Option Addr×Nat×List α=>[.slice y.1 y.2.2.length y.2.1]) (fun y=>aD y.1 (y.2.2.flatMap cells) W∧(∀a∈y.2.2,aT a)∧y.2.2.length*o7≤140737488351232∧(y.1=none→y.2.2=[])∧y.2.2.length≤y.2.1):=by
 intro n cs x h hf
 rcases DataW.trod_slice ht h with⟨rfl,_⟩|⟨a,len,cap,wg,rest,m,rfl,rfl,rfl,_,RL,Us,Ut,Mr,_,_⟩
 ·
  exact⟨(none,0,[]),rfl,.inl rfl,fun _ h=>(by cases h),by show 0*o7≤_;omega,fun _=>rfl,Nat.le_refl _⟩
 ·
  have hw:DataW.weights P t (.slice (wg.map (·.1)) (rest.map (·.1)))=(wg.length+rest.length)*o7::(DataW.weightsAll P e (wg.map (·.1))++DataW.weightsAll P e (rest.map (·.1))):=by
   rw[DataW.weights.eq_def];simp only[ht,JC,List.length_map]
  have hb:len*o7≤140737488351232:=by
   have h1:=hf _ (by rw[hw];exact List.mem_cons_self)
   have h2:len*o7≤(wg.length+rest.length)*o7:=Nat.mul_le_mul_right _ (by omega)
   omega
  have each:∀i:Fin len,∃y:α,W.cells? 0 (a.add (i*s)) s=some (cells y)∧aT y:=fun i=>by
   have h1:=Mr i i.2
   rw[hs]at h1
   have hi:(i:Nat)<wg.length:=by omega
   rw[List.getElem?_eq_getElem hi,Option.bind_eq_some_iff]at h1
   obtain⟨Uu,hc,hd⟩:=h1
   obtain⟨y,rfl,hy⟩:=r _ _ _ hd fun w RM=>hf w (by
    rw[hw]
    exact List.mem_cons_of_mem _ (List.mem_append_left _ (qx (List.mem_map_of_mem (List.getElem_mem hi)) RM)))
   exact⟨y,hc,hy⟩
  let f:Fin len→α:=fun i=>(each i).choose
  have Lr:∀i:Fin len,W.cells? 0 (a.add (i*s)) s=some (cells (f i)):=fun i=>(each i).choose_spec.1
  have Ji:∀i:Fin len,aT (f i):=fun i=>(each i).choose_spec.2
  have Ai:(List.ofFn f).length=len:=List.length_ofFn
  refine⟨(some a,cap,List.ofFn f),by show _=[Value.slice (some a) (List.ofFn f).length cap];rw[Ai],?_,?_,by show(List.ofFn f).length*o7≤_;rw[Ai];exact hb,fun h=>(by cases h),by show(List.ofFn f).length≤cap;rw[Ai];exact RL⟩
  ·
   by_cases h0:len=0
   ·
    left
    have:List.ofFn f=[]:=List.eq_nil_of_length_eq_zero (by rw[Ai,h0])
    rw[this];rfl
   ·
    right
    obtain⟨_,_,RN⟩:=World.cells?_some (Lr ⟨0,by omega⟩)
    have Qh:a.spot=none:=by
     have:=RN 0 z7
     simp only[Nat.zero_mul]at this
     have hz:(cells (f ⟨0,by omega⟩))[0]?=some ((cells (f ⟨0,by omega⟩))[0]'(by rw[hlen];exact z7)):=List.getElem?_eq_getElem _
     rw[hz]at this
     simp only[Addr.add,if_true,World.cell?]at this
     split at this
     ·
      split at this
      ·
       cases this
      ·
       simpa using‹¬a.spot.isSome=true›
     ·
      cases this
    obtain⟨b,o,sp⟩:=a
    cases Qh
    refine⟨b,o,rfl,fun i v hv=>?_,aB.flatMap _ fun y _=>Dd y⟩
    have mm:i<(List.ofFn f).length*s:=by
     have:=(List.getElem?_eq_some_iff.1 hv).1
     rwa[au hlen]at this
    have hq:i/s<len:=by rw[←Ai];exact Nat.div_lt_of_lt_mul (by rw[Nat.mul_comm];exact mm)
    have hr:i%s<s:=Nat.mod_lt _ z7
    have hx:(List.ofFn f)[i/s]?=some (f ⟨i/s,hq⟩):=by rw[List.getElem?_ofFn];simp[hq]
    obtain⟨_,_,hc⟩:=World.cells?_some (Lr ⟨i/s,hq⟩)
    have h1:=hc (i%s) hr
    have Oj:(cells (f ⟨i/s,hq⟩))[i%s]?=some v:=by
     have hz:(cells (f ⟨i/s,hq⟩))[i%s]?=some ((cells (f ⟨i/s,hq⟩))[i%s]'(by rw[hlen];exact hr)):=List.getElem?_eq_getElem _
     have h2:=mG hlen _ _ _ hx _ _ hz
     rw[show i/s*s+i%s=i by rw[Nat.mul_comm];exact Nat.div_add_mod i s]at h2
     rw[h2]at hv
     rw[hz];exact hv
    rw[Oj]at h1
    rw[cA,cA]at h1
    rw[←h1]
    congr 2
    have:=Nat.div_add_mod i s
    rw[Nat.mul_comm]at this
    show o+i=o+i/s*s+i%s
    omega
  ·
   intro y hy
   obtain⟨i,rfl⟩:=List.mem_ofFn.1 hy
   exact Ji i
end
theorem Sat.below{W w':World}{Γ:List aj}(h:Sat (ye W) w' (Sp.base W::Γ)):Below W.heap.size W w':=by
 have hb:∀(k:Nat) (o:Obj),W.heap[k]?=some o→w'.heap[k]?=some o:=fun k o hk=>h.base k o hk
 obtain⟨ha,_⟩:=h
 refine⟨congrArg LL.os ha,congrArg LL.tape ha,congrArg LL.output ha,?_,fun k hk=>?_⟩
 ·
  by_cases h0:W.heap.size=0
  ·
   omega
  ·
   have cO:W.heap.size-1<W.heap.size:=by omega
   have h1:=hb (W.heap.size-1) _ (Array.getElem?_eq_getElem cO)
   have:=(Array.getElem?_eq_some_iff.1 h1).1
   omega
 ·
  have h1:W.heap[k]?=some W.heap[k]:=Array.getElem?_eq_getElem hk
  rw[hb k _ h1,h1]
theorem Cn.OH{P f}{args:List Value}{φ:World→Prop}{W:World}(h:Cn P f args (fun _=>True) [bF φ] fun v G=>v=.bool true∧G=[])(By:∀w:World,(∀(b:Nat) (o:Obj),W.heap[b]?=some o→w.heap[b]?=some o)→φ w):
  Calls P f args.toArray W fun e w'=>e=.returned (.bool true)∧Below W.heap.size W w':=by
 have hs:Sat (ye W) W (([bF φ]++[base W])++[]):=by
  have h1:Sat (ye W) W ([base W]++[base W]):=(Sat.start W).map fun _ s=>bh.C0 s
  refine Sat.close (fun h s=>?_) h1
  obtain⟨k,_,_,l,_,s,_⟩:=s
  obtain⟨j,jl,jr,e⟩:=bh.BJ By s
  exact⟨j,jl.trans l,jr,e⟩
 refine((h (base W) fun _ _ _=>trivial).runs (ye W) [] W hs).mono ?_
 rintro e w' ⟨v,aI,rfl,⟨fC,⟨rfl,rfl⟩,rfl⟩,s⟩
 exact⟨rfl,s.below⟩
theorem aD.later{W w:World}(H:∀(b:Nat) (o:Obj),W.heap[b]?=some o→w.heap[b]?=some o){a cs}(h:aD a cs W):aD a cs w:=by
 rcases h with h|⟨b,o,e,h⟩
 ·
  exact .inl h
 ·
  refine .inr ⟨b,o,e,fun i v hv=>?_,h.2⟩
  have h1:=h.1 i v hv
  unfold World.cell? at h1⊢
  cases hb:W.heap[b]? with
  |none=>simp[hb]at h1
  |some ob=>rw[hb]at h1;rw[H b ob hb];exact h1
section
variable{a b c d e f g h i j k l m n o p q r:aj}{Γ:List aj}
theorem bD.p0:bD a (a::Γ) Γ:=.head
theorem bD.p1:bD b (a::b::Γ) (a::Γ):=.tail .p0
theorem bD.p2:bD c (a::b::c::Γ) (a::b::Γ):=.tail .p1
theorem bD.p3:bD d (a::b::c::d::Γ) (a::b::c::Γ):=.tail .p2
theorem bD.p4:bD e (a::b::c::d::e::Γ) (a::b::c::d::Γ):=.tail .p3
theorem bD.p5:bD f (a::b::c::d::e::f::Γ) (a::b::c::d::e::Γ):=.tail .p4
theorem bD.p6:bD g (a::b::c::d::e::f::g::Γ) (a::b::c::d::e::f::Γ):=.tail .p5
theorem bD.p7:bD h (a::b::c::d::e::f::g::h::Γ) (a::b::c::d::e::f::g::Γ):=.tail .p6
theorem bD.p8:bD i (a::b::c::d::e::f::g::h::i::Γ) (a::b::c::d::e::f::g::h::Γ):=.tail .p7
theorem bD.p9:bD j (a::b::c::d::e::f::g::h::i::j::Γ) (a::b::c::d::e::f::g::h::i::Γ):=.tail .p8
theorem az.q0:az [a] (a::Γ) Γ:=.cons .p0 .nil
theorem az.cU:az [a,b] (a::b::Γ) Γ:=.cons .p0 (.cons .p0 .nil)
theorem az.q1:az [b] (a::b::Γ) (a::Γ):=.cons .p1 .nil
theorem az.ez:az [a,b,c] (a::b::c::Γ) Γ:=.cons .p0 (.cons .p0 (.cons .p0 .nil))
theorem az.q2:az [c] (a::b::c::Γ) (a::b::Γ):=.cons .p2 .nil
theorem az.px:az [b,c] (a::b::c::Γ) (a::Γ):=.cons .p1 (.cons .p1 .nil)
theorem az.sI:az [a,c] (a::b::c::Γ) (b::Γ):=.cons .p0 (.cons .p1 .nil)
theorem az.fw:az [a,b,c,d] (a::b::c::d::Γ) Γ:=.cons .p0 (.cons .p0 (.cons .p0 (.cons .p0 .nil)))
theorem az.vI:az [d,e] (a::b::c::d::e::Γ) (a::b::c::Γ):=.cons .p3 (.cons .p3 .nil)
theorem az.lj:az [b,c,a] (a::b::c::Γ) Γ:=.cons .p1 (.cons .p1 (.cons .p0 .nil))
theorem az.fe:az [a,b,c,d,e] (a::b::c::d::e::Γ) Γ:=.cons .p0 (.cons .p0 (.cons .p0 (.cons .p0 (.cons .p0 .nil))))
theorem az.nP:az [b,c,d] (a::b::c::d::Γ) (a::Γ):=.cons .p1 (.cons .p1 (.cons .p1 .nil))
theorem az.q3:az [d] (a::b::c::d::Γ) (a::b::c::Γ):=.cons .p3 .nil
theorem az.q4:az [e] (a::b::c::d::e::Γ) (a::b::c::d::Γ):=.cons .p4 .nil
theorem az.eT:az [b,a,c,d,e,f] (a::b::c::d::e::f::Γ) Γ:=.cons .p1 (.cons .p0 (.cons .p0 (.cons .p0 (.cons .p0 (.cons .p0 .nil)))))
theorem az.q7:az [h] (a::b::c::d::e::f::g::h::Γ) (a::b::c::d::e::f::g::Γ):=.cons .p7 .nil
theorem az.q6:az [g] (a::b::c::d::e::f::g::Γ) (a::b::c::d::e::f::Γ):=.cons .p6 .nil
theorem az.Gg:az [b,a] (a::b::Γ) Γ:=.cons .p1 (.cons .p0 .nil)
theorem az.lC:az [b,c,d,a] (a::b::c::d::Γ) Γ:=.cons .p1 (.cons .p1 (.cons .p1 (.cons .p0 .nil)))
theorem az.q5:az [f] (a::b::c::d::e::f::Γ) (a::b::c::d::e::Γ):=.cons .p5 .nil
theorem az.wh:az [b,a,c] (a::b::c::Γ) Γ:=.cons .p1 (.cons .p0 (.cons .p0 .nil))
theorem az.Jj:az [c,d] (a::b::c::d::Γ) (a::b::Γ):=.cons .p2 (.cons .p2 .nil)
theorem az.oO:az [a,c,f,g] (a::b::c::d::e::f::g::Γ) (b::d::e::Γ):=.cons .p0 (.cons .p1 (.cons .p3 (.cons .p3 .nil)))
theorem az.oP:az [a,b,c,e] (a::b::c::d::e::Γ) (d::Γ):=.cons .p0 (.cons .p0 (.cons .p0 (.cons .p1 .nil)))
theorem az.iB:az [b,a,c,d,e,f,g] (a::b::c::d::e::f::g::Γ) Γ:=.cons .p1 (.cons .p0 (.cons .p0 (.cons .p0 (.cons .p0 (.cons .p0 (.cons .p0 .nil))))))
theorem az.jC:az [a,b,c,d,e,f] (a::b::c::d::e::f::Γ) Γ:=.cons .p0 (.cons .p0 (.cons .p0 (.cons .p0 (.cons .p0 (.cons .p0 .nil)))))
theorem az.JQ:az [a,f] (a::b::c::d::e::f::Γ) (b::c::d::e::Γ):=.cons .p0 (.cons .p4 .nil)
theorem az.qy:az [b,a,c,d] (a::b::c::d::Γ) Γ:=.cons .p1 (.cons .p0 (.cons .p0 (.cons .p0 .nil)))
theorem az.iC:az [f,a,b,c,d,e,g] (a::b::c::d::e::f::g::Γ) Γ:=.cons .p5 (.cons .p0 (.cons .p0 (.cons .p0 (.cons .p0 (.cons .p0 (.cons .p0 .nil))))))
theorem az.Ls:az [c,e] (a::b::c::d::e::Γ) (a::b::d::Γ):=.cons .p2 (.cons .p3 .nil)
theorem az.BO:az [a,b,e] (a::b::c::d::e::Γ) (c::d::Γ):=.cons .p0 (.cons .p0 (.cons .p2 .nil))
theorem az.BP:az [c,e,f] (a::b::c::d::e::f::Γ) (a::b::d::Γ):=.cons .p2 (.cons .p3 (.cons .p3 .nil))
theorem az.Lt:az [a,e] (a::b::c::d::e::Γ) (b::c::d::Γ):=.cons .p0 (.cons .p3 .nil)
theorem az.DA:az [c,a,b] (a::b::c::Γ) Γ:=.cons .p2 (.cons .p0 (.cons .p0 .nil))
theorem az.Ms:az [b,e] (a::b::c::d::e::Γ) (a::c::d::Γ):=.cons .p1 (.cons .p3 .nil)
theorem az.qz:az [b,a,c,d,e] (a::b::c::d::e::Γ) Γ:=.cons .p1 (.cons .p0 (.cons .p0 (.cons .p0 (.cons .p0 .nil))))
theorem az.wi:az [c,a,b,d] (a::b::c::d::Γ) Γ:=.cons .p2 (.cons .p0 (.cons .p0 (.cons .p0 .nil)))
theorem az.qA:az [c,a,b,d,e] (a::b::c::d::e::Γ) Γ:=.cons .p2 (.cons .p0 (.cons .p0 (.cons .p0 (.cons .p0 .nil))))
theorem az.mJ:az [e,a,b,c,d,f] (a::b::c::d::e::f::Γ) Γ:=.cons .p4 (.cons .p0 (.cons .p0 (.cons .p0 (.cons .p0 (.cons .p0 .nil)))))
theorem az.Aj:az [b,c,d,e] (a::b::c::d::e::Γ) (a::Γ):=.cons .p1 (.cons .p1 (.cons .p1 (.cons .p1 .nil)))
theorem az.mK:az [d,a,b,c,e,f,g] (a::b::c::d::e::f::g::Γ) Γ:=.cons .p3 (.cons .p0 (.cons .p0 (.cons .p0 (.cons .p0 (.cons .p0 (.cons .p0 .nil))))))
theorem az.GN:az [a,b,d] (a::b::c::d::Γ) (c::Γ):=.cons .p0 (.cons .p0 (.cons .p1 .nil))
theorem az.Ak:az [c,b,a,d] (a::b::c::d::Γ) Γ:=.cons .p2 (.cons .p1 (.cons .p0 (.cons .p0 .nil)))
theorem az.kS:az [b,a,c,d,e,f,g,h] (a::b::c::d::e::f::g::h::Γ) Γ:=.cons .p1 (.cons .p0 (.cons .p0 (.cons .p0 (.cons .p0 (.cons .p0 (.cons .p0 (.cons .p0 .nil)))))))
theorem az.kT:az [c,a,b,d,e,f,g,h] (a::b::c::d::e::f::g::h::Γ) Γ:=.cons .p2 (.cons .p0 (.cons .p0 (.cons .p0 (.cons .p0 (.cons .p0 (.cons .p0 (.cons .p0 .nil)))))))
theorem az.ux:az [d,a,b,c,e] (a::b::c::d::e::Γ) Γ:=.cons .p3 (.cons .p0 (.cons .p0 (.cons .p0 (.cons .p0 .nil))))
theorem az.GO:az [d,e,f] (a::b::c::d::e::f::Γ) (a::b::c::Γ):=.cons .p3 (.cons .p3 (.cons .p3 .nil))
theorem az.mL:az [e,a,b,c,d,f,g] (a::b::c::d::e::f::g::Γ) Γ:=.cons .p4 (.cons .p0 (.cons .p0 (.cons .p0 (.cons .p0 (.cons .p0 (.cons .p0 .nil))))))
theorem az.mM:az [c,a,b,d,e,f,g] (a::b::c::d::e::f::g::Γ) Γ:=.cons .p2 (.cons .p0 (.cons .p0 (.cons .p0 (.cons .p0 (.cons .p0 (.cons .p0 .nil))))))
theorem az.mN:az [a,b,c,d,e,f,g] (a::b::c::d::e::f::g::Γ) Γ:=.cons .p0 (.cons .p0 (.cons .p0 (.cons .p0 (.cons .p0 (.cons .p0 (.cons .p0 .nil))))))
theorem az.DB:az [a,c,b,d] (a::b::c::d::Γ) Γ:=.cons .p0 (.cons .p1 (.cons .p0 (.cons .p0 .nil)))
theorem az.uy:az [d,a,b,c,e,f] (a::b::c::d::e::f::Γ) Γ:=.cons .p3 (.cons .p0 (.cons .p0 (.cons .p0 (.cons .p0 (.cons .p0 .nil)))))
theorem az.DC:az [a,b,d,e] (a::b::c::d::e::Γ) (c::Γ):=.cons .p0 (.cons .p0 (.cons .p1 (.cons .p1 .nil)))
theorem az.yK:az [b,c,a,d,e] (a::b::c::d::e::Γ) Γ:=.cons .p1 (.cons .p1 (.cons .p0 (.cons .p0 (.cons .p0 .nil))))
end
theorem Le.r1{E:Env}{t0:Nat}{v0:Value}(h0:lk E t0=some v0:=by rfl):Le [(t0,v0)] E:=.cons h0 .nil
theorem Le.r2{E:Env}{t0 t1:Nat}{v0 v1:Value}(h0:lk E t0=some v0:=by rfl)(h1:lk E t1=some v1:=by rfl):Le [(t0,v0),(t1,v1)] E:=.cons h0 (.r1 h1)
theorem Le.r3{E:Env}{t0 t1 t2:Nat}{v0 v1 v2:Value}(h0:lk E t0=some v0:=by rfl)(h1:lk E t1=some v1:=by rfl)(h2:lk E t2=some v2:=by rfl):Le [(t0,v0),(t1,v1),(t2,v2)] E:=.cons h0 (.r2 h1 h2)
theorem Le.r4{E:Env}{t0 t1 t2 t3:Nat}{v0 v1 v2 v3:Value}(h0:lk E t0=some v0:=by rfl)(h1:lk E t1=some v1:=by rfl)(h2:lk E t2=some v2:=by rfl)(h3:lk E t3=some v3:=by rfl):Le [(t0,v0),(t1,v1),(t2,v2),(t3,v3)] E:=.cons h0 (.r3 h1 h2 h3)
theorem Le.r5{E:Env}{t0 t1 t2 t3 t4:Nat}{v0 v1 v2 v3 v4:Value}(h0:lk E t0=some v0:=by rfl)(h1:lk E t1=some v1:=by rfl)(h2:lk E t2=some v2:=by rfl)(h3:lk E t3=some v3:=by rfl)(h4:lk E t4=some v4:=by rfl):Le [(t0,v0),(t1,v1),(t2,v2),(t3,v3),(t4,v4)] E:=.cons h0 (.r4 h1 h2 h3 h4)
theorem Le.r6{E:Env}{t0 t1 t2 t3 t4 t5:Nat}{v0 v1 v2 v3 v4 v5:Value}(h0:lk E t0=some v0:=by rfl)(h1:lk E t1=some v1:=by rfl)(h2:lk E t2=some v2:=by rfl)(h3:lk E t3=some v3:=by rfl)(h4:lk E t4=some v4:=by rfl)(h5:lk E t5=some v5:=by rfl):Le [(t0,v0),(t1,v1),(t2,v2),(t3,v3),(t4,v4),(t5,v5)] E:=.cons h0 (.r5 h1 h2 h3 h4 h5)
theorem Le.r7{E:Env}{t0 t1 t2 t3 t4 t5 t6:Nat}{v0 v1 v2 v3 v4 v5 v6:Value}(h0:lk E t0=some v0:=by rfl)(h1:lk E t1=some v1:=by rfl)(h2:lk E t2=some v2:=by rfl)(h3:lk E t3=some v3:=by rfl)(h4:lk E t4=some v4:=by rfl)(h5:lk E t5=some v5:=by rfl)(h6:lk E t6=some v6:=by rfl):Le [(t0,v0),(t1,v1),(t2,v2),(t3,v3),(t4,v4),(t5,v5),(t6,v6)] E:=.cons h0 (.r6 h1 h2 h3 h4 h5 h6)
theorem Le.r8{E:Env}{t0 t1 t2 t3 t4 t5 t6 t7:Nat}{v0 v1 v2 v3 v4 v5 v6 v7:Value}(h0:lk E t0=some v0:=by rfl)(h1:lk E t1=some v1:=by rfl)(h2:lk E t2=some v2:=by rfl)(h3:lk E t3=some v3:=by rfl)(h4:lk E t4=some v4:=by rfl)(h5:lk E t5=some v5:=by rfl)(h6:lk E t6=some v6:=by rfl)(h7:lk E t7=some v7:=by rfl):Le [(t0,v0),(t1,v1),(t2,v2),(t3,v3),(t4,v4),(t5,v5),(t6,v6),(t7,v7)] E:=.cons h0 (.r7 h1 h2 h3 h4 h5 h6 h7)
theorem Le.r9{E:Env}{t0 t1 t2 t3 t4 t5 t6 t7 t8:Nat}{v0 v1 v2 v3 v4 v5 v6 v7 v8:Value}(h0:lk E t0=some v0:=by rfl)(h1:lk E t1=some v1:=by rfl)(h2:lk E t2=some v2:=by rfl)(h3:lk E t3=some v3:=by rfl)(h4:lk E t4=some v4:=by rfl)(h5:lk E t5=some v5:=by rfl)(h6:lk E t6=some v6:=by rfl)(h7:lk E t7=some v7:=by rfl)(h8:lk E t8=some v8:=by rfl):Le [(t0,v0),(t1,v1),(t2,v2),(t3,v3),(t4,v4),(t5,v5),(t6,v6),(t7,v7),(t8,v8)] E:=.cons h0 (.r8 h1 h2 h3 h4 h5 h6 h7 h8)
section
variable{P:Program}{E:Env}{Γ:List aj}
theorem e7.t1{t0:Nat}{v0:Value}(h0:lk E t0=some v0):e7 P E Γ [.tmp t0] [v0]:=.cons (.tmp h0) .nil
theorem e7.t2{t0 t1:Nat}{v0 v1:Value}(h0:lk E t0=some v0)(h1:lk E t1=some v1):e7 P E Γ [.tmp t0,.tmp t1] [v0,v1]:=.cons (.tmp h0) (.t1 h1)
theorem e7.t3{t0 t1 t2:Nat}{v0 v1 v2:Value}(h0:lk E t0=some v0)(h1:lk E t1=some v1)(h2:lk E t2=some v2):e7 P E Γ [.tmp t0,.tmp t1,.tmp t2] [v0,v1,v2]:=.cons (.tmp h0) (.t2 h1 h2)
theorem e7.t4{t0 t1 t2 t3:Nat}{v0 v1 v2 v3:Value}(h0:lk E t0=some v0)(h1:lk E t1=some v1)(h2:lk E t2=some v2)(h3:lk E t3=some v3):e7 P E Γ [.tmp t0,.tmp t1,.tmp t2,.tmp t3] [v0,v1,v2,v3]:=.cons (.tmp h0) (.t3 h1 h2 h3)
end
theorem ah{Γ:List aj}:af Γ fun _=>True:=fun _ _ _=>trivial
theorem aU{a b:Nat}(h:Nat.ble a b=true:=by rfl):a≤b:=Nat.le_of_ble_eq_true h
theorem aE{p:Prop}[Decidable p](h:¬p):Value.bool (decide p)=.bool false:=congrArg Value.bool (decide_eq_false h)
theorem bR{p:Prop}[Decidable p](h:p):Value.bool (decide p)=.bool true:=congrArg Value.bool (decide_eq_true h)
theorem ae{α:Type}(l:List α):[]++l=l:=rfl
theorem ag{α:Type}(x:α)(k l:List α):x::k++l=x::(k++l):=rfl
section
variable{P:Program}{N:Nat}{ops:Array Oper}{E:Env}{Γ cG:List aj}{K:Env→List aj→Prop}{be:Nat}{listed:Array Bool}{L:List Nat}
theorem ay{i:Nat}{p q:Prop}(h:q)(w:waits ops L i=true:=by kernel_rfl):(waits ops L i=true∨p)∧q:=⟨.inl w,h⟩
theorem bp.dn(h:K E Γ)(hr:Region.ready .any ops listed=[]:=by kernel_rfl):bp P N ops L cG be listed E Γ K:=.done hr h
def NQ(ops:Array Oper)(listed:Array Bool)(i:Nat):Bool:=Region.noSelect ops&&Region.free .any ops listed i&&(Region.ready .any ops listed).contains i
theorem BQ{i:Nat}(h:NQ ops listed i=true):Region.noSelect ops=true∧Region.free .any ops listed i=true∧(Region.ready .any ops listed).contains i=true:=by
 unfold NQ at h;rw[Bool.and_eq_true,Bool.and_eq_true]at h;exact⟨h.1.1,h.1.2,h.2⟩
theorem bp.rq(i:Nat){d op ty pos after v}(ho:ops[i]?=some ⟨some d,op,ty,pos,after,none⟩)(h:Reads P N E [] ⟨some d,op,ty,pos,after,none⟩ v)
  (next:bp P N ops L cG be (listed.setIfInBounds i true) ((d,v)::E) Γ K) (hd:Nat.blt d N=true:=by rfl) (k:NQ ops listed i=true:=by kernel_rfl):bp P N ops L cG (be+1) listed E Γ K:=.rp i ho (BQ k).1 (BQ k).2.1 (BQ k).2.2 (Reads.pure h) next hd
theorem bp.re{Δ}(i:Nat){d op ty pos after v}(ho:ops[i]?=some ⟨some d,op,ty,pos,after,none⟩)(h:Reads P N E cG ⟨some d,op,ty,pos,after,none⟩ v)(p:az cG Γ Δ)
  (next:bp P N ops L cG be (listed.setIfInBounds i true) ((d,v)::E) Γ K) (hd:Nat.blt d N=true:=by rfl) (hL:L.contains i=true:=by rfl) (k:NQ ops listed i=true:=by kernel_rfl):bp P N ops L cG (be+1) listed E Γ K:=.rd i ho hL (BQ k).1 (BQ k).2.1 (BQ k).2.2 h p next hd
theorem bp.eg(i:Nat){d op ty pos after}{K1:Value→List aj→Prop}(ho:ops[i]?=some ⟨some d,op,ty,pos,after,none⟩)(h:dU P N E Γ ⟨some d,op,ty,pos,after,none⟩ K1)
  (next:∀v aI,K1 v aI→(waits ops L i=true∨∃Δ,az cG aI Δ)∧bp P N ops L cG be (listed.setIfInBounds i true) ((d,v)::E) aI K) (hd:Nat.blt d N=true:=by rfl) (hr:Region.ready .any ops listed=[i]:=by kernel_rfl):bp P N ops L cG (be+1) listed E Γ K:=.ef i hr ho h next hd
theorem bp.eh(i:Nat){op ty pos after}{K1:Value→List aj→Prop}(ho:ops[i]?=some ⟨none,op,ty,pos,after,none⟩)(h:dU P N E Γ ⟨none,op,ty,pos,after,none⟩ K1)
  (next:∀v aI,K1 v aI→(waits ops L i=true∨∃Δ,az cG aI Δ)∧bp P N ops L cG be (listed.setIfInBounds i true) E aI K) (hr:Region.ready .any ops listed=[i]:=by kernel_rfl):bp P N ops L cG (be+1) listed E Γ K:=.dc i hr ho h next
end
theorem bH.dr{C:Cx}{k id}{ops:Array Oper}{E:Env}{Γ:List aj}{Q:Value→List aj→Prop}(L:List Nat)(cG:List aj)
  (h:bp C.P C.fn.ntmps ops L cG ops.size (Array.replicate ops.size false) E Γ fun E' aI=>bH C k E' aI Q) (hm:C.P.follows .mixedOrders=true:=by kernel_rfl):bH C (.code (.region id ops true)::k) E Γ Q:=.Di L cG hm h
theorem Cn.en{P:Program}{f:FuncId}{fn:Func}{c:Code}{args:List Value}{φ:World→Prop}{mj:List aj}{Q:Value→List aj→Prop}(hf:P.funcs[f]?=some fn)
  (h:∀R,af [R] φ→bH ⟨P,f,fn⟩ [.code c] (j9 0 args) (mj++[R]) fun v aI=>∃fC,Q v fC∧aI=fC++[R]) (hb:fn.body=some c:=by rfl) (hn:(fn.name== "runtime.NumGoroutine")=false:=by kernel_rfl) (hl:Nat.ble args.length fn.ntmps=true:=by rfl):Cn P f args φ mj Q:=.enter hf hb hn hl h
theorem bH.al{C:Cx}{k:List Item}{E:Env}{Γ:List aj}{Q:Value→List aj→Prop}(t:Nat){v:Value}(v':Value)(he:lk E t=some v)(hv:v=v')(next:bH C k ((t,v')::E) Γ Q):bH C k E Γ Q:=.alter he hv next
theorem aZ.al{P:Program}{N:Nat}{ops:Array Oper}{os:List Oper}{E:Env}{Γ:List aj}{K:Env→List aj→Prop}(t:Nat){v:Value}(v':Value)(he:lk E t=some v)(hv:v=v')(next:aZ P N ops os ((t,v')::E) Γ K):aZ P N ops os E Γ K:=.alter he hv next
theorem bp.al{P:Program}{N:Nat}{ops:Array Oper}{E:Env}{Γ cG:List aj}{K:Env→List aj→Prop}{be:Nat}{listed:Array Bool}{L:List Nat}(t:Nat){v:Value}(v':Value)(he:lk E t=some v)(hv:v=v')(next:bp P N ops L cG be listed ((t,v')::E) Γ K):bp P N ops L cG be listed E Γ K:=.alter he hv next
theorem bH.ca{C:Cx}{k:List Item}{E:Env}{Γ:List aj}{Q:Value→List aj→Prop}{X:aj}(X':aj)(h:X=X')(n:bH C k E (X'::Γ) Q):bH C k E (X::Γ) Q:=h▸n
theorem bp.ca{P:Program}{N:Nat}{ops:Array Oper}{E:Env}{Γ cG:List aj}{K:Env→List aj→Prop}{be:Nat}{listed:Array Bool}{L:List Nat}{X:aj}(X':aj)(h:X=X')(n:bp P N ops L cG be listed E (X'::Γ) K):bp P N ops L cG be listed E (X::Γ) K:=.cast h n
theorem aZ.ca{P:Program}{N:Nat}{ops:Array Oper}{os:List Oper}{E:Env}{Γ:List aj}{K:Env→List aj→Prop}{X:aj}(X':aj)(h:X=X')(n:aZ P N ops os E (X'::Γ) K):aZ P N ops os E (X::Γ) K:=h▸n
end Go.Sp
theorem Go.av{P:Go.Program}{f:Nat}{fn Qi:Go.Func}(h:P.funcs[f]?=some fn)(e:fn=Qi:=by kernel_rfl):P.funcs[f]?=some Qi:=h.trans (congrArg some e)
namespace Go.Proofs.YtoglbebcdjdkiaaGreatDoor
open Go Go.Sp
theorem fX:TI Tryz.prog 5 1 1 (.int .u8 0):=.of (by kernel_rfl)
theorem ak:cn Tryz.prog 3:=⟨_,Tryz.underlying3,trivial⟩
theorem JR:FD Tryz.prog 41 1 1:=.of Tryz.underlying41 (by kernel_rfl)
theorem JS:FD Tryz.prog 41 2 2:=.of Tryz.underlying41 (by kernel_rfl)
theorem JT:FD Tryz.prog 41 3 3:=.of Tryz.underlying41 (by kernel_rfl)
theorem JU:FD Tryz.prog 41 4 4:=.of Tryz.underlying41 (by kernel_rfl)
theorem qB:FD Tryz.prog 41 5 5:=.of Tryz.underlying41 (by kernel_rfl)
theorem gG:cn Tryz.prog 39:=⟨_,Tryz.underlying39,trivial⟩
theorem JV(x0:Int)(x1:Int)(x2:Int)(x3:Int)(x4:Int)(x5:Int)(w:World):(Instr.build 207 (([0,1,2,3,4,5]:List Nat).zip [.int .i64 x0,.int .i64 x1,.int .i64 x2,.int .i64 x3,.int .i64 x4,.int .i64 x5]).toArray).run Tryz.prog w=.ok (.agg #[.int .i64 x0,.int .i64 x1,.int .i64 x2,.int .i64 x3,.int .i64 x4,.int .i64 x5]) w:=by kernel_rfl
theorem cc:TS Tryz.prog 3 1:=.of (by kernel_rfl)
theorem fE:TS Tryz.prog 99 3:=.of (by kernel_rfl)
theorem py:iM Tryz.prog 99:=⟨_,Tryz.underlying99,trivial⟩
theorem iO:TI Tryz.prog 99 3 40 (.agg #[.string ⟨#[]⟩,.string ⟨#[]⟩,.int .i64 0]):=.of (by kernel_rfl)
theorem aR:cn Tryz.prog 9:=⟨_,Tryz.underlying9,trivial⟩
theorem bE:TS Tryz.prog 97 4:=.of (by kernel_rfl)
theorem gQ:iM Tryz.prog 97:=⟨_,Tryz.underlying97,trivial⟩
theorem eA:cn Tryz.prog 91:=⟨_,Tryz.underlying91,trivial⟩
theorem mO:TI Tryz.prog 89 1 24 (.slice none 0 0):=.of (by kernel_rfl)
theorem de:TI Tryz.prog 97 4 32 (.agg #[.int .i64 0,.int .i64 0,.int .i64 0,.int .i64 0]):=.of (by kernel_rfl)
theorem GP:iM Tryz.prog 95:=⟨_,Tryz.underlying95,trivial⟩
theorem GQ:TS Tryz.prog 95 3:=.of (by kernel_rfl)
theorem uz(x0:Int)(x1:Int)(x2:Int)(w:World):(Instr.build 95 (([0,1,2]:List Nat).zip [.int .i64 x0,.int .i64 x1,.int .i64 x2]).toArray).run Tryz.prog w=.ok (.agg #[.int .i64 x0,.int .i64 x1,.int .i64 x2]) w:=by kernel_rfl
theorem gp:cn Tryz.prog 4:=⟨_,Tryz.underlying4,trivial⟩
theorem kU:TS Tryz.prog 4 1:=.of (by kernel_rfl)
theorem fF:TS Tryz.prog 9 1:=.of (by kernel_rfl)
theorem bi:iM Tryz.prog 41:=⟨_,Tryz.underlying41,trivial⟩
theorem aO:TS Tryz.prog 41 6:=.of (by kernel_rfl)
theorem GR(x0:Option Nat)(w:World):(Instr.build 93 (([0]:List Nat).zip [.map x0]).toArray).run Tryz.prog w=.ok (.agg #[.map x0]) w:=by kernel_rfl
theorem pz:FD Tryz.prog 41 0 0:=.of Tryz.underlying41 (by kernel_rfl)
theorem Al(Mt:Int)(Mu:Int)(Mv:Int)(x1:Int)(w:World):(Instr.build 97 (([0,1]:List Nat).zip [.agg #[.int .i64 Mt,.int .i64 Mu,.int .i64 Mv],.int .i64 x1]).toArray).run Tryz.prog w=.ok (.agg #[.int .i64 Mt,.int .i64 Mu,.int .i64 Mv,.int .i64 x1]) w:=by kernel_rfl
theorem Am:FD Tryz.prog 97 1 3:=.of Tryz.underlying97 (by kernel_rfl)
theorem gq:TI Tryz.prog 70 3 32 (.agg #[.int .i64 0,.int .i64 0,.string ⟨#[]⟩]):=.of (by kernel_rfl)
theorem cw:TS Tryz.prog 70 3:=.of (by kernel_rfl)
theorem kV:iM Tryz.prog 70:=⟨_,Tryz.underlying70,trivial⟩
theorem An:TS Tryz.prog 89 1:=.of (by kernel_rfl)
theorem Ao:cn Tryz.prog 89:=⟨_,Tryz.underlying89,trivial⟩
theorem kW:cn Tryz.prog 115:=⟨_,Tryz.underlying115,trivial⟩
theorem Ap:TS Tryz.prog 115 1:=.of (by kernel_rfl)
theorem GS:TI Tryz.prog 115 1 24 (.slice none 0 0):=.of (by kernel_rfl)
theorem gR:TI Tryz.prog 3 1 8 (.int .i64 0):=.of (by kernel_rfl)
theorem eB:cn Tryz.prog 72:=⟨_,Tryz.underlying72,trivial⟩
theorem df:TI Tryz.prog 104 2 24 (.agg #[.string ⟨#[]⟩,.int .i64 0]):=.of (by kernel_rfl)
theorem Aq:FO Tryz.prog 104 0 0:=.of Tryz.underlying104 (by kernel_rfl) aR
theorem iP:TS Tryz.prog 104 2:=.of (by kernel_rfl)
theorem GU:FD Tryz.prog 104 0 0:=.of Tryz.underlying104 (by kernel_rfl)
theorem GV:iM Tryz.prog 104:=⟨_,Tryz.underlying104,trivial⟩
theorem mP(x0:ByteArray)(x1:Int)(w:World):(Instr.build 104 (([0,1]:List Nat).zip [.string x0,.int .i64 x1]).toArray).run Tryz.prog w=.ok (.agg #[.string x0,.int .i64 x1]) w:=by kernel_rfl
theorem GW(w:World):(Instr.build 104 (([]:List Nat).zip []).toArray).run Tryz.prog w=.ok (.agg #[.string ⟨#[]⟩,.int .i64 0]) w:=by kernel_rfl
theorem GX(x0:Int)(x1:Option Nat)(w:World):(Instr.build 74 (([0,2]:List Nat).zip [.int .i64 x0,.map x1]).toArray).run Tryz.prog w=.ok (.agg #[.int .i64 x0,.int .i64 0,.map x1]) w:=by kernel_rfl
theorem dz:cn Tryz.prog 108:=⟨_,Tryz.underlying108,trivial⟩
theorem eU:TS Tryz.prog 112 4:=.of (by kernel_rfl)
theorem GY:FD Tryz.prog 112 1 1:=.of Tryz.underlying112 (by kernel_rfl)
theorem dh:cn Tryz.prog 24:=⟨_,Tryz.underlying24,trivial⟩
theorem aN:cn Tryz.prog 54:=⟨_,Tryz.underlying54,trivial⟩
theorem iQ:cn Tryz.prog 31:=⟨_,Tryz.underlying31,trivial⟩
theorem Ar:TS Tryz.prog 31 1:=.of (by kernel_rfl)
theorem uA:iM Tryz.prog 112:=⟨_,Tryz.underlying112,trivial⟩
theorem mQ:TI Tryz.prog 112 4 32 (.agg #[.int .i64 0,.int .i64 0,.int .i64 0,.int .i64 0]):=.of (by kernel_rfl)
theorem uB:TS Tryz.prog 108 1:=.of (by kernel_rfl)
theorem di:TI Tryz.prog 41 6 64 (.agg #[.int .i64 0,.int .i64 0,.int .i64 0,.int .i64 0,.int .i64 0,.slice none 0 0]):=.of (by kernel_rfl)
theorem mR(w:World):(Instr.build 41 (([]:List Nat).zip []).toArray).run Tryz.prog w=.ok (.agg #[.int .i64 0,.int .i64 0,.int .i64 0,.int .i64 0,.int .i64 0,.slice none 0 0]) w:=by kernel_rfl
theorem GZ(x0:ByteArray)(x1:Bool)(w:World):(Instr.build 186 (([0,1]:List Nat).zip [.string x0,.bool x1]).toArray).run Tryz.prog w=.ok (.agg #[.string x0,.bool x1]) w:=by kernel_rfl
theorem G0(x0:Option Addr)(x1:Option Addr)(x2:Option Addr)(x3:Option Addr)(x4:Option Addr)(w:World):(Instr.build 188 (([0,1,2,3,4]:List Nat).zip [.pointer x0,.pointer x1,.pointer x2,.pointer x3,.pointer x4]).toArray).run Tryz.prog w=.ok (.agg #[.pointer x0,.pointer x1,.pointer x2,.pointer x3,.pointer x4]) w:=by kernel_rfl
theorem G2:cn Tryz.prog 187:=⟨_,Tryz.underlying187,trivial⟩
theorem G3:TS Tryz.prog 187 1:=.of (by kernel_rfl)
theorem G4(x0:Int)(w:World):(Instr.build 99 (([2]:List Nat).zip [.int .i64 x0]).toArray).run Tryz.prog w=.ok (.agg #[.string ⟨#[]⟩,.string ⟨#[]⟩,.int .i64 x0]) w:=by kernel_rfl
theorem G5:FD Tryz.prog 99 0 0:=.of Tryz.underlying99 (by kernel_rfl)
theorem G6:FD Tryz.prog 99 1 1:=.of Tryz.underlying99 (by kernel_rfl)
theorem Au:TS Tryz.prog 39 1:=.of (by kernel_rfl)
theorem G7(x0:Option Addr)(x1:ByteArray)(x2:Int)(w:World):(Instr.build 110 (([0,1,2]:List Nat).zip [.pointer x0,.string x1,.int .i64 x2]).toArray).run Tryz.prog w=.ok (.agg #[.pointer x0,.string x1,.int .i64 x2,.slice none 0 0,.slice none 0 0]) w:=by kernel_rfl
theorem Av(x0:Int)(x1:Int)(x2:Int)(x3:Int)(w:World):(Instr.build 112 (([0,1,2,3]:List Nat).zip [.int .i64 x0,.int .i64 x1,.int .i64 x2,.int .i64 x3]).toArray).run Tryz.prog w=.ok (.agg #[.int .i64 x0,.int .i64 x1,.int .i64 x2,.int .i64 x3]) w:=by kernel_rfl
theorem cV:cn Tryz.prog 55:=⟨_,Tryz.underlying55,trivial⟩
theorem Aw:TI Tryz.prog 54 1 8 (.pointer none):=.of (by kernel_rfl)
theorem mS:TS Tryz.prog 55 1:=.of (by kernel_rfl)
theorem dQ:TS Tryz.prog 54 1:=.of (by kernel_rfl)
theorem Ax(x0:Option Addr)(x1:ByteArray)(x2:Int)(w:World):(Instr.build 57 (([1,2,3]:List Nat).zip [.pointer x0,.string x1,.int .i64 x2]).toArray).run Tryz.prog w=.ok (.agg #[.pointer none,.pointer x0,.string x1,.int .i64 x2,.int .i64 0,.int .i64 0,.slice none 0 0]) w:=by kernel_rfl
theorem G8(x0:ByteArray)(w:World):(Instr.build 99 (([1]:List Nat).zip [.string x0]).toArray).run Tryz.prog w=.ok (.agg #[.string ⟨#[]⟩,.string x0,.int .i64 0]) w:=by kernel_rfl
theorem Ay:FD Tryz.prog 112 3 3:=.of Tryz.underlying112 (by kernel_rfl)
theorem G9:FD Tryz.prog 112 2 2:=.of Tryz.underlying112 (by kernel_rfl)
theorem eV:cn Tryz.prog 64:=⟨_,Tryz.underlying64,trivial⟩
theorem gS:cn Tryz.prog 65:=⟨_,Tryz.underlying65,trivial⟩
theorem He:TI Tryz.prog 177 2 32 (.agg #[.pointer none,.slice none 0 0]):=.of (by kernel_rfl)
theorem Az:TS Tryz.prog 64 1:=.of (by kernel_rfl)
theorem AA(x0:Int)(x1:Int)(w:World):(Instr.build 70 (([0,1]:List Nat).zip [.int .i64 x0,.int .i64 x1]).toArray).run Tryz.prog w=.ok (.agg #[.int .i64 x0,.int .i64 x1,.string ⟨#[]⟩]) w:=by kernel_rfl
theorem uC:FD Tryz.prog 70 1 1:=.of Tryz.underlying70 (by kernel_rfl)
theorem Hf(x0:Int)(w:World):(Instr.build 97 (([1]:List Nat).zip [.int .i64 x0]).toArray).run Tryz.prog w=.ok (.agg #[.int .i64 0,.int .i64 0,.int .i64 0,.int .i64 x0]) w:=by kernel_rfl
theorem Hg(x0:ByteArray)(x1:Bool)(w:World):(Instr.build 132 (([0,1]:List Nat).zip [.string x0,.bool x1]).toArray).run Tryz.prog w=.ok (.agg #[.string x0,.bool x1]) w:=by kernel_rfl
theorem Hh:TI Tryz.prog 4 1 1 (.bool false):=.of (by kernel_rfl)
theorem Hi(x0:Int)(w:World):(Instr.build 70 (([0]:List Nat).zip [.int .i64 x0]).toArray).run Tryz.prog w=.ok (.agg #[.int .i64 x0,.int .i64 0,.string ⟨#[]⟩]) w:=by kernel_rfl
theorem Hj(x0:Option Addr)(x1:ByteArray)(w:World):(Instr.build 125 (([0,1]:List Nat).zip [.pointer x0,.string x1]).toArray).run Tryz.prog w=.ok (.agg #[.pointer x0,.string x1,.slice none 0 0]) w:=by kernel_rfl
theorem gr:cn Tryz.prog 48:=⟨_,Tryz.underlying48,trivial⟩
theorem jD:cn Tryz.prog 36:=⟨_,Tryz.underlying36,trivial⟩
theorem Hl:TS Tryz.prog 58 1:=.of (by kernel_rfl)
theorem Ho:cn Tryz.prog 58:=⟨_,Tryz.underlying58,trivial⟩
theorem Hq:TI Tryz.prog 58 1 8 (.nilFunc):=.of (by kernel_rfl)
theorem Hr(x0:Option Addr)(x1:ByteArray)(x2:Option Addr)(x3:Option Addr)(x4:Option Addr)(w:World):(Instr.build 80 (([0,1,2,3,4]:List Nat).zip [.pointer x0,.string x1,.pointer x2,.pointer x3,.pointer x4]).toArray).run Tryz.prog w=.ok (.agg #[.pointer x0,.string x1,.pointer x2,.pointer x3,.pointer x4]) w:=by kernel_rfl
theorem Hs:TS Tryz.prog 36 1:=.of (by kernel_rfl)
theorem Ht(x0:Int)(x1:Int)(x2:Int)(w:World):(Instr.build 41 (([1,2,4]:List Nat).zip [.int .i64 x0,.int .i64 x1,.int .i64 x2]).toArray).run Tryz.prog w=.ok (.agg #[.int .i64 0,.int .i64 x0,.int .i64 x1,.int .i64 0,.int .i64 x2,.slice none 0 0]) w:=by kernel_rfl
theorem qC:TS Tryz.prog 33 7:=.of (by kernel_rfl)
theorem DD:iM Tryz.prog 33:=⟨_,Tryz.underlying33,trivial⟩
theorem DE:TI Tryz.prog 33 7 72 (.agg #[.int .i64 0,.int .i64 0,.int .i64 0,.int .i64 0,.int .i64 0,.int .i64 0,.slice none 0 0]):=.of (by kernel_rfl)
theorem DF:FD Tryz.prog 104 1 1:=.of Tryz.underlying104 (by kernel_rfl)
end Go.Proofs.YtoglbebcdjdkiaaGreatDoor